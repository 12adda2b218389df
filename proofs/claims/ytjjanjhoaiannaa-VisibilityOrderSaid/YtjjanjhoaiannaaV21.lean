/- The law Order. -/
import Derived.Test.YtjjanjhoaiannaaV19
namespace Go.Proofs.Ytjjanjhoaiannaa
open Go.Shelf Go.RowKit Go.Lib Go.Sort Go.ChangeShapes Go.Maps
set_option linter.unusedVariables false
set_option linter.unusedSimpArgs false

/-! ### plainly -/
theorem findRow_perm {L Y : List RowV} (hn : (L.map (·.id)).Nodup) (hp : Y.Perm L) (q : IdB) : findRow Y q = findRow L q := by
  have hny : (Y.map (·.id)).Nodup := (hp.map _).nodup_iff.2 hn
  cases h : findRow L q with
  | some r =>
    obtain ⟨h1, h2⟩ := findRow_mem h
    rw [← h2]
    exact findRow_of hny (hp.mem_iff.2 h1)
  | none =>
    cases h' : findRow Y q with
    | none => rfl
    | some r =>
      obtain ⟨h1, h2⟩ := findRow_mem h'
      have h3 := findRow_of hn (hp.mem_iff.1 h1)
      rw [h2, h] at h3
      cases h3
theorem dec_perm {L Y : List RowV} {G G' : List IdB} {now : Int} (hn : (L.map (·.id)).Nodup) (hp : Y.Perm L) (hG : ∀ x, x ∈ G' ↔ x ∈ G) : ∀ (n : Nat) (r : RowV), dec Y G' now n r = dec L G now n r
  | 0, _ => rfl
  | n + 1, r => by
    have h1 : stepR Y r = stepR L r := by
      unfold stepR
      congr 1
      funext q
      exact findRow_perm hn hp q
    have h2 : termR G' now r = termR G now r := by
      unfold termR
      cases r.refs.getLast? with
      | none => rfl
      | some q =>
        dsimp only
        rw [show decide (q ∈ G') = decide (q ∈ G) by simp only [hG q]]
    show (match stepR Y r with | some p => dec Y G' now n p | none => termR G' now r) = (match stepR L r with | some p => dec L G now n p | none => termR G now r)
    rw [h1, h2]
    cases stepR L r with
    | none => rfl
    | some p => exact dec_perm hn hp hG n p
theorem shB_perm {L Y : List RowV} {G G' : List IdB} {now : Int} (hn : (L.map (·.id)).Nodup) (hp : Y.Perm L) (hG : ∀ x, x ∈ G' ↔ x ∈ G) : shB Y G' now = shB L G now := by
  funext r
  unfold shB
  rw [hp.length_eq]
  exact dec_perm hn hp hG _ r
theorem chkGo_of : ∀ (L : List RowV) (seen : List IdB), (∀ x ∈ L, 0 ≤ x.date ∧ x.date ≤ 105190559) → (∀ x ∈ L, x.refs.length ≤ 20) → (seen ++ L.map (·.id)).Nodup → vchkGo seen L = 0
  | [], _, _, _, _ => rfl
  | r :: L, seen, h1, h2, h3 => by
    have a := h1 r (List.mem_cons_self ..)
    have b := h2 r (List.mem_cons_self ..)
    unfold vchkGo
    rw [if_neg (by omega), if_neg (by omega), if_neg ?_]
    · refine chkGo_of L (seen ++ [r.id]) (fun x hx => h1 x (List.mem_cons_of_mem _ hx)) (fun x hx => h2 x (List.mem_cons_of_mem _ hx)) ?_
      rw [List.append_assoc]
      exact h3
    · intro hm
      rw [List.map_cons, List.nodup_append] at h3
      exact h3.2.2 _ hm _ (List.mem_cons_self ..) rfl
theorem chk_perm {L Y : List RowV} (h : chkL L = 0) (hp : Y.Perm L) : chkL Y = 0 := by
  obtain ⟨h1, h2, h3, h4⟩ := chk_zero h
  unfold chkL
  rw [if_neg (by rw [hp.length_eq]; omega)]
  exact chkGo_of Y [] (fun x hx => h2 x (hp.mem_iff.1 hx)) (fun x hx => h3 x (hp.mem_iff.1 hx)) (by rw [List.nil_append]; exact (hp.map _).nodup_iff.2 h4)
def turnI (N tv j : Nat) : Nat := (N - 1 - j + tv) % N
theorem turn_eq {N tv j : Nat} (hj : j < N) : turnI N tv j = if N - 1 - j + tv % N < N then N - 1 - j + tv % N else N - 1 - j + tv % N - N := by
  unfold turnI
  have hs : tv % N < N := Nat.mod_lt _ (by omega)
  have h1 : (N - 1 - j + tv) % N = (N - 1 - j + tv % N) % N := by rw [Nat.add_mod (N - 1 - j) tv, Nat.add_mod (N - 1 - j) (tv % N), Nat.mod_mod]
  rw [h1]
  by_cases h : N - 1 - j + tv % N < N
  · rw [if_pos h, Nat.mod_eq_of_lt h]
  · rw [if_neg h, Nat.mod_eq_sub_mod (by omega), Nat.mod_eq_of_lt (by omega)]
theorem turn_lt {N tv j : Nat} (hj : j < N) : turnI N tv j < N := Nat.mod_lt _ (by omega)
theorem turn_inv {N tv j : Nat} (hj : j < N) : turnI N tv (turnI N tv j) = j := by
  have hs : tv % N < N := Nat.mod_lt _ (by omega)
  have h1 := turn_eq (tv := tv) hj
  have h2 := turn_eq (tv := tv) (turn_lt (tv := tv) hj)
  rw [h2]
  generalize tv % N = s at hs h1 ⊢
  split at h1 <;> split <;> omega
theorem range_all {α : Type} (L : List α) : ∀ k, k ≤ L.length → (List.range k).filterMap (fun i => L[i]?) = L.take k
  | 0, _ => rfl
  | k + 1, h => by
    have hk : k < L.length := by omega
    rw [List.range_succ, List.filterMap_append, range_all L k (by omega), List.take_succ_eq_append_getElem hk]
    simp [List.getElem?_eq_getElem hk]
/-- The rows in another order, the first i of them. -/
def turnL (L : List RowV) (tv i : Nat) : List RowV := (List.range i).filterMap fun j => L[turnI L.length tv j]?
theorem turnL_next {L : List RowV} {tv i : Nat} (hi : i < L.length) : turnL L tv (i + 1) = turnL L tv i ++ [L[turnI L.length tv i]'(turn_lt hi)] := by
  unfold turnL
  rw [List.range_succ, List.filterMap_append]
  simp [List.getElem?_eq_getElem (turn_lt (tv := tv) hi)]
theorem turnL_perm (L : List RowV) (tv : Nat) : (turnL L tv L.length).Perm L := by
  have h1 : ((List.range L.length).map (turnI L.length tv)).Perm (List.range L.length) := by
    have hnd : ((List.range L.length).map (turnI L.length tv)).Nodup := by
      rw [List.nodup_iff_pairwise_ne, List.pairwise_map]
      have h0 : (List.range L.length).Nodup := List.nodup_range
      rw [List.nodup_iff_pairwise_ne] at h0
      refine List.Pairwise.imp_of_mem (R := fun a b => a ≠ b) ?_ h0
      intro a b ha hb hab e
      have e2 := congrArg (turnI L.length tv) e
      rw [turn_inv (List.mem_range.1 ha), turn_inv (List.mem_range.1 hb)] at e2
      exact hab e2
    refine (List.perm_ext_iff_of_nodup hnd List.nodup_range).2 fun a => ?_
    rw [List.mem_map, List.mem_range]
    constructor
    · rintro ⟨j, hj, rfl⟩
      exact turn_lt (List.mem_range.1 hj)
    · intro ha
      exact ⟨turnI L.length tv a, List.mem_range.2 (turn_lt ha), turn_inv ha⟩
  have h2 := h1.filterMap (fun i => L[i]?)
  rw [range_all L L.length (Nat.le_refl _), List.take_length, List.filterMap_map] at h2
  exact h2
/-- The identities twice, from the last on. -/
def dupL (G : List IdB) : List IdB := G.reverse.flatMap fun x => [x, x]
theorem dup_mem (G : List IdB) (x : IdB) : x ∈ dupL G ↔ x ∈ G := by
  unfold dupL
  rw [List.mem_flatMap]
  constructor
  · rintro ⟨y, hy, hx⟩
    simp only [List.mem_cons, List.not_mem_nil, or_false, or_self] at hx
    rw [hx]
    exact List.mem_reverse.1 hy
  · intro h
    exact ⟨x, List.mem_reverse.2 h, List.mem_cons_self ..⟩
theorem dup_next {G : List IdB} {m : Nat} (hm : m < G.length) : dupL (G.drop m) = dupL (G.drop (m + 1)) ++ [G[m], G[m]] := by
  unfold dupL
  rw [List.drop_eq_getElem_cons hm, List.reverse_cons, List.flatMap_append]
  rfl
theorem dup_len (G : List IdB) : (dupL G).length = 2 * G.length := by
  unfold dupL
  rw [List.length_flatMap]
  have : ∀ M : List IdB, ((M.map fun x => [x, x].length).sum) = 2 * M.length := fun M => by
    induction M with
    | nil => rfl
    | cons a M ih =>
      simp only [List.map_cons, List.sum_cons, List.length_cons, List.length_nil] at ih ⊢
      omega
  rw [this, List.length_reverse]
/-- The lines are the same. -/
theorem lines_perm {S Y : List RowV} (hp : Y.Perm S) (hn : (S.map (·.id)).Nodup) {c1 c2 : Par} (h1 : IsCut (pM (isArt (arrS S)) (arrS S)) (arrS S) c1) (h2 : IsCut (pM (isArt (arrS Y)) (arrS Y)) (arrS Y) c2) : (forestV S c1).map linN = (forestV Y c2).map linN := by
  obtain ⟨F, e1, e2⟩ := order_plain hp hn h1 h2
  rw [e1, e2, List.map_map, List.map_map]
  apply List.map_congr_left
  intro n _
  show linN (NodeV.re (idxL S) n) = linN (NodeV.re (idxL Y) n)
  unfold linN NodeV.re
  have h := idxL_perm hp n.id
  have g1 := idxL_ge S n.id
  have g2 := idxL_ge Y n.id
  have e : (idxL S n.id == -1) = (idxL Y n.id == -1) := by
    rw [Bool.eq_iff_iff, beq_iff_eq, beq_iff_eq]
    omega
  dsimp only
  rw [e]
theorem wp_lits {P : Program} {sT T : TypeId} {α : Type} (E : ElemTy P sT T α) {o : Oper} {a : Act} {w : World} {K : Act → World → Prop} {Q : Exit → Act → World → Prop} (n : Nat) (parts : Array (Nat × Operand)) (ho : o.op = .buildSlice sT n parts) (M : List α) (hn : M.length = n)
    (hps : (parts.toList.map fun (i, x) => (i, a.eval x)) = (M.map fun x => Value.agg (E.enc x).toArray).zipIdx.map fun x => (x.2, x.1)) (h0 : 0 < n) (h1 : n * E.k ≤ 2 ^ 24)
    (h : K (a.put o.dst (.slice (some ⟨w.heap.size, 0, none⟩) n n)) (w.alloc (.cells (M.flatMap E.enc).toArray T))) : o.wp P a w K Q := by
  subst hn
  have hp : (parts.map fun (i, x) => (i, a.eval x)) = ((M.map fun x => Value.agg (E.enc x).toArray).zipIdx.map fun x => (x.2, x.1)).toArray := by rw [← hps, ← List.map_toArray]
  have hr := exec_buildSlice (w := w) ho hp (run_lits E M h0 h1 w)
  unfold Oper.wp
  rw [hr, Oper.upon_value]
  exact h
theorem vexec_rem {o : Oper} {w : World} {ρ : Operand → Value} (a b : Nat) (hb : 0 < b) (x y : Operand) (ho : o.op = .binOp .rem 3 x y 3) (hx : ρ x = .int .i64 (a : Int)) (hy : ρ y = .int .i64 (b : Int)) : (execOp ρ o).run Try.prog w = .ok (.value (.int .i64 ((a % b : Nat) : Int))) w := by
  have h1 : ¬ ((b : Int) = 0) := by omega
  have h2 : (a : Int).tmod (b : Int) = ((a % b : Nat) : Int) := rfl
  have h3 : (binOp .rem 3 (.int .i64 (a : Int)) (.int .i64 (b : Int))).run Try.prog w = .ok (.int .i64 ((a % b : Nat) : Int)) w := by
    rw [← h2]
    simp [binOp, Op.intDiv, h1]
    try (intro e; omega)
  have h4 : (eqGuard .rem 3 x y (.int .i64 (a : Int)) (.int .i64 (b : Int))).run Try.prog w = .ok () w := by
    simp [eqGuard]
  unfold execOp
  simp only [ho, hx, hy, Sem.run_bind, h3, h4, Result.andThen_ok]
  rfl

set_option maxRecDepth 100000 in
set_option maxHeartbeats 2000000 in
theorem Order_law {w : World} (v u : Value) (L : List RowV) (G : List IdB) (now : Int) (tz : Int) (htz : 0 ≤ tz ∧ tz ≤ 255) (hv : RowsAt w v L) (hu : ListAt idE w u G) :
    Calls Try.prog 9 #[v, u, .int .i64 now, .int .u8 tz] w (fun e w' => e = .returned (.bool true) ∧ Below w.heap.size w w') := by
  obtain ⟨va, vc, rfl⟩ := hv.l.form
  obtain ⟨ua, uc, rfl⟩ := hu.form
  obtain ⟨N, hN⟩ : ∃ N, L.length = N := ⟨_, rfl⟩
  obtain ⟨tv, rfl⟩ : ∃ tv : Nat, tz = (tv : Int) := ⟨tz.toNat, by omega⟩
  have htv : tv < 256 := by omega
  obtain ⟨Kg, hKg⟩ : ∃ Kg, G.length = Kg := ⟨_, rfl⟩
  rw [hKg] at hu ⊢
  have HK := Lib.hid hKg
  have hlm : L.length ≤ 9223372036854775807 := by
    obtain ⟨a, c, e, h1, h2, _⟩ := hv.l.ex
    unfold maxLen at h2
    omega
  have HLM := Lib.hid hlm
  rw [hN] at hv ⊢
  have HV := Lib.hid hv
  have HU := Lib.hid hu
  have HN := Lib.hid hN
  clear hv hu hN hlm htz hKg
  go_enter Try.func9, Try.ntmps9
  go_wp2_with fail
  refine vknown_any.mono ?_
  rintro e wa ⟨rfl, hba⟩
  have HBA := Lib.hid hba
  clear hba
  go_wp2_with fail
  refine (few_any _ _ L G (HN.out.symm ▸ HV.out.below HBA.out) (HK.out.symm ▸ HU.out.below HBA.out) HLM.out).mono ?_
  rintro e wb ⟨rfl, hbb⟩
  have HBB := Lib.hid (HBA.out.trans (hbb.mono HBA.out.size))
  clear hbb
  obtain ⟨bf, hbf⟩ : ∃ bf, fewB L G = bf := ⟨_, rfl⟩
  rw [hbf]
  have HFEW := Lib.hid hbf
  clear hbf
  cases bf with
  | false =>
    go_wp2_with fail
    refine vknown_any.mono ?_
    rintro e wz ⟨rfl, hbz⟩
    have HBZ := Lib.hid hbz
    clear hbz
    go_wp2_with fail
    exact bodyPost_ret (v := .bool true) (by simp [results, Try.results9, go_sem]) rfl ⟨rfl, (HBB.out).trans (HBZ.out.mono (HBB.out).size)⟩
  | true =>
  obtain ⟨hf1, hf2, hf3⟩ := few_iff.1 HFEW.out
  have HF1 := Lib.hid hf1
  have HF2 := Lib.hid hf2
  have HF3 := Lib.hid hf3
  have HLN := Lib.hid (show L.length < 1000000000 by omega)
  have HGN := Lib.hid (show G.length < 1000000000 by omega)
  clear hf1 hf2 hf3
  go_wp2_with fail
  refine (check_any _ L (HN.out.symm ▸ HV.out.below HBB.out) HLN.out).mono ?_
  rintro e wc ⟨rfl, hbc⟩
  have HBC := Lib.hid ((HBB.out).trans (hbc.mono (HBB.out).size))
  clear hbc
  obtain ⟨ck, hck⟩ : ∃ ck, chkL L = ck := ⟨_, rfl⟩
  rw [hck]
  have HCHK := Lib.hid hck
  clear hck
  rcases Decidable.em (¬ ck = 0) with hc0 | hc0
  · have hcb : (ck == 0) = false := by simpa using hc0
    have hcb2 : (ck != 0) = true := by simp [bne, hcb]
    go_wp2_with fail
    refine vknown_any.mono ?_
    rintro e wz ⟨rfl, hbz⟩
    have HBZ := Lib.hid hbz
    clear hbz
    go_wp2_with fail
    exact bodyPost_ret (v := .bool true) (by simp [results, Try.results9, go_sem]) rfl ⟨rfl, (HBC.out).trans (HBZ.out.mono (HBC.out).size)⟩
  obtain rfl : ck = 0 := Decidable.of_not_not hc0
  clear hc0
  obtain ⟨hlen, hdt, hrf, hnd⟩ := chk_zero HCHK.out
  have HDT := Lib.hid hdt
  have HRF := Lib.hid hrf
  have HND := Lib.hid hnd
  clear hlen hdt hrf hnd
  have hN30 : N ≤ 30 := by have := HF2.out; have := HN.out; omega
  have hK30 : Kg ≤ 30 := by have := HF3.out; have := HK.out; omega
  have HL4 := Lib.hid (show L.length ≤ 4096 by have := HF2.out; omega)
  have HVC := Lib.hid (HV.out.below HBC.out)
  have HUC := Lib.hid (HU.out.below HBC.out)
  have HO0 := Lib.hid (show OwnL rowE wc wc.heap.size (.slice none 0 0) (turnL L tv 0) from ownL_nil rowE wc _)
  have HX0 := Lib.hid (Below.refl wc.heap.size wc)
  go_wp2_with fail
  go_loopw [9, 10] (fun rv iv wr => ∃ (i : Nat) (ra : Option Addr) (rc : Nat), i ≤ N ∧ iv = .int .i64 (i : Int) ∧ rv = .slice ra i rc ∧ Hid (OwnL rowE wr wc.heap.size (.slice ra i rc) (turnL L tv i)) ∧ Hid (Below wc.heap.size wc wr)) (fun _ iv _ => N - (intOf iv).toNat)
  case atStart => exact ⟨0, none, 0, Nat.zero_le _, rfl, rfl, HO0, HX0⟩
  case round =>
    obtain ⟨i, ra, rc, hi, rfl, rfl, HO, HB⟩ := hrel
    obtain ⟨W0, rfl⟩ : ∃ W0, W0 = wr := ⟨_, rfl⟩
    clear HO0 HX0
    by_cases hlt : i < N
    case pos =>
      have hiI : (i : Int) < (N : Int) := by omega
      have hiL : i < L.length := by rw [HN.out]; exact hlt
      have hN0 : 0 < N := by omega
      have HKL := Lib.hid (show (turnL L tv i).length = i by obtain ⟨a', c', e⟩ := HO.out.form; injection e with _ h2 _; exact h2.symm)
      obtain ⟨p, hp⟩ : ∃ p, turnI L.length tv i = p := ⟨_, rfl⟩
      have hpL : p < L.length := by rw [← hp]; exact turn_lt hiL
      have hpN : p < N := by rw [← HN.out]; exact hpL
      have hpI : (p : Int) < (N : Int) := by omega
      have hpm : (N - 1 - i + tv) % N = p := by rw [← hp]; unfold turnI; rw [HN.out]
      obtain ⟨R, hR⟩ : ∃ R, L[p] = R := ⟨_, rfl⟩
      have HNX := Lib.hid (show turnL L tv (i + 1) = turnL L tv i ++ [R] by
        rw [turnL_next hiL]
        subst hp
        rw [hR])
      obtain ⟨g, off, n9, c9, e9, hr, hrl⟩ := row_at (HVC.out.below HB.out) hpL
      cases e9
      rw [hR] at hr
      have HRR := Lib.hid hr
      have HPM := Lib.hid hpm
      clear hr hrl hR hp hpm
      go_wp2_with (refine wpList_runI rfl (some 50) rfl (.int .i64 (tv : Int)) _ (exec_conv tv htv (.tmp 49) rfl rfl) ?_; refine Stop.on ?_)
      refine Stop.go ?_
      try simp only [Act.put, List.setIfInBounds_toArray, List.set_cons_zero, List.set_cons_succ]
      go_wp2_with (refine wpList_runI rfl (some 54) rfl (.int .i64 (((N - 1 - i + tv) % N : Nat) : Int)) _ (vexec_rem (N - 1 - i + tv) N hN0 (.tmp 51) (.tmp 53) rfl (congrArg (Value.int .i64) (show (N : Int) - 1 - (i : Int) + (tv : Int) = ((N - 1 - i + tv : Nat) : Int) by omega)) rfl) ?_; refine Stop.on ?_)
      refine Stop.go ?_
      try simp only [Act.put, List.setIfInBounds_toArray, List.set_cons_zero, List.set_cons_succ]
      rw [HPM.out]
      go_wp2_with (with_reducible refine wpList_load_mid rfl 36 (.tmp 55) rfl g (off + p * 83) rfl R.cells _ HRR.out Try.underlying36 rfl (sizeRow R) ?_; refine Stop.on ?_)
      refine Stop.go ?_
      try simp only [Act.put, List.setIfInBounds_toArray, List.set_cons_zero, List.set_cons_succ]
      go_wp2_with (refine wpList_litsV rowE rfl (some 57) rfl 1 _ rfl [R] rfl rfl (by decide) (by decide) ?_; refine Stop.on ?_)
      refine Stop.go ?_
      try simp only [Act.put, List.setIfInBounds_toArray, List.set_cons_zero, List.set_cons_succ]
      intro Wl xl bl sl
      try simp only [Act.put, List.setIfInBounds_toArray, List.set_cons_zero, List.set_cons_succ]
      have HLL := Lib.hid (show ListAt rowE Wl (.slice (some ⟨W0.heap.size, 0, none⟩) 1 1) [R] from list_block1 rowE (by simpa using xl))
      have HOl := Lib.hid (HO.out.below bl)
      have HBl := Lib.hid (HB.out.trans (bl.mono HB.out.size))
      clear xl bl sl
      go_wp2_with (refine wpList_appL rowE rfl (.tmp 42) (.tmp 57) rfl rfl HOl.out rfl HLL.out (n := i) (m := 1) HKL.out rfl (by omega) HBl.out.size ?_; refine Stop.on ?_)
      refine Stop.go ?_
      try simp only [Act.put, List.setIfInBounds_toArray, List.set_cons_zero, List.set_cons_succ]
      intro a5 c5 W5 ho5 hg5 hat5
      try simp only [Act.put, List.setIfInBounds_toArray, List.set_cons_zero, List.set_cons_succ]
      have HON := Lib.hid (show OwnL rowE W5 wc.heap.size (.slice a5 (i + 1) c5) (turnL L tv (i + 1)) by rw [HNX.out]; exact ho5)
      have HBN := Lib.hid (HBl.out.trans (HOl.out.grown_below hg5 HBl.out.size))
      clear ho5 hg5 hat5
      go_wp2_with fail
      go_roundw
      case rel => exact ⟨i + 1, a5, c5, by omega, by go_num, rfl, HON, HBN⟩
      case measure => simp [intOf] <;> omega
    obtain rfl : N = i := by omega
    obtain ⟨Y, hY⟩ : ∃ Y, turnL L tv N = Y := ⟨_, rfl⟩
    rw [hY] at HO
    have HYP := Lib.hid (show Y.Perm L by rw [← hY, ← HN.out]; exact turnL_perm L tv)
    have HYL := Lib.hid (show Y.length = N by rw [HYP.out.length_eq, HN.out])
    have HBW := Lib.hid (HBC.out.trans (HB.out.mono HBC.out.size))
    have HYR := Lib.hid (show RowsAt W0 (.slice ra N rc) Y from ⟨HO.out.at_, fun R hR => (HVC.out.below HB.out).r R (HYP.out.mem_iff.1 hR)⟩)
    have HYC := Lib.hid (chk_perm HCHK.out HYP.out)
    have HUW := Lib.hid (HUC.out.below HB.out)
    clear hY HO HB HVC HUC
    have hK1 : (Kg : Int) - 1 = ((Kg : Nat) : Int) - 1 := rfl
    clear hK1
    have HI0 := Lib.hid (show OwnL idE W0 W0.heap.size (.slice none 0 0) (dupL (G.drop Kg)) by rw [List.drop_of_length_le (by rw [HK.out]; exact Nat.le_refl _)]; exact ownL_nil idE W0 _)
    have HX0 := Lib.hid (Below.refl W0.heap.size W0)
    go_wp2_with fail
    go_loopw [11, 12] (fun gv zv wr => ∃ (m k : Nat) (ga : Option Addr) (gc : Nat), m ≤ Kg ∧ k ≤ 60 ∧ zv = .int .i64 ((m : Int) - 1) ∧ gv = .slice ga k gc ∧ Hid (OwnL idE wr W0.heap.size (.slice ga k gc) (dupL (G.drop m))) ∧ Hid (Below W0.heap.size W0 wr)) (fun _ zv _ => (intOf zv + 1).toNat)
    case atStart => exact ⟨Kg, 0, none, 0, Nat.le_refl _, by omega, rfl, rfl, HI0, HX0⟩
    case round =>
      obtain ⟨m, k, ga, gc, hm, hk, rfl, rfl, HO, HB⟩ := hrel
      obtain ⟨W1, rfl⟩ : ∃ W1, W1 = wr := ⟨_, rfl⟩
      clear HI0 HX0
      by_cases hm0 : 0 < m
      case pos =>
        obtain ⟨p, rfl⟩ : ∃ p, m = p + 1 := ⟨m - 1, by omega⟩
        have hpe : ((p + 1 : Nat) : Int) - 1 = (p : Int) := by omega
        rw [hpe]
        have hpG : p < G.length := by rw [HK.out]; omega
        have hpI : (p : Int) < (Kg : Int) := by omega
        have hp0 : (0 : Int) ≤ (p : Int) := by omega
        have HKL := Lib.hid (show (dupL (G.drop (p + 1))).length = k by obtain ⟨a', c', e⟩ := HO.out.form; cases e; rfl)
        have hkl : k + 2 ≤ 60 := by
          have h1 := HKL.out
          rw [dup_len, List.length_drop] at h1
          have h2 := HK.out
          omega
        obtain ⟨x, hx⟩ : ∃ x, G[p] = x := ⟨_, rfl⟩
        have HNX := Lib.hid (show dupL (G.drop p) = dupL (G.drop (p + 1)) ++ [x, x] by rw [dup_next hpG, hx])
        obtain ⟨g, off, e9, hg, hr⟩ := (HUW.out.below HB.out).get hpG
        subst e9
        rw [hx] at hr
        have HRR := Lib.hid (show ∀ w', Below W1.heap.size W1 w' → w'.rangeAt g (off + p * 32) (bvs x.1) from fun w' hw' => range_below (show W1.rangeAt g (off + p * 32) (bvs x.1) from hr) hg hw')
        have HGX := Lib.hid (show g < W0.heap.size ∧ W0.rangeAt g (off + p * 32) (bvs x.1) from by
          obtain ⟨g', o', e9, h1, h2⟩ := HUW.out.get hpG
          cases e9
          rw [hx] at h2
          exact ⟨h1, h2⟩)
        clear hpe hx hr hg
        go_wp2_with fail
        refine wp_region_noPanic ?_
        refine wp_region_H (fun w' => Below W0.heap.size W0 w' ∧ w'.rangeAt g (off + p * 32) (bvs x.1)) (by kernel_rfl) ?_
        have hS0 : (fun w' => Below W0.heap.size W0 w' ∧ w'.rangeAt g (off + p * 32) (bvs x.1)) W1.drew := ⟨HB.out.drew, HRR.out _ (Below.refl _ _).drew⟩
        have HOd := Lib.hid (HO.out.below (Below.refl W1.heap.size W1).drew)
        obtain ⟨wd, hwd⟩ : ∃ wd, W1.drew = wd := ⟨_, rfl⟩
        rw [hwd] at hS0 HOd ⊢
        clear hwd
        refine wpAnyH_takeI (i := 0) (v := ?v7) rfl (by kernel_rfl) (by kernel_rfl) (by kernel_rfl) (fun _ _ _ h => h) (yieldsIf_run rfl (fun w' hw' => ?y7)) hS0 ?_
        case y7 => first | (go_simp; rfl) | (go_simp; done) | rfl
        simp only [Act.put, List.setIfInBounds_toArray, List.set_cons_zero, List.set_cons_succ]
        refine wpAnyH_takeI (i := 1) (v := ?v8) rfl (by kernel_rfl) (by kernel_rfl) (by kernel_rfl) (fun _ _ _ h => h) (yieldsIf_run rfl (fun w' hw' => ?y8)) hS0 ?_
        case y8 => first | (go_simp; rfl) | (go_simp; done) | rfl
        simp only [Act.put, List.setIfInBounds_toArray, List.set_cons_zero, List.set_cons_succ]
        refine wpAnyH_takeI (i := 2) (v := ?v9) rfl (by kernel_rfl) (by kernel_rfl) (by kernel_rfl) (fun _ _ _ h => h) (yieldsIf_run rfl (fun w' hw' => ?y9)) hS0 ?_
        case y9 => first | (go_simp; rfl) | (go_simp; done) | rfl
        simp only [Act.put, List.setIfInBounds_toArray, List.set_cons_zero, List.set_cons_succ]
        refine wpAnyH_takeI (i := 3) (v := ?v10) rfl (by kernel_rfl) (by kernel_rfl) (by kernel_rfl) (fun _ _ _ h => h) (yieldsIf_run rfl (fun w' hw' => ?y10)) hS0 ?_
        case y10 => first | (go_simp; rfl) | (go_simp; done) | rfl
        simp only [Act.put, List.setIfInBounds_toArray, List.set_cons_zero, List.set_cons_succ]
        refine wpAnyH_takeI (i := 4) (v := .agg (bvs x.1).toArray) rfl (by kernel_rfl) (by kernel_rfl) (by kernel_rfl) (fun _ _ _ h => h) (yieldsIf_load_mid rfl 31 (.tmp 69) rfl g (off + p * 32) rfl (bvs x.1) _ (fun w' hw' => hw'.2) Try.underlying31 rfl (sizeId x)) hS0 ?_
        simp only [Act.put, List.setIfInBounds_toArray, List.set_cons_zero, List.set_cons_succ]
        refine wpAnyH_takeI (i := 5) (v := ?v11) rfl (by kernel_rfl) (by kernel_rfl) (by kernel_rfl) (fun _ _ _ h => h) (yieldsIf_run rfl (fun w' hw' => ?y11)) hS0 ?_
        case y11 => first | (go_simp; rfl) | (go_simp; done) | rfl
        simp only [Act.put, List.setIfInBounds_toArray, List.set_cons_zero, List.set_cons_succ]
        refine wpAnyH_takeI (i := 6) (v := ?v12) rfl (by kernel_rfl) (by kernel_rfl) (by kernel_rfl) (fun _ _ _ h => h) (yieldsIf_run rfl (fun w' hw' => ?y12)) hS0 ?_
        case y12 => first | (go_simp; rfl) | (go_simp; done) | rfl
        simp only [Act.put, List.setIfInBounds_toArray, List.set_cons_zero, List.set_cons_succ]
        refine wpAnyH_takeI (i := 7) (v := ?v13) rfl (by kernel_rfl) (by kernel_rfl) (by kernel_rfl) (fun _ _ _ h => h) (yieldsIf_run rfl (fun w' hw' => ?y13)) hS0 ?_
        case y13 => first | (go_simp; rfl) | (go_simp; done) | rfl
        simp only [Act.put, List.setIfInBounds_toArray, List.set_cons_zero, List.set_cons_succ]
        refine wpAnyH_takeI (i := 8) (v := .agg (bvs x.1).toArray) rfl (by kernel_rfl) (by kernel_rfl) (by kernel_rfl) (fun _ _ _ h => h) (yieldsIf_load_mid rfl 31 (.tmp 73) rfl g (off + p * 32) rfl (bvs x.1) _ (fun w' hw' => hw'.2) Try.underlying31 rfl (sizeId x)) hS0 ?_
        simp only [Act.put, List.setIfInBounds_toArray, List.set_cons_zero, List.set_cons_succ]
        refine wpAnyH_do (i := 9) (by kernel_rfl) rfl rfl (fun K hK => ?_)
        refine wp_lits idE 2 _ rfl [x, x] rfl rfl (by decide) (by decide) ?_
        obtain ⟨W9, hwn⟩ : ∃ W9, wd.alloc (.cells ([x, x].flatMap idE.enc).toArray 31) = W9 := ⟨_, rfl⟩
        have hbn : Below wd.heap.size wd W9 := hwn ▸ (Below.refl _ _).alloc (Nat.le_refl _) _
        have hL9 : W9.heap[wd.heap.size]? = some (.cells ([x, x].flatMap idE.enc).toArray 31 (0, 0)) := by rw [← hwn]; exact heap_alloc_new _ _
        rw [hwn]
        have HLL := Lib.hid (show ListAt idE W9 (.slice (some ⟨wd.heap.size, 0, none⟩) 2 2) [x, x] from list_of_block idE (M := [x, x]) hL9 (le_max4 (by simp)))
        have hS9 : (fun w' => Below W0.heap.size W0 w' ∧ w'.rangeAt g (off + p * 32) (bvs x.1)) W9 := ⟨hS0.1.trans (hbn.mono hS0.1.size), range_below hS0.2 (World.block_lt_of_cell? _ _ (hS0.2 0 _ (List.getElem?_eq_getElem (by rw [bvs_length, x.2]; decide)))) hbn⟩
        have HO9 := Lib.hid (HOd.out.below hbn)
        have HBS9 := Lib.hid hS9.1.size
        clear hbn hL9 hwn
        refine hK _ _ (hS9) ?_
        clear hK K
        try simp only [Act.put, List.setIfInBounds_toArray, List.set_cons_zero, List.set_cons_succ]
        refine wpAnyH_do (i := 10) (by kernel_rfl) rfl rfl (fun K hK => ?_)
        refine wp_appL idE (.tmp 66) (.tmp 75) rfl rfl HO9.out rfl HLL.out (n := k) (m := 2) HKL.out rfl (by omega) HBS9.out ?_
        intro a5 c5 W5 ho5 hg5 hat5
        have hb5 := HO9.out.grown_below hg5 HBS9.out
        have HON := Lib.hid (show OwnL idE W5 W0.heap.size (.slice a5 (k + 2) c5) (dupL (G.drop p)) by rw [HNX.out]; exact ho5)
        have HB5 := Lib.hid (hS9.1.trans hb5)
        have hS5 : (fun w' => Below W0.heap.size W0 w' ∧ w'.rangeAt g (off + p * 32) (bvs x.1)) W5 := ⟨HB5.out, range_below HGX.out.2 HGX.out.1 HB5.out⟩
        clear ho5 hg5 hat5 hb5
        refine hK _ _ (hS5) ?_
        clear hK K
        try simp only [Act.put, List.setIfInBounds_toArray, List.set_cons_zero, List.set_cons_succ]
        refine wpAnyH_takeI (i := 11) (v := ?v14) rfl (by kernel_rfl) (by kernel_rfl) (by kernel_rfl) (fun _ _ _ h => h) (yieldsIf_run rfl (fun w' hw' => ?y14)) hS5 ?_
        case y14 => first | (go_simp; rfl) | (go_simp; done) | rfl
        simp only [Act.put, List.setIfInBounds_toArray, List.set_cons_zero, List.set_cons_succ]
        refine wpAnyH_done (by kernel_rfl) ?_ _
        refine NoPanic.normal ?_
        go_wp2_with fail
        go_roundw
        case rel => exact ⟨p, k + 2, a5, c5, by omega, hkl, by go_num, rfl, HON, HB5⟩
        case measure => simp [intOf] <;> omega
      obtain rfl : m = 0 := by omega
      obtain ⟨G', hG'⟩ : ∃ G', dupL (G.drop 0) = G' := ⟨_, rfl⟩
      rw [hG'] at HO
      have HGM := Lib.hid (show ∀ x, x ∈ G' ↔ x ∈ G from fun x => by rw [← hG', List.drop_zero]; exact dup_mem G x)
      have HGL := Lib.hid (show G'.length = k by obtain ⟨a', c', e⟩ := HO.out.form; cases e; rfl)
      have HGO := Lib.hid HO.out.at_
      have HBX := Lib.hid (HBW.out.trans (HB.out.mono HBW.out.size))
      have HYX := Lib.hid (HYR.out.below HB.out)
      have HSE := Lib.hid (shB_perm (now := now) HND.out HYP.out HGM.out)
      clear hG' HO HB HUW HYR hm0
      go_wp2_with fail
      refine (Shown_any _ _ L G now (HN.out.symm ▸ HV.out.below HBX.out) (HK.out.symm ▸ HU.out.below HBX.out) HLN.out HGN.out).mono ?_
      rintro e w5 ⟨xv, rfl, hox, hb5⟩
      rw [HCHK.out, if_pos rfl] at hox
      rw [HCHK.out]
      obtain ⟨X, hX⟩ : ∃ X, sortB ((L.filter fun r => shB L G now r).map (·.id)) = X := ⟨_, rfl⟩
      rw [hX] at hox
      have HX := Lib.hid hX
      have HXL := Lib.hid (show X.length ≤ L.length by
        rw [← hX, (sortB_perm _).length_eq, List.length_map]
        exact List.length_filter_le _ _)
      have HOX5 := Lib.hid hox.at_
      have HB5 := Lib.hid (HBX.out.trans (hb5.mono HBX.out.size))
      have HY5 := Lib.hid (HYX.out.below hb5)
      have HG5 := Lib.hid (HGO.out.below hb5)
      clear hox hb5 hX
      go_wp2_with fail
      refine (Shown_any _ _ Y G' now HY5.out HG5.out (by rw [HYL.out]; omega) (by rw [HGL.out]; omega)).mono ?_
      rintro e w6 ⟨yv, rfl, hoy, hb6⟩
      rw [HYC.out, if_pos rfl, show sortB ((Y.filter fun r => shB Y G' now r).map (·.id)) = X by
        rw [← HX.out, HSE.out]
        exact sortB_of ((HYP.out.filter _).map _)] at hoy
      rw [HYC.out]
      have HOY6 := Lib.hid hoy.at_
      have HB6 := Lib.hid (HB5.out.trans (hb6.mono HB5.out.size))
      have HY6 := Lib.hid (HY5.out.below hb6)
      have HG6 := Lib.hid (HG5.out.below hb6)
      have HOX6 := Lib.hid (HOX5.out.below hb6)
      clear hoy hb6
      go_wp2_with fail
      refine (Listing_yes _ _ L G now (HN.out.symm ▸ HV.out.below HB6.out) (HK.out.symm ▸ HU.out.below HB6.out) HL4.out HGN.out HCHK.out).mono ?_
      rintro e w7 ⟨av, c1, rfl, hc1, hoa, hb7⟩
      have HB7 := Lib.hid (HB6.out.trans (hb7.mono HB6.out.size))
      have HY7 := Lib.hid (HY6.out.below hb7)
      have HG7 := Lib.hid (HG6.out.below hb7)
      have HOX7 := Lib.hid (HOX6.out.below hb7)
      have HOY7 := Lib.hid (HOY6.out.below hb7)
      have HSN := Lib.hid (show ((L.filter (shB L G now)).map (·.id)).Nodup from filter_nodup _ HND.out)
      have hfew := forest_few HSN.out hc1
      have hsl := List.length_filter_le (shB L G now) L
      have hgood := good HSN.out hc1
      obtain ⟨A, hA⟩ : ∃ A, (forestV (L.filter (shB L G now)) c1).map linN = A := ⟨_, rfl⟩
      rw [hA] at hoa
      have HLS := Lib.hid (show ∀ ln ∈ A, LSm ln from fun ln hln => by
        rw [← hA] at hln
        obtain ⟨nd, hnd, rfl⟩ := List.mem_map.1 hln
        exact lin_small hgood (by have := HF2.out; omega) nd hnd)
      have HA := Lib.hid hA
      have HC1 := Lib.hid hc1
      obtain ⟨aa, ac, rfl⟩ := hoa.form
      obtain ⟨n, hn⟩ : ∃ n, A.length = n := ⟨_, rfl⟩
      have hn60 : n ≤ 60 := by
        rw [← hn, ← hA, List.length_map]
        have := HN.out
        omega
      rw [hn] at hoa ⊢
      have HAN := Lib.hid hn
      have HOA := Lib.hid hoa.at_
      clear hc1 hoa hb7 hfew hsl hgood hA hn
      go_wp2_with fail
      refine (Listing_yes _ _ Y G' now HY7.out HG7.out (by rw [HYL.out]; omega) (by rw [HGL.out]; omega) HYC.out).mono ?_
      rintro e w8 ⟨bv, c2, rfl, hc2, hob, hb8⟩
      have HAB := Lib.hid (show (forestV (Y.filter (shB Y G' now)) c2).map linN = A by
        rw [← HA.out]
        rw [HSE.out] at hc2 ⊢
        exact (lines_perm (HYP.out.filter _) HSN.out HC1.out hc2).symm)
      rw [HAB.out] at hob
      obtain ⟨ba, bc, rfl⟩ := hob.form
      rw [HAN.out] at hob ⊢
      have HOB := Lib.hid hob.at_
      have HB8 := Lib.hid (HB7.out.trans (hb8.mono HB7.out.size))
      have HOA8 := Lib.hid (HOA.out.below hb8)
      have HOX8 := Lib.hid (HOX7.out.below hb8)
      have HOY8 := Lib.hid (HOY7.out.below hb8)
      clear hc2 hob hb8
      have hzz : ((0 : Int) != 0) = false := by decide
      have hnn : ((n : Int) != (n : Int)) = false := by simp
      go_wp2_with fail
      refine (equal_any _ _ X X HOX8.out HOY8.out (by have := HXL.out; have := HLN.out; omega) (by have := HXL.out; have := HLN.out; omega)).mono ?_
      rintro e w9 ⟨rfl, hb9⟩
      rw [decide_eq_true rfl]
      have HB9 := Lib.hid (HB8.out.trans (hb9.mono HB8.out.size))
      have HA9 := Lib.hid (HOA8.out.below hb9)
      have HB9b := Lib.hid (HOB.out.below hb9)
      clear hb9
      go_wp2_with fail
      have HZ0 := Lib.hid (Below.refl w9.heap.size w9)
      go_loopw [21] (fun jv wr => ∃ j : Nat, j ≤ n ∧ jv = .int .i64 (j : Int) ∧ Hid (Below w9.heap.size w9 wr)) (fun jv _ => n - (intOf jv).toNat)
      case atStart => exact ⟨0, Nat.zero_le _, rfl, HZ0⟩
      case round =>
        obtain ⟨j, hj, rfl, HZ⟩ := hrel
        obtain ⟨W2, rfl⟩ : ∃ W2, W2 = wr := ⟨_, rfl⟩
        clear HZ0
        by_cases hlj : j < n
        case neg =>
          obtain rfl : n = j := by omega
          have HBZ := Lib.hid (HB9.out.trans (HZ.out.mono HB9.out.size))
          go_wp2_with fail
          exact bodyPost_ret (v := .bool true) (by simp [results, Try.results9, go_sem]) rfl ⟨rfl, HBZ.out⟩
        have hjI : (j : Int) < (n : Int) := by omega
        have hjA : j < A.length := by rw [HAN.out]; exact hlj
        obtain ⟨ga2, oa2, e9, hga, hra⟩ := HA9.out.get hjA
        subst e9
        obtain ⟨gb2, ob2, e9, hgb, hrb⟩ := HB9b.out.get hjA
        subst e9
        obtain ⟨ln, hln⟩ : ∃ ln, A[j] = ln := ⟨_, rfl⟩
        rw [hln] at hra hrb
        have HSM := Lib.hid (HLS.out ln (by rw [← hln]; exact List.getElem_mem hjA))
        have HRR := Lib.hid (show ∀ w', Below W2.heap.size W2 w' → w'.rangeAt ga2 (oa2 + j * 34) ln.cells ∧ w'.rangeAt gb2 (ob2 + j * 34) ln.cells from fun w' hw' => by
          have hbb := HZ.out.trans (hw'.mono HZ.out.size)
          exact ⟨range_below (show w9.rangeAt ga2 (oa2 + j * 34) ln.cells from hra) hga hbb, range_below (show w9.rangeAt gb2 (ob2 + j * 34) ln.cells from hrb) hgb hbb⟩)
        clear hln hra hrb hga hgb
        go_wp2_with fail
        refine wp_region_noPanic ?_
        refine wp_region_H (Below W2.heap.size W2) (by kernel_rfl) ?_
        have hS0 : (Below W2.heap.size W2) W2.drew := (Below.refl _ _).drew
        obtain ⟨wd, hwd⟩ : ∃ wd, W2.drew = wd := ⟨_, rfl⟩
        rw [hwd] at hS0  ⊢
        clear hwd
        refine wpAnyH_takeI (i := 0) (v := ?v1) rfl (by kernel_rfl) (by kernel_rfl) (by kernel_rfl) (fun _ _ _ h => h) (yieldsIf_run rfl (fun w' hw' => ?y1)) hS0 ?_
        case y1 => first | (go_simp; rfl) | (go_simp; done) | rfl
        simp only [Act.put, List.setIfInBounds_toArray, List.set_cons_zero, List.set_cons_succ]
        refine wpAnyH_takeI (i := 1) (v := ?v2) rfl (by kernel_rfl) (by kernel_rfl) (by kernel_rfl) (fun _ _ _ h => h) (yieldsIf_run rfl (fun w' hw' => ?y2)) hS0 ?_
        case y2 => first | (go_simp; rfl) | (go_simp; done) | rfl
        simp only [Act.put, List.setIfInBounds_toArray, List.set_cons_zero, List.set_cons_succ]
        refine wpAnyH_takeI (i := 2) (v := ?v3) rfl (by kernel_rfl) (by kernel_rfl) (by kernel_rfl) (fun _ _ _ h => h) (yieldsIf_run rfl (fun w' hw' => ?y3)) hS0 ?_
        case y3 => first | (go_simp; rfl) | (go_simp; done) | rfl
        simp only [Act.put, List.setIfInBounds_toArray, List.set_cons_zero, List.set_cons_succ]
        refine wpAnyH_takeI (i := 3) (v := .agg (ln.cells).toArray) rfl (by kernel_rfl) (by kernel_rfl) (by kernel_rfl) (fun _ _ _ h => h) (yieldsIf_load_mid rfl 55 (.tmp 137) rfl ga2 (oa2 + j * 34) rfl (ln.cells) _ (fun w' hw' => (HRR.out w' hw').1) Try.underlying55 rfl (sizeLin ln)) hS0 ?_
        simp only [Act.put, List.setIfInBounds_toArray, List.set_cons_zero, List.set_cons_succ]
        refine wpAnyH_takeI (i := 4) (v := ?v4) rfl (by kernel_rfl) (by kernel_rfl) (by kernel_rfl) (fun _ _ _ h => h) (yieldsIf_run rfl (fun w' hw' => ?y4)) hS0 ?_
        case y4 => first | (go_simp; rfl) | (go_simp; done) | rfl
        simp only [Act.put, List.setIfInBounds_toArray, List.set_cons_zero, List.set_cons_succ]
        refine wpAnyH_takeI (i := 5) (v := ?v5) rfl (by kernel_rfl) (by kernel_rfl) (by kernel_rfl) (fun _ _ _ h => h) (yieldsIf_run rfl (fun w' hw' => ?y5)) hS0 ?_
        case y5 => first | (go_simp; rfl) | (go_simp; done) | rfl
        simp only [Act.put, List.setIfInBounds_toArray, List.set_cons_zero, List.set_cons_succ]
        refine wpAnyH_takeI (i := 6) (v := ?v6) rfl (by kernel_rfl) (by kernel_rfl) (by kernel_rfl) (fun _ _ _ h => h) (yieldsIf_run rfl (fun w' hw' => ?y6)) hS0 ?_
        case y6 => first | (go_simp; rfl) | (go_simp; done) | rfl
        simp only [Act.put, List.setIfInBounds_toArray, List.set_cons_zero, List.set_cons_succ]
        refine wpAnyH_takeI (i := 7) (v := .agg (ln.cells).toArray) rfl (by kernel_rfl) (by kernel_rfl) (by kernel_rfl) (fun _ _ _ h => h) (yieldsIf_load_mid rfl 55 (.tmp 141) rfl gb2 (ob2 + j * 34) rfl (ln.cells) _ (fun w' hw' => (HRR.out w' hw').2) Try.underlying55 rfl (sizeLin ln)) hS0 ?_
        simp only [Act.put, List.setIfInBounds_toArray, List.set_cons_zero, List.set_cons_succ]
        refine wpAnyH_takeI (i := 8) (v := .bool false) rfl (by kernel_rfl) (by kernel_rfl) (by kernel_rfl) (fun _ _ _ h => h) (yieldsIf_run rfl (fun w' hw' => op_neq 55 (.tmp 138) (.tmp 142) 55 rfl rfl rfl guard_Lin (neq_Lin HSM.out _))) hS0 ?_
        simp only [Act.put, List.setIfInBounds_toArray, List.set_cons_zero, List.set_cons_succ]
        refine wpAnyH_done (by kernel_rfl) ?_ _
        refine NoPanic.normal ?_
        have HZN := Lib.hid (HZ.out.trans (hS0.mono HZ.out.size))
        go_wp2_with fail
        go_roundw
        case rel => exact ⟨j + 1, by omega, by go_num, HZN⟩
        case measure => simp [intOf] <;> omega
end Go.Proofs.Ytjjanjhoaiannaa
