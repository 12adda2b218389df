/- The law's rows. -/
import Derived.Test.YthfinofmbnfijaaTh15
namespace Go.Proofs.Ythfinofmbnfijaa
open Go.Shelf Go.RowKit Go.Lib Go.Sort Go.Maps
set_option linter.unusedVariables false
set_option linter.unusedSimpArgs false

/-- A described article. -/
structure RawV where
  id : UInt8
  date : UInt8
  rv : Value
  hrv : rv.oneCell' = true
  refs : List UInt8
def RawV.cells (R : RawV) : List Value := [.int .u8 (R.id.toNat : Int), .int .u8 (R.date.toNat : Int), R.rv]
def rawE : ElemTy Try.prog 22 51 RawV where
  enc := RawV.cells
  k := 3
  hu := Try.underlying22
  hi := ⟨.agg #[.int .u8 0, .int .u8 0, .slice none 0 0], 32, by kernel_rfl, by kernel_rfl, by decide⟩
  hk := by decide
  len _ := rfl
  one R := by
    intro v hv
    simp only [RawV.cells, List.mem_cons, List.not_mem_nil, or_false] at hv
    rcases hv with rfl | rfl | rfl
    · rfl
    · rfl
    · exact R.hrv
def u8E : ElemTy Try.prog 45 5 UInt8 where
  enc n := [.int .u8 (n.toNat : Int)]
  k := 1
  hu := Try.underlying45
  hi := ⟨.int .u8 0, 1, by kernel_rfl, rfl, by decide⟩
  hk := by decide
  len _ := rfl
  one n := by
    intro v hv
    simp only [List.mem_cons, List.not_mem_nil, or_false] at hv
    rw [hv]
    rfl
structure RawsAt (w : World) (v : Value) (L : List RawV) : Prop where
  l : ListAt rawE w v L
  r : ∀ R ∈ L, ListAt u8E w R.rv R.refs
theorem RawsAt.below {w w' : World} {v : Value} {L : List RawV} (h : RawsAt w v L) (hb : Below w.heap.size w w') : RawsAt w' v L := ⟨h.l.below hb, fun R hR => (h.r R hR).below hb⟩
/-! ### what rows gives -/
def rawTw (R : RawV) : Tw := ⟨idOf R.id, (R.date.toNat : Int), (R.refs.take 5).map idOf⟩
def rowStep (acc : List Tw) (R : RawV) : List Tw := if acc.any (fun t => decide (t.id = idOf R.id)) then acc else acc ++ [rawTw R]
def rowsT (L : List RawV) : List Tw := (L.take 14).foldl rowStep []
/-- Rows of their own, with references of their own. -/
structure RowsOwn (w : World) (B : Nat) (v : Value) (M : List RowV) : Prop where
  own : OwnL rowE w B v M
  refs : ∀ R ∈ M, OwnL idE w B R.rv R.refs
  disj : ∀ R ∈ M, ∀ k, R.rv.ownBlock = some k → v.ownBlock ≠ some k
section
variable {w w' : World} {B : Nat} {v : Value} {M : List RowV}
theorem RowsOwn.below (h : RowsOwn w B v M) (hb : Below w.heap.size w w') : RowsOwn w' B v M := ⟨h.own.below hb, fun R hR => (h.refs R hR).below hb, h.disj⟩
theorem RowsOwn.at_ (h : RowsOwn w B v M) : RowsAt w v M := ⟨h.own.at_, fun R hR => (h.refs R hR).at_⟩
theorem RowsOwn.nil (w : World) (B : Nat) : RowsOwn w B (.slice none 0 0) [] := ⟨ownL_nil _ _ _, fun R hR => (by cases hR), fun R hR => (by cases hR)⟩
theorem RowsOwn.snoc (h : RowsOwn w B v M) {R : RowV} {v' : Value} {N : Nat} (hr : OwnL idE w N R.rv R.refs) (hN : B ≤ N) (hlt : ∀ k, v.ownBlock = some k → k < N) (ho : OwnL rowE w' B v' (M ++ [R])) (hg : w.grownBy w' v.ownBlock) (hat : ∀ k, v'.ownBlock = some k → v.ownBlock = some k ∨ w.heap.size ≤ k) : RowsOwn w' B v' (M ++ [R]) := by
  have hc := OwnL.grown_chg (v := v) hg
  refine ⟨ho, fun R' hR' => ?_, fun R' hR' k hk e => ?_⟩
  · rcases List.mem_append.1 hR' with hR' | hR'
    · exact (h.refs R' hR').chg hc (fun k hk e => h.disj R' hR' k hk e)
    · rw [List.mem_singleton.1 hR']
      exact (hr.chg hc (fun k hk e => by have := (hr.lt hk).1; have := hlt k e; omega)).base hN
  · rcases List.mem_append.1 hR' with hR' | hR'
    · rcases hat k e with e | e
      · exact h.disj R' hR' k hk e
      · have := ((h.refs R' hR').lt hk).2
        omega
    · rw [List.mem_singleton.1 hR'] at hk
      rcases hat k e with e | e
      · have := (hr.lt hk).1
        have := hlt k e
        omega
      · have := (hr.lt hk).2
        omega
end
theorem kRow_set (a : IdB) (d : Int) (v u : Value) (h : v.oneCell' = true) (h' : u.oneCell' = true) (M M' : List IdB) : (kRow a d v h M).cells.toArray.setIfInBounds 50 u = (kRow a d u h' M').cells.toArray := by
  obtain ⟨l, hl⟩ := a
  obtain ⟨x0, x1, x2, x3, x4, x5, x6, x7, x8, x9, x10, x11, x12, x13, x14, x15, x16, x17, x18, x19, x20, x21, x22, x23, x24, x25, x26, x27, x28, x29, x30, x31, rfl⟩ := list32 hl
  rfl
theorem idxL_nonneg {L : List RowV} {x : IdB} : idxL L x < 0 ↔ ∀ r ∈ L, r.id ≠ x := by
  constructor
  · intro h r hr e
    unfold idxL at h
    cases hf : L.findIdx? (fun r => decide (r.id = x)) with
    | none => rw [List.findIdx?_eq_none_iff] at hf; have := hf r hr; rw [decide_eq_false_iff_not] at this; exact this e
    | some i => rw [hf] at h; dsimp only at h; omega
  · intro h
    rw [idxL_none2 h]
    decide
theorem rowStep_idx {M : List RowV} {R : RawV} : rowStep (M.map RowV.tw) R = if idxL M (idOf R.id) < 0 then M.map RowV.tw ++ [rawTw R] else M.map RowV.tw := by
  unfold rowStep
  by_cases h : idxL M (idOf R.id) < 0
  · rw [if_pos h, if_neg]
    rw [List.any_eq_true]
    rintro ⟨t, ht, e⟩
    obtain ⟨r, hr, rfl⟩ := List.mem_map.1 ht
    exact idxL_nonneg.1 h r hr (of_decide_eq_true e)
  · rw [if_neg h, if_pos]
    rw [List.any_eq_true]
    refine Classical.byContradiction fun hn => h (idxL_nonneg.2 fun r hr e => hn ⟨r.tw, List.mem_map.2 ⟨r, hr, rfl⟩, decide_eq_true e⟩)
theorem exec_buildL {o : Oper} {w : World} {ρ : Operand → Value} (t : TypeId) (parts : Array (Nat × Operand)) (ho : o.op = .build t parts) (ps : List (Nat × Value)) (hps : (parts.toList.map fun (i, x) => (i, ρ x)) = ps) {v : Value} (h : (Instr.build t ps.toArray).run Try.prog w = .ok v w) : (execOp ρ o).run Try.prog w = .ok (.value v) w :=
  exec_build ho (by rw [← hps, ← List.map_toArray]) h
theorem conv_u8 (n : Nat) (h : n < 256) (w : World) : (convert 5 3 (.int .u8 (n : Int))).run Try.prog w = .ok (.int .i64 (n : Int)) w := by
  have h1 : IntKind.wrap .i64 (n : Int) = (n : Int) := by
    simp [IntKind.wrap, IntKind.bits, IntKind.signed]
    omega
  unfold convert
  simp [run_underlying Try.underlying5, run_underlying Try.underlying3, Conv.intToInt, h1]
theorem exec_conv {o : Oper} {w : World} {ρ : Operand → Value} (n : Nat) (h : n < 256) (x : Operand) (ho : o.op = .convert 5 3 x) (hx : ρ x = .int .u8 (n : Int)) : (execOp ρ o).run Try.prog w = .ok (.value (.int .i64 (n : Int))) w := by
  unfold execOp
  simp only [ho, hx, Sem.run_bind, conv_u8 n h, Result.andThen_ok]
  rfl
theorem wp_putC {P : Program} {o : Oper} {a : Act} {w : World} {K : Act → World → Prop} {Q : Exit → Act → World → Prop} (hdst : o.dst = none) (ty : TypeId) (x y : Operand) (ho : o.op = .store ty x y)
    (g i : Nat) (v : Value) (hx : a.eval x = .pointer (some ⟨g, i, none⟩)) (hy : a.eval y = v) {T : TypeId} {cs : Array Value} (hg : w.heap[g]? = some (.cells cs T (0, 0))) (hi : i < cs.size) (hv : v.oneCell' = true) (hsz : (P.info? ty).map (·.size) = some 1)
    (h : ∀ w', w'.heap[g]? = some (.cells (cs.setIfInBounds i v) T (0, 0)) → Chg (fun k => k = g) w w' → w'.heap.size = w.heap.size → K a w') : o.wp P a w K Q := by
  unfold Oper.wp execOp
  simp only [ho, hx, hy, Sem.run_bind, run_storeC hg hi hv hsz, Result.andThen_ok, Sem.run_pure, Oper.upon_skip, hdst]
  exact h _ (heap_setCell_same _ _ _ _ _ _ hg) (Chg.setCell _ _ rfl) (by simp [World.setCell])
set_option maxRecDepth 100000 in
set_option maxHeartbeats 2000000 in
theorem rows_any {w : World} (v : Value) (L : List RawV) (hv : RawsAt w v L) : Calls Try.prog 16 #[v] w fun e w' => ∃ v' M, e = .returned v' ∧ RowsOwn w' w.heap.size v' M ∧ M.map RowV.tw = rowsT L ∧ Below w.heap.size w w' := by
  obtain ⟨va, vc, rfl⟩ := hv.l.form
  obtain ⟨N, hN⟩ : ∃ N, L.length = N := ⟨_, rfl⟩
  obtain ⟨_, hN2, hN3, _⟩ := hv.l.len
  unfold maxLen at hN3
  rw [hN] at hv hN2 ⊢
  have HV := Lib.hid hv
  have HN := Lib.hid hN
  clear hv hN
  go_enter Try.func16, Try.ntmps16
  go_wp2_with fail
  have H0 := Lib.hid (RowsOwn.nil w w.heap.size)
  have HB0 := Lib.hid (Below.refl w.heap.size w)
  go_loopw [3, 4] (fun ov iv wr => ∃ (i n : Nat) (oa : Option Addr) (oc : Nat) (M : List RowV), i ≤ N ∧ i ≤ 14 ∧ n ≤ i ∧ ov = .slice oa n oc ∧ iv = .int .i64 (i : Int) ∧ Hid (RowsOwn wr w.heap.size (.slice oa n oc) M) ∧ Hid (M.length = n) ∧ Hid (M.map RowV.tw = (L.take i).foldl rowStep []) ∧ Hid (Below w.heap.size w wr)) (fun _ iv _ => N - (intOf iv).toNat)
  case atStart => exact ⟨0, 0, none, 0, [], Nat.zero_le _, Nat.zero_le _, Nat.le_refl _, rfl, rfl, H0, Lib.hid rfl, Lib.hid rfl, HB0⟩
  case round =>
    obtain ⟨i, n, oa, oc, M, hiN, hi14, hni, rfl, rfl, HO, HML, HMT, HB⟩ := hrel
    obtain ⟨W0, rfl⟩ : ∃ W0, W0 = wr := ⟨_, rfl⟩
    clear H0 HB0
    by_cases hlt : i < N
    case neg =>
      obtain rfl : i = N := by omega
      have HF := Lib.hid (show M.map RowV.tw = rowsT L by
        rw [HMT.out]
        unfold rowsT
        rw [List.take_of_length_le (by rw [HN.out]; exact Nat.le_refl _), List.take_of_length_le (by rw [HN.out]; exact hi14)])
      go_wp2_with fail
      exact bodyPost_ret (v := .slice oa n oc) (by simp [results, Try.results16, go_sem]) rfl ⟨_, M, rfl, HO.out, HF.out, HB.out⟩
    by_cases hlt2 : i < 14
    case neg =>
      obtain rfl : i = 14 := by omega
      have hI : ((14 : Nat) : Int) < (N : Int) := by omega
      have HF := Lib.hid (show M.map RowV.tw = rowsT L by rw [HMT.out]; rfl)
      go_wp2_with fail
      exact bodyPost_ret (v := .slice oa n oc) (by simp [results, Try.results16, go_sem]) rfl ⟨_, M, rfl, HO.out, HF.out, HB.out⟩
    have hI14 : (i : Int) < 14 := by omega
    have hiL : i < L.length := by rw [HN.out]; exact hlt
    have hlw := (HV.out.below HB.out).l
    obtain ⟨g1, o1, e1, hg1, hr1⟩ := hlw.get hiL
    subst e1
    obtain ⟨R, hR⟩ : ∃ R, L[i] = R := ⟨_, rfl⟩
    have hRm : R ∈ L := hR ▸ List.getElem_mem hiL
    have hlr := (HV.out.below HB.out).r R hRm
    rw [hR] at hr1
    have HSTEP := Lib.hid (show (L.take (i + 1)).foldl rowStep [] = if idxL M (idOf R.id) < 0 then M.map RowV.tw ++ [rawTw R] else M.map RowV.tw by
      rw [List.take_succ_eq_append_getElem hiL, List.foldl_append, ← HMT.out, hR]
      exact rowStep_idx)
    have HR1 := Lib.hid (show ∀ w', Below W0.heap.size W0 w' → w'.cell? ⟨g1, o1 + i * 3, none⟩ = some (.int .u8 (R.id.toNat : Int)) ∧ w'.cell? ⟨g1, o1 + i * 3 + 1, none⟩ = some (.int .u8 (R.date.toNat : Int)) ∧ w'.cell? ⟨g1, o1 + i * 3 + 2, none⟩ = some R.rv from fun w' hw' => ⟨range_below hr1 hg1 hw' 0 _ rfl, range_below hr1 hg1 hw' 1 _ rfl, range_below hr1 hg1 hw' 2 _ rfl⟩)
    obtain ⟨K, hK⟩ : ∃ K, R.refs.length = K := ⟨_, rfl⟩
    obtain ⟨ka, kc, hrv⟩ := hlr.form
    rw [hK] at hrv
    obtain ⟨_, hK2, hK3, _⟩ := (hrv ▸ hlr).len
    unfold maxLen at hK3
    have HRV := Lib.hid hrv
    have HK := Lib.hid hK
    have HLR := Lib.hid (show ListAt u8E W0 (.slice ka K kc) R.refs from hrv ▸ hlr)
    clear hR hRm hlr hr1 hK hrv hlw
    have hD : R.date.toNat < 256 := R.date.toNat_lt
    refine hide_postT ?_
    intro Q3 HQ3
    go_upto_region 5 with (fail)
    go_cut [5] from 17 to 29 (fun xv wc => ∃ xb : Nat, xv = .pointer (some ⟨xb, 0, none⟩) ∧ W0.heap.size ≤ xb ∧ Hid (wc.heap[xb]? = some (.cells (row0 (idOf R.id) (R.date.toNat : Int)).cells.toArray 43 (0, 0))) ∧ Hid (Below W0.heap.size W0 wc))
    case first =>
      go_wp2_with fail
      refine wp_region_noPanic ?_
      refine wp_region_H (Below W0.heap.size W0) (by kernel_rfl) ?_
      have hS0 : (Below W0.heap.size W0) W0.drew := (Below.refl _ _).drew
      obtain ⟨wd, hwd⟩ : ∃ wd, W0.drew = wd := ⟨_, rfl⟩
      rw [hwd] at hS0 ⊢
      clear hwd
      refine wpAnyH_takeI (i := 0) (v := ?v1) rfl (by kernel_rfl) (by kernel_rfl) (by kernel_rfl) (fun _ _ _ h => h) (yieldsIf_run rfl (fun w' hw' => ?y1)) hS0 ?_
      case y1 => first | (go_simp; rfl) | (go_simp; done) | rfl
      simp only [Act.put, List.setIfInBounds_toArray, List.set_cons_zero, List.set_cons_succ]
      refine wpAnyH_takeI (i := 1) (v := ?v2) rfl (by kernel_rfl) (by kernel_rfl) (by kernel_rfl) (fun _ _ _ h => h) (yieldsIf_run rfl (fun w' hw' => ?y2)) hS0 ?_
      case y2 => first | (go_simp; rfl) | (go_simp; done) | rfl
      simp only [Act.put, List.setIfInBounds_toArray, List.set_cons_zero, List.set_cons_succ]
      refine wpAnyH_takeI (i := 2) (v := ?v3) rfl (by kernel_rfl) (by kernel_rfl) (by kernel_rfl) (fun _ _ _ h => h) (yieldsIf_run rfl (fun w' hw' => ?y3)) hS0 ?_
      case y3 => first | (go_simp; rfl) | (go_simp; done) | rfl
      simp only [Act.put, List.setIfInBounds_toArray, List.set_cons_zero, List.set_cons_succ]
      refine wpAnyH_takeI (i := 3) (v := ?v4) rfl (by kernel_rfl) (by kernel_rfl) (by kernel_rfl) (fun _ _ _ h => h) (yieldsIf_run rfl (fun w' hw' => ?y4)) hS0 ?_
      case y4 => first | (go_simp; rfl) | (go_simp; done) | rfl
      simp only [Act.put, List.setIfInBounds_toArray, List.set_cons_zero, List.set_cons_succ]
      refine wpAnyH_takeI (i := 4) (v := .int .u8 (R.id.toNat : Int)) rfl (by kernel_rfl) (by kernel_rfl) (by kernel_rfl) (fun _ _ _ h => h) (yieldsIf_run rfl (fun w' hw' => ?y5)) hS0 ?_
      case y5 => (obtain ⟨q1, q2, q3⟩ := HR1.out w' hw'; clear hw'; first | (go_simp; rfl) | (go_simp; done))
      simp only [Act.put, List.setIfInBounds_toArray, List.set_cons_zero, List.set_cons_succ]
      refine wpAnyH_takeI (i := 6) (v := ?v6) rfl (by kernel_rfl) (by kernel_rfl) (by kernel_rfl) (fun _ _ _ h => h) (yieldsIf_run rfl (fun w' hw' => ?y6)) hS0 ?_
      case y6 => first | (go_simp; rfl) | (go_simp; done) | rfl
      simp only [Act.put, List.setIfInBounds_toArray, List.set_cons_zero, List.set_cons_succ]
      refine wpAnyH_takeI (i := 7) (v := ?v7) rfl (by kernel_rfl) (by kernel_rfl) (by kernel_rfl) (fun _ _ _ h => h) (yieldsIf_run rfl (fun w' hw' => ?y7)) hS0 ?_
      case y7 => first | (go_simp; rfl) | (go_simp; done) | rfl
      simp only [Act.put, List.setIfInBounds_toArray, List.set_cons_zero, List.set_cons_succ]
      refine wpAnyH_takeI (i := 8) (v := ?v8) rfl (by kernel_rfl) (by kernel_rfl) (by kernel_rfl) (fun _ _ _ h => h) (yieldsIf_run rfl (fun w' hw' => ?y8)) hS0 ?_
      case y8 => first | (go_simp; rfl) | (go_simp; done) | rfl
      simp only [Act.put, List.setIfInBounds_toArray, List.set_cons_zero, List.set_cons_succ]
      refine wpAnyH_takeI (i := 9) (v := ?v9) rfl (by kernel_rfl) (by kernel_rfl) (by kernel_rfl) (fun _ _ _ h => h) (yieldsIf_run rfl (fun w' hw' => ?y9)) hS0 ?_
      case y9 => first | (go_simp; rfl) | (go_simp; done) | rfl
      simp only [Act.put, List.setIfInBounds_toArray, List.set_cons_zero, List.set_cons_succ]
      refine wpAnyH_takeI (i := 10) (v := .int .u8 (R.date.toNat : Int)) rfl (by kernel_rfl) (by kernel_rfl) (by kernel_rfl) (fun _ _ _ h => h) (yieldsIf_run rfl (fun w' hw' => ?y10)) hS0 ?_
      case y10 => (obtain ⟨q1, q2, q3⟩ := HR1.out w' hw'; clear hw'; first | (go_simp; rfl) | (go_simp; done))
      simp only [Act.put, List.setIfInBounds_toArray, List.set_cons_zero, List.set_cons_succ]
      refine wpAnyH_takeI (i := 11) (v := .int .i64 (R.date.toNat : Int)) rfl (by kernel_rfl) (by kernel_rfl) (by kernel_rfl) (fun _ _ _ h => h) (yieldsIf_run rfl (fun w' hw' => exec_conv R.date.toNat hD (.tmp 27) rfl rfl)) hS0 ?_
      simp only [Act.put, List.setIfInBounds_toArray, List.set_cons_zero, List.set_cons_succ]
      have hS := hS0
      clear hS0
      refine wpAnyH_two (i := 5) (j := 13) (by kernel_rfl) rfl rfl rfl rfl (fun K hK => ?_) (fun K hK => ?_)
      · go_simp
        go_at_call 30
        refine (id_any R.id).mono ?_
        rintro e wdi ⟨rfl, hb⟩
        replace hS := hS.trans (hb.mono hS.size)
        clear hb
        unfold idv
        refine hK _ _ hS ?_
        clear hK K
        try simp only [Act.put, List.setIfInBounds_toArray, List.set_cons_zero, List.set_cons_succ]
        refine wpAnyH_takeI (i := 12) (v := .agg (row0 (idOf R.id) (R.date.toNat : Int)).cells.toArray) rfl (by kernel_rfl) (by kernel_rfl) (by kernel_rfl) (fun _ _ _ h => h) (yieldsIf_run rfl (fun w' hw' => exec_buildL 43 _ rfl [(0, .agg (bvs (idOf R.id).1).toArray), (2, .int .i64 (R.date.toNat : Int))] rfl (build_row0 _ _ _))) hS ?_
        simp only [Act.put, List.setIfInBounds_toArray, List.set_cons_zero, List.set_cons_succ]
        refine wpAnyH_do (i := 13) (by kernel_rfl) rfl rfl (fun K hK => ?_)
        refine wp_newV (some 5) rfl 43 rfl Try.zeroCells43 83 (by kernel_rfl) ?_
        intro wdia xi hb hs
        obtain ⟨xb, hxb⟩ : ∃ xb, wdi.heap.size = xb := ⟨_, rfl⟩
        have hxg : W0.heap.size ≤ xb := hxb ▸ hS.size
        rw [hxb] at xi ⊢
        replace hS := hS.trans (hb.mono hS.size)
        clear hb hs hxb
        refine hK _ _ hS ?_
        clear hK K
        try simp only [Act.put, List.setIfInBounds_toArray, List.set_cons_zero, List.set_cons_succ]
        refine wpAnyH_do (i := 14) (by kernel_rfl) rfl rfl (fun K hK => ?_)
        refine wp_putV rfl 43 (.tmp 5) (.tmp 29) rfl _ (row0 (idOf R.id) (R.date.toNat : Int)).cells.toArray rfl rfl 43 _ xi (sizeRowA _) (zsRow _) (oneRow _) ?_
        intro wz xz cz sz
        replace hS := hS.trans (cz.below (B := W0.heap.size) (fun k e => by omega) hS.size)
        refine hK _ _ hS ?_
        clear hK K
        try simp only [Act.put, List.setIfInBounds_toArray, List.set_cons_zero, List.set_cons_succ]
        refine wpAnyH_done (by kernel_rfl) ?_ _
        refine NoPanic.normal ?_
        go_wp2_with fail
        go_meet
        case rel => exact ⟨xb, rfl, hxg, Lib.hid xz, Lib.hid hS⟩
      · refine wp_newV (some 5) rfl 43 rfl Try.zeroCells43 83 (by kernel_rfl) ?_
        intro wda xi hb hs
        obtain ⟨xb, hxb⟩ : ∃ xb, wd.heap.size = xb := ⟨_, rfl⟩
        have hxg : W0.heap.size ≤ xb := hxb ▸ hS.size
        rw [hxb] at xi ⊢
        replace hS := hS.trans (hb.mono hS.size)
        clear hb hs hxb
        refine hK _ _ hS ?_
        clear hK K
        try simp only [Act.put, List.setIfInBounds_toArray, List.set_cons_zero, List.set_cons_succ]
        refine wpAnyH_do (i := 5) (by kernel_rfl) rfl rfl (fun K hK => ?_)
        go_simp
        go_at_call 30
        refine (id_any R.id).mono ?_
        rintro e wdai ⟨rfl, hb⟩
        replace xi := (hb.block _ (Array.getElem?_eq_some_iff.1 xi).1).trans xi
        replace hS := hS.trans (hb.mono hS.size)
        clear hb
        unfold idv
        refine hK _ _ hS ?_
        clear hK K
        try simp only [Act.put, List.setIfInBounds_toArray, List.set_cons_zero, List.set_cons_succ]
        refine wpAnyH_takeI (i := 12) (v := .agg (row0 (idOf R.id) (R.date.toNat : Int)).cells.toArray) rfl (by kernel_rfl) (by kernel_rfl) (by kernel_rfl) (fun _ _ _ h => h) (yieldsIf_run rfl (fun w' hw' => exec_buildL 43 _ rfl [(0, .agg (bvs (idOf R.id).1).toArray), (2, .int .i64 (R.date.toNat : Int))] rfl (build_row0 _ _ _))) hS ?_
        simp only [Act.put, List.setIfInBounds_toArray, List.set_cons_zero, List.set_cons_succ]
        refine wpAnyH_do (i := 14) (by kernel_rfl) rfl rfl (fun K hK => ?_)
        refine wp_putV rfl 43 (.tmp 5) (.tmp 29) rfl _ (row0 (idOf R.id) (R.date.toNat : Int)).cells.toArray rfl rfl 43 _ xi (sizeRowA _) (zsRow _) (oneRow _) ?_
        intro wz xz cz sz
        replace hS := hS.trans (cz.below (B := W0.heap.size) (fun k e => by omega) hS.size)
        refine hK _ _ hS ?_
        clear hK K
        try simp only [Act.put, List.setIfInBounds_toArray, List.set_cons_zero, List.set_cons_succ]
        refine wpAnyH_done (by kernel_rfl) ?_ _
        refine NoPanic.normal ?_
        go_wp2_with fail
        go_meet
        case rel => exact ⟨xb, rfl, hxg, Lib.hid xz, Lib.hid hS⟩
    case rest =>
    obtain ⟨xb, rfl, hxg, HX, HB1⟩ := hcut
    go_wp2_with fail
    have HXB := Lib.hid (show xb < wc.heap.size from (Array.getElem?_eq_some_iff.1 HX.out).1)
    go_loopw [6] (fun kv wr => ∃ (j : Nat) (ra : Option Addr) (rc : Nat), j ≤ K ∧ j ≤ 5 ∧ kv = .int .i64 (j : Int) ∧ Hid (wr.heap[xb]? = some (.cells (kRow (idOf R.id) (R.date.toNat : Int) (.slice ra j rc) rfl ((R.refs.take j).map idOf)).cells.toArray 43 (0, 0))) ∧ Hid (OwnL idE wr W0.heap.size (.slice ra j rc) ((R.refs.take j).map idOf)) ∧ Hid (∀ k, (Value.slice ra j rc).ownBlock = some k → k ≠ xb) ∧ Hid (Below W0.heap.size W0 wr)) (fun kv _ => K - (intOf kv).toNat)
    case atStart => exact ⟨0, none, 0, Nat.zero_le _, Nat.zero_le _, rfl, HX, Lib.hid (ownL_nil _ _ _), Lib.hid (fun k e => by cases e), HB1⟩
    case round =>
      obtain ⟨j, ra, rc, hjK, hj5, rfl, HX2, HO2, HD2, HB2⟩ := hrel
      obtain ⟨W1, rfl⟩ : ∃ W1, W1 = wr := ⟨_, rfl⟩
      clear HX HXB HB1
      have hRr := (HR1.out W1 HB2.out)
      have hrv3 := hRr.2.2
      rw [HRV.out] at hrv3
      clear hRr
      by_cases hjl : j < K
      case neg =>
        obtain rfl : j = K := by omega
        obtain ⟨RW, hRW⟩ : ∃ RW, kRow (idOf R.id) (R.date.toNat : Int) (.slice ra j rc) rfl ((R.refs.take j).map idOf) = RW := ⟨_, rfl⟩
        have hX2 := HX2.out
        rw [hRW] at hX2
        have HX3 := Lib.hid hX2
        have HTW := Lib.hid (show RW.tw = rawTw R by rw [← hRW]; unfold rawTw; rw [show (R.refs.take 5) = R.refs.take j from (by rw [List.take_of_length_le (by rw [HK.out]; exact hj5), List.take_of_length_le (by rw [HK.out]; exact Nat.le_refl _)])]; rfl)
        have HID := Lib.hid (show W1.rangeAt xb 0 (bvs (idOf R.id).1) by
          have h1 := row_id (range_block hX2)
          rw [← hRW] at h1
          exact h1)
        have HO3 := Lib.hid (show OwnL idE W1 W0.heap.size RW.rv RW.refs by rw [← hRW]; exact HO2.out)
        have HM3 := Lib.hid (HO.out.below HB2.out)
        have HB3 := Lib.hid (HB.out.trans (HB2.out.mono HB.out.size))
        clear hX2 hRW HX2 HO2 HD2
        go_wp2_with (with_reducible refine wpList_load_mid rfl 35 (.tmp 59) rfl xb (0) rfl (bvs (idOf R.id).1) _ HID.out Try.underlying35 rfl (sizeId _) ?_; refine Stop.on ?_)
        refine Stop.go ?_
        try simp only [Act.put, List.setIfInBounds_toArray, List.set_cons_zero, List.set_cons_succ]
        go_wp2_with fail
        refine (index_any _ M (idOf R.id) HM3.out.at_ (by rw [HML.out]; omega)).mono ?_
        rintro e Wi ⟨rfl, hbi⟩
        have HX4 := Lib.hid ((hbi.block _ (Array.getElem?_eq_some_iff.1 HX3.out).1).trans HX3.out)
        have HO4 := Lib.hid (HO3.out.below hbi)
        have HM4 := Lib.hid (HM3.out.below hbi)
        have HB4 := Lib.hid (HB3.out.trans (hbi.mono HB3.out.size))
        have HB5 := Lib.hid (HB2.out.trans (hbi.mono HB2.out.size))
        clear hbi HX3 HO3 HM3 HB3 HID
        have hst := HSTEP.out
        obtain ⟨ix, hix⟩ : ∃ ix, idxL M (idOf R.id) = ix := ⟨_, rfl⟩
        rw [hix] at hst ⊢
        clear hix
        by_cases hneg : ix < 0
        case neg =>
          rw [if_neg hneg] at hst
          have HMT2 := Lib.hid hst.symm
          clear hst
          go_wp2_with fail
          rw [HQ3.out]
          change _ ∧ _
          go_roundw
          case rel => exact ⟨i + 1, n, oa, oc, M, by omega, by omega, by omega, rfl, by go_num, HM4, HML, HMT2, HB4⟩
          case measure => simp [intOf] <;> omega
        rw [if_pos hneg, ← HTW.out] at hst
        have HMT2 := Lib.hid (show (M ++ [RW]).map RowV.tw = (L.take (i + 1)).foldl rowStep [] by rw [List.map_append]; exact hst.symm)
        clear hst
        go_wp2_with (refine wpList_loadV rfl (some 64) rfl 43 (.tmp 5) rfl _ rfl 43 (RW.cells).toArray (0, 0) _ HX4.out Try.underlying43 rfl (sizeRowA RW) ?_; refine Stop.on ?_)
        refine Stop.go ?_
        try simp only [Act.put, List.setIfInBounds_toArray, List.set_cons_zero, List.set_cons_succ]
        go_wp2_with (refine wpList_litsV rowE rfl (some 65) rfl 1 _ rfl [RW] rfl rfl (by decide) (by decide) ?_; refine Stop.on ?_)
        refine Stop.go ?_
        try simp only [Act.put, List.setIfInBounds_toArray, List.set_cons_zero, List.set_cons_succ]
        intro Wl xl bl sl
        try simp only [Act.put, List.setIfInBounds_toArray, List.set_cons_zero, List.set_cons_succ]
        have HLL := Lib.hid (list_of_block rowE (M := [RW]) xl (by unfold maxLen; simp))
        have HO5 := Lib.hid (HO4.out.below bl)
        have HM5 := Lib.hid (HM4.out.below bl)
        have HB6 := Lib.hid (HB4.out.trans (bl.mono HB4.out.size))
        clear xl bl sl HX4 HO4 HM4 HB4
        go_wp2_with (refine wpList_appL rowE rfl (.tmp 63) (.tmp 65) rfl rfl HM5.out.own rfl HLL.out (n := n) (m := 1) HML.out rfl (by omega) HB6.out.size ?_; refine Stop.on ?_)
        refine Stop.go ?_
        try simp only [Act.put, List.setIfInBounds_toArray, List.set_cons_zero, List.set_cons_succ]
        intro a5 c5 W5 ho5 hg5 hat5
        try simp only [Act.put, List.setIfInBounds_toArray, List.set_cons_zero, List.set_cons_succ]
        have HM6 := Lib.hid (HM5.out.snoc HO5.out HB.out.size (fun k hk => (HO.out.own.lt hk).2) ho5 hg5 hat5)
        have HB7 := Lib.hid (HB6.out.trans (HM5.out.own.grown_below hg5 HB6.out.size))
        have HML2 := Lib.hid (show (M ++ [RW]).length = n + 1 by rw [List.length_append, HML.out]; rfl)
        clear ho5 hg5 hat5 HM5 HO5 HB6 HLL
        go_wp2_with fail
        rw [HQ3.out]
        change _ ∧ _
        go_roundw
        case rel => exact ⟨i + 1, n + 1, a5, c5, M ++ [RW], by omega, by omega, by omega, rfl, by go_num, HM6, HML2, HMT2, HB7⟩
        case measure => simp [intOf] <;> omega
      by_cases hjl5 : j < 5
      case neg =>
        obtain rfl : j = 5 := by omega
        have hKI : ((5 : Nat) : Int) < (K : Int) := by omega
        have hKI2 : (5 : Int) < (K : Int) := by omega
        obtain ⟨RW, hRW⟩ : ∃ RW, kRow (idOf R.id) (R.date.toNat : Int) (.slice ra 5 rc) rfl ((R.refs.take 5).map idOf) = RW := ⟨_, rfl⟩
        have hX2 := HX2.out
        rw [hRW] at hX2
        have HX3 := Lib.hid hX2
        have HTW := Lib.hid (show RW.tw = rawTw R by rw [← hRW]; unfold rawTw; rw [show (R.refs.take 5) = R.refs.take 5 from rfl]; rfl)
        have HID := Lib.hid (show W1.rangeAt xb 0 (bvs (idOf R.id).1) by
          have h1 := row_id (range_block hX2)
          rw [← hRW] at h1
          exact h1)
        have HO3 := Lib.hid (show OwnL idE W1 W0.heap.size RW.rv RW.refs by rw [← hRW]; exact HO2.out)
        have HM3 := Lib.hid (HO.out.below HB2.out)
        have HB3 := Lib.hid (HB.out.trans (HB2.out.mono HB.out.size))
        clear hX2 hRW HX2 HO2 HD2
        go_wp2_with (with_reducible refine wpList_load_mid rfl 35 (.tmp 59) rfl xb (0) rfl (bvs (idOf R.id).1) _ HID.out Try.underlying35 rfl (sizeId _) ?_; refine Stop.on ?_)
        refine Stop.go ?_
        try simp only [Act.put, List.setIfInBounds_toArray, List.set_cons_zero, List.set_cons_succ]
        go_wp2_with fail
        refine (index_any _ M (idOf R.id) HM3.out.at_ (by rw [HML.out]; omega)).mono ?_
        rintro e Wi ⟨rfl, hbi⟩
        have HX4 := Lib.hid ((hbi.block _ (Array.getElem?_eq_some_iff.1 HX3.out).1).trans HX3.out)
        have HO4 := Lib.hid (HO3.out.below hbi)
        have HM4 := Lib.hid (HM3.out.below hbi)
        have HB4 := Lib.hid (HB3.out.trans (hbi.mono HB3.out.size))
        have HB5 := Lib.hid (HB2.out.trans (hbi.mono HB2.out.size))
        clear hbi HX3 HO3 HM3 HB3 HID
        have hst := HSTEP.out
        obtain ⟨ix, hix⟩ : ∃ ix, idxL M (idOf R.id) = ix := ⟨_, rfl⟩
        rw [hix] at hst ⊢
        clear hix
        by_cases hneg : ix < 0
        case neg =>
          rw [if_neg hneg] at hst
          have HMT2 := Lib.hid hst.symm
          clear hst
          go_wp2_with fail
          rw [HQ3.out]
          change _ ∧ _
          go_roundw
          case rel => exact ⟨i + 1, n, oa, oc, M, by omega, by omega, by omega, rfl, by go_num, HM4, HML, HMT2, HB4⟩
          case measure => simp [intOf] <;> omega
        rw [if_pos hneg, ← HTW.out] at hst
        have HMT2 := Lib.hid (show (M ++ [RW]).map RowV.tw = (L.take (i + 1)).foldl rowStep [] by rw [List.map_append]; exact hst.symm)
        clear hst
        go_wp2_with (refine wpList_loadV rfl (some 64) rfl 43 (.tmp 5) rfl _ rfl 43 (RW.cells).toArray (0, 0) _ HX4.out Try.underlying43 rfl (sizeRowA RW) ?_; refine Stop.on ?_)
        refine Stop.go ?_
        try simp only [Act.put, List.setIfInBounds_toArray, List.set_cons_zero, List.set_cons_succ]
        go_wp2_with (refine wpList_litsV rowE rfl (some 65) rfl 1 _ rfl [RW] rfl rfl (by decide) (by decide) ?_; refine Stop.on ?_)
        refine Stop.go ?_
        try simp only [Act.put, List.setIfInBounds_toArray, List.set_cons_zero, List.set_cons_succ]
        intro Wl xl bl sl
        try simp only [Act.put, List.setIfInBounds_toArray, List.set_cons_zero, List.set_cons_succ]
        have HLL := Lib.hid (list_of_block rowE (M := [RW]) xl (by unfold maxLen; simp))
        have HO5 := Lib.hid (HO4.out.below bl)
        have HM5 := Lib.hid (HM4.out.below bl)
        have HB6 := Lib.hid (HB4.out.trans (bl.mono HB4.out.size))
        clear xl bl sl HX4 HO4 HM4 HB4
        go_wp2_with (refine wpList_appL rowE rfl (.tmp 63) (.tmp 65) rfl rfl HM5.out.own rfl HLL.out (n := n) (m := 1) HML.out rfl (by omega) HB6.out.size ?_; refine Stop.on ?_)
        refine Stop.go ?_
        try simp only [Act.put, List.setIfInBounds_toArray, List.set_cons_zero, List.set_cons_succ]
        intro a5 c5 W5 ho5 hg5 hat5
        try simp only [Act.put, List.setIfInBounds_toArray, List.set_cons_zero, List.set_cons_succ]
        have HM6 := Lib.hid (HM5.out.snoc HO5.out HB.out.size (fun k hk => (HO.out.own.lt hk).2) ho5 hg5 hat5)
        have HB7 := Lib.hid (HB6.out.trans (HM5.out.own.grown_below hg5 HB6.out.size))
        have HML2 := Lib.hid (show (M ++ [RW]).length = n + 1 by rw [List.length_append, HML.out]; rfl)
        clear ho5 hg5 hat5 HM5 HO5 HB6 HLL
        go_wp2_with fail
        rw [HQ3.out]
        change _ ∧ _
        go_roundw
        case rel => exact ⟨i + 1, n + 1, a5, c5, M ++ [RW], by omega, by omega, by omega, rfl, by go_num, HM6, HML2, HMT2, HB7⟩
        case measure => simp [intOf] <;> omega
      have hjI5 : (j : Int) < 5 := by omega
      have hjKI : (j : Int) < (K : Int) := by omega
      have hjR : j < R.refs.length := by rw [HK.out]; exact hjl
      obtain ⟨kg, ko, eka, hkg, hkr⟩ := HLR.out.get hjR
      subst eka
      obtain ⟨b, hb⟩ : ∃ b, R.refs[j] = b := ⟨_, rfl⟩
      rw [hb] at hkr
      have HTK := Lib.hid (show (R.refs.take j).map idOf ++ [idOf b] = (R.refs.take (j + 1)).map idOf by rw [List.take_succ_eq_append_getElem hjR, List.map_append, hb]; rfl)
      have hrv0 := (HR1.out W0 (Below.refl _ _)).2.2
      rw [HRV.out] at hrv0
      obtain ⟨KC, hKC⟩ : ∃ KC, (kRow (idOf R.id) (R.date.toNat : Int) (.slice ra j rc) rfl ((R.refs.take j).map idOf)).cells.toArray = KC := ⟨_, rfl⟩
      have hx50 : KC[50]? = some (.slice ra j rc) := by
        have h1 := HX2.out
        rw [← hKC]
        have h2 := (row_mid (range_block h1)).2.2
        rw [Nat.zero_add, cell_of_row _ _ _ _ _ _ h1] at h2
        exact h2
      have HRD := Lib.hid (show ∀ w', (Below W0.heap.size W0 w' ∧ w'.heap[xb]? = some (.cells KC 43 (0, 0))) → w'.cell? ⟨kg, ko + j, none⟩ = some (.int .u8 (b.toNat : Int)) ∧ w'.cell? ⟨g1, o1 + i * 3 + 2, none⟩ = some (.slice (some ⟨kg, ko, none⟩) K kc) ∧ w'.cell? ⟨xb, 50, none⟩ = some (.slice ra j rc) from fun w' hw' => ⟨by
        have h1 := range_below hkr hkg hw'.1 0 _ rfl
        rw [Nat.add_zero] at h1
        rw [← h1]
        rw [show j * u8E.k = j from Nat.mul_one j], (hw'.1.cell (p := ⟨g1, o1 + i * 3 + 2, none⟩) (World.block_lt_of_cell? W0 _ hrv0)).trans hrv0, by
        rw [cell_of_row _ _ _ _ _ _ hw'.2]
        exact hx50⟩)
      have HX5 := Lib.hid (show W1.heap[xb]? = some (.cells KC 43 (0, 0)) by rw [← hKC]; exact HX2.out)
      have HKC := Lib.hid hKC
      clear hx50 hrv0 hKC HX2
      clear hkr hb
      go_wp2_with fail
      clear hrv3
      refine wp_region_noPanic ?_
      refine wp_region_G [14] (fun w' => Below W0.heap.size W0 w' ∧ w'.heap[xb]? = some (.cells KC 43 (0, 0))) (by kernel_rfl) ?_
      have hS0 : (fun w' => Below W0.heap.size W0 w' ∧ w'.heap[xb]? = some (.cells KC 43 (0, 0))) W1.drew := ⟨HB2.out.trans ((Below.refl W1.heap.size W1).drew.mono HB2.out.size), HX5.out⟩
      refine wpAnyG_take (i := 0) (v := ?v11) rfl (by kernel_rfl) (by kernel_rfl) (by kernel_rfl) (by kernel_rfl) (fun _ _ _ h => h) (yieldsIf_run rfl (fun w' hw' => ?y11)) hS0 ?_
      case y11 => first | (go_simp; rfl) | (go_simp; done) | rfl
      simp only [Act.put, List.setIfInBounds_toArray, List.set_cons_zero, List.set_cons_succ]
      refine wpAnyG_take (i := 1) (v := .slice ra j rc) rfl (by kernel_rfl) (by kernel_rfl) (by kernel_rfl) (by kernel_rfl) (fun _ _ _ h => h) (yieldsIf_run rfl (fun w' hw' => ?y12)) hS0 ?_
      case y12 => (obtain ⟨q1, q2, q3⟩ := HRD.out w' hw'; clear hw'; first | (go_simp; rfl) | (go_simp; done))
      simp only [Act.put, List.setIfInBounds_toArray, List.set_cons_zero, List.set_cons_succ]
      refine wpAnyG_take (i := 2) (v := ?v13) rfl (by kernel_rfl) (by kernel_rfl) (by kernel_rfl) (by kernel_rfl) (fun _ _ _ h => h) (yieldsIf_run rfl (fun w' hw' => ?y13)) hS0 ?_
      case y13 => first | (go_simp; rfl) | (go_simp; done) | rfl
      simp only [Act.put, List.setIfInBounds_toArray, List.set_cons_zero, List.set_cons_succ]
      refine wpAnyG_take (i := 3) (v := ?v14) rfl (by kernel_rfl) (by kernel_rfl) (by kernel_rfl) (by kernel_rfl) (fun _ _ _ h => h) (yieldsIf_run rfl (fun w' hw' => ?y14)) hS0 ?_
      case y14 => first | (go_simp; rfl) | (go_simp; done) | rfl
      simp only [Act.put, List.setIfInBounds_toArray, List.set_cons_zero, List.set_cons_succ]
      refine wpAnyG_take (i := 4) (v := ?v15) rfl (by kernel_rfl) (by kernel_rfl) (by kernel_rfl) (by kernel_rfl) (fun _ _ _ h => h) (yieldsIf_run rfl (fun w' hw' => ?y15)) hS0 ?_
      case y15 => first | (go_simp; rfl) | (go_simp; done) | rfl
      simp only [Act.put, List.setIfInBounds_toArray, List.set_cons_zero, List.set_cons_succ]
      refine wpAnyG_take (i := 5) (v := ?v16) rfl (by kernel_rfl) (by kernel_rfl) (by kernel_rfl) (by kernel_rfl) (fun _ _ _ h => h) (yieldsIf_run rfl (fun w' hw' => ?y16)) hS0 ?_
      case y16 => first | (go_simp; rfl) | (go_simp; done) | rfl
      simp only [Act.put, List.setIfInBounds_toArray, List.set_cons_zero, List.set_cons_succ]
      refine wpAnyG_take (i := 6) (v := .slice (some ⟨kg, ko, none⟩) K kc) rfl (by kernel_rfl) (by kernel_rfl) (by kernel_rfl) (by kernel_rfl) (fun _ _ _ h => h) (yieldsIf_run rfl (fun w' hw' => ?y17)) hS0 ?_
      case y17 => (obtain ⟨q1, q2, q3⟩ := HRD.out w' hw'; clear hw'; first | (go_simp; rfl) | (go_simp; done))
      simp only [Act.put, List.setIfInBounds_toArray, List.set_cons_zero, List.set_cons_succ]
      refine wpAnyG_take (i := 7) (v := ?v18) rfl (by kernel_rfl) (by kernel_rfl) (by kernel_rfl) (by kernel_rfl) (fun _ _ _ h => h) (yieldsIf_run rfl (fun w' hw' => ?y18)) hS0 ?_
      case y18 => first | (go_simp; rfl) | (go_simp; done) | rfl
      simp only [Act.put, List.setIfInBounds_toArray, List.set_cons_zero, List.set_cons_succ]
      refine wpAnyG_take (i := 8) (v := ?v19) rfl (by kernel_rfl) (by kernel_rfl) (by kernel_rfl) (by kernel_rfl) (fun _ _ _ h => h) (yieldsIf_run rfl (fun w' hw' => ?y19)) hS0 ?_
      case y19 => first | (go_simp; rfl) | (go_simp; done) | rfl
      simp only [Act.put, List.setIfInBounds_toArray, List.set_cons_zero, List.set_cons_succ]
      refine wpAnyG_take (i := 9) (v := .int .u8 (b.toNat : Int)) rfl (by kernel_rfl) (by kernel_rfl) (by kernel_rfl) (by kernel_rfl) (fun _ _ _ h => h) (yieldsIf_run rfl (fun w' hw' => ?y20)) hS0 ?_
      case y20 => (obtain ⟨q1, q2, q3⟩ := HRD.out w' hw'; clear hw'; first | (go_simp; rfl) | (go_simp; done))
      simp only [Act.put, List.setIfInBounds_toArray, List.set_cons_zero, List.set_cons_succ]
      refine wpAnyG_do (i := 10) (by kernel_rfl) rfl rfl (fun K hK => ?_)
      go_simp
      go_at_call 30
      refine (id_any b).mono ?_
      rintro e w10 ⟨rfl, hbi⟩
      have hT10 : Below W1.heap.size W1 w10 := (Below.refl W1.heap.size W1).drew.trans hbi
      have hS10 : (fun w' => Below W0.heap.size W0 w' ∧ w'.heap[xb]? = some (.cells KC 43 (0, 0))) w10 := ⟨HB2.out.trans (hT10.mono HB2.out.size), (hT10.block _ (Array.getElem?_eq_some_iff.1 HX5.out).1).trans HX5.out⟩
      clear hbi
      unfold idv
      refine hK _ _ hS10 ?_
      clear hK K
      try simp only [Act.put, List.setIfInBounds_toArray, List.set_cons_zero, List.set_cons_succ]
      refine wpAnyG_do (i := 11) (by kernel_rfl) rfl rfl (fun K hK => ?_)
      refine wp_lit1 41 35 (.tmp 54) rfl (bvs (idOf b).1).toArray rfl Try.underlying41 (sizeIdA _) (by kernel_rfl) (by rw [List.size_toArray, bvs_length, (idOf b).2]; decide) (by rw [List.size_toArray, bvs_length, (idOf b).2]; decide) ?_
      have hL := listAt_one idE w10 (idOf b)
      have hbl := one_below idE w10 (idOf b)
      obtain ⟨w11, hw11⟩ : ∃ w11, w10.alloc (.cells (idE.enc (idOf b)).toArray 35) = w11 := ⟨_, rfl⟩
      rw [hw11] at hL hbl
      have hT11 : Below W1.heap.size W1 w11 := hT10.trans (hbl.mono hT10.size)
      have hS11 : (fun w' => Below W0.heap.size W0 w' ∧ w'.heap[xb]? = some (.cells KC 43 (0, 0))) w11 := ⟨HB2.out.trans (hT11.mono HB2.out.size), (hT11.block _ (Array.getElem?_eq_some_iff.1 HX5.out).1).trans HX5.out⟩
      rw [show w10.alloc (.cells (bvs (idOf b).1).toArray 35) = w11 from hw11]
      clear hbl hw11
      refine hK _ _ hS11 ?_
      clear hK K
      try simp only [Act.put, List.setIfInBounds_toArray, List.set_cons_zero, List.set_cons_succ]
      refine wpAnyG_do (i := 12) (by kernel_rfl) rfl rfl (fun K hK => ?_)
      have hown := HO2.out.below hT11
      refine wp_appL idE (.tmp 45) (.tmp 55) rfl rfl hown rfl hL (n := j) (m := 1) (by rw [List.length_map, List.length_take, HK.out]; omega) rfl (by omega) hS11.1.size ?_
      intro a9 c9 w12 ho9 hg9 hat9
      rw [HTK.out] at ho9
      have hx12 := (hg9.block xb (Array.getElem?_eq_some_iff.1 hS11.2).1 (fun e => HD2.out xb e.symm rfl)).trans hS11.2
      have hB12 := hS11.1.trans (hown.grown_below hg9 hS11.1.size)
      have hD12 : ∀ k, (Value.slice a9 (j + 1) c9).ownBlock = some k → k ≠ xb := fun k hk => by
        rcases hat9 k hk with h1 | h1
        · exact HD2.out k h1
        · have := (Array.getElem?_eq_some_iff.1 hS11.2).1
          omega
      have hS12 : (fun w' => Below W0.heap.size W0 w' ∧ w'.heap[xb]? = some (.cells KC 43 (0, 0))) w12 := ⟨hB12, hx12⟩
      clear hown hg9 hat9 hL hx12 hB12
      refine hK _ _ hS12 ?_
      clear hK K
      try simp only [Act.put, List.setIfInBounds_toArray, List.set_cons_zero, List.set_cons_succ]
      refine wpAnyG_take (i := 13) (v := ?v21) rfl (by kernel_rfl) (by kernel_rfl) (by kernel_rfl) (by kernel_rfl) (fun _ _ _ h => h) (yieldsIf_run rfl (fun w' hw' => ?y21)) hS12 ?_
      case y21 => first | (go_simp; rfl) | (go_simp; done) | rfl
      simp only [Act.put, List.setIfInBounds_toArray, List.set_cons_zero, List.set_cons_succ]
      refine wpAnyG_fin (i := 14) (by kernel_rfl) rfl rfl (by kernel_rfl) (fun K hK => ?_)
      refine wp_putC rfl 41 (.tmp 57) (.tmp 56) rfl xb 50 (.slice a9 (j + 1) c9) rfl rfl hS12.2 (by rw [← HKC.out, List.size_toArray, RowV.cells_length]; decide) rfl (by kernel_rfl) ?_
      intro w14 hx14 hc14 hs14
      rw [← HKC.out, kRow_set (idOf R.id) (R.date.toNat : Int) (.slice ra j rc) (.slice a9 (j + 1) c9) rfl rfl ((R.refs.take j).map idOf) ((R.refs.take (j + 1)).map idOf)] at hx14
      have hO14 := ho9.chg hc14 hD12
      have hB14 := hS12.1.trans (hc14.below (B := W0.heap.size) (fun k e => by omega) hS12.1.size)
      refine hK _ _ ?_
      clear hK K
      try simp only [Act.put, List.setIfInBounds_toArray, List.set_cons_zero, List.set_cons_succ]
      refine wpAnyG_done (by kernel_rfl) ?_ _
      refine NoPanic.normal ?_
      have HXN := Lib.hid hx14
      have HON := Lib.hid hO14
      have HDN := Lib.hid hD12
      have HBN := Lib.hid hB14
      clear hx14 hO14 hD12 hB14 hs14 hc14 ho9 hS0 hS10 hS11 hS12 hT10 hT11
      go_wp2_with fail
      go_roundw
      case rel => exact ⟨j + 1, a9, c9, by omega, by omega, by go_num, HXN, HON, HDN, HBN⟩
      case measure => simp [intOf] <;> omega
end Go.Proofs.Ythfinofmbnfijaa
