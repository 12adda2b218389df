/- Check. -/
import Derived.Test.YthfinofmbnfijaaTh11
import Derived.Deep.CutBlock
namespace Go.Proofs.Ythfinofmbnfijaa
open Go.Shelf Go.RowKit Go.Lib Go.Sort
set_option linter.unusedVariables false
set_option linter.unusedSimpArgs false

section
variable {w : World} {g off : Nat} {n : NodeV}
theorem node_id (h : w.rangeAt g off n.cells) : w.rangeAt g off (bvs n.id.1) := fun j u hu => h j u (by
  unfold NodeV.cells
  rw [List.getElem?_append_left (List.getElem?_eq_some_iff.1 hu).1]
  exact hu)
theorem node_mid (h : w.rangeAt g off n.cells) : w.cell? ⟨g, off + 32, none⟩ = some (.int .i64 n.row) ∧ w.cell? ⟨g, off + 33, none⟩ = some (.int .i64 n.parent) ∧ w.cell? ⟨g, off + 34, none⟩ = some (.int .i64 n.depth) := by
  have key : ∀ j u, [Value.int .i64 n.row, .int .i64 n.parent, .int .i64 n.depth][j]? = some u → w.cell? ⟨g, off + (32 + j), none⟩ = some u := fun j u hu => by
    refine h (32 + j) u ?_
    unfold NodeV.cells
    rw [List.getElem?_append_right (by rw [bvs_length, n.id.2]; omega), bvs_length, n.id.2, Nat.add_sub_cancel_left]
    exact hu
  exact ⟨key 0 _ rfl, key 1 _ rfl, key 2 _ rfl⟩
end
theorem sizeNodeA (n : NodeV) : (Try.prog.info? 37).map (·.size) = some n.cells.toArray.size := by rw [List.size_toArray]; exact sizeNode n
theorem zsNode (n : NodeV) : (NodeV.cells ⟨z32, 0, 0, 0⟩).toArray.size = n.cells.toArray.size := by rw [List.size_toArray, List.size_toArray, NodeV.cells_length, NodeV.cells_length]
theorem oneNode (n : NodeV) : n.cells.toArray.all (·.oneCell') = true := all_oneCell_toArray n.cells_one
theorem OwnL.cut {P : Program} {sT T : TypeId} {α : Type} {E : ElemTy P sT T α} {w : World} {B n c k : Nat} {a : Option Addr} {L : List α} (h : OwnL E w B (.slice a n c) L) (hk : k ≤ n) : OwnL E w B (.slice a k c) (L.take k) := by
  have hh : w.ownsRow B T E.k (.slice a n c) L.length (L.flatMap E.enc) := h
  have hn : n = L.length := by obtain ⟨a', c', e⟩ := h.form; cases e; rfl
  have hl : (L.take k).length = k := by rw [List.length_take]; omega
  show w.ownsRow B T E.k (.slice a k c) (L.take k).length ((L.take k).flatMap E.enc)
  rw [hl, flat_take]
  rcases hh.2 with ⟨e, h0⟩ | ⟨g, cap, cur, e, hB, hg, hc, hm, hs, ht⟩
  · cases e
    obtain rfl : k = 0 := by omega
    exact ⟨by simp, .inl ⟨rfl, rfl⟩⟩
  · cases e
    refine ⟨by rw [List.length_take, flat_length, ← hn, Nat.min_eq_left (Nat.mul_le_mul_right _ hk)], .inr ⟨g, c, cur, rfl, hB, hg, by omega, hm, hs, ?_⟩⟩
    rw [← ht, List.take_take, Nat.min_eq_left (Nat.mul_le_mul_right _ (by omega))]
theorem cutN (a : Option Addr) (n c m : Nat) (hm : m ≤ c) (hz : a = none → c = 0) (w : World) :
    (Instr.sliceAt 71 (.slice a n c) none (some (.int .i64 (m : Int))) none).run Try.prog w = .ok (.slice a m c) w := by
  cases a with
  | none =>
    obtain rfl := hz rfl
    obtain rfl : m = 0 := by omega
    have h0 : ∀ w, (Instr.sliceAt 71 (.slice none n 0) none (some (.int .i64 0)) none).run Try.prog w = .ok (.slice none 0 0) w := fun w => by go_simp
    exact h0 w
  | some ad =>
    have h1 : (m : Int) ≤ (c : Int) := by omega
    go_simp

def lenV : Value → Nat
  | .slice _ n _ => n
  | _ => 0
/-! ### what Check computes -/
def popL (p : Int) (P : List Nat) : List Nat := P.dropWhile fun j => !decide ((j : Int) = p)
def depOf (L : List NodeV) (p : Int) : Int := if p = -1 then 0 else ((L[p.toNat]?).map (·.depth + 1)).getD 0
def chkGo (L : List NodeV) : Nat → Nat → List Nat → Int
  | 0, _, _ => 0
  | f + 1, i, P => match L[i]? with
    | none => 0
    | some n =>
      if n.row < -1 ∨ n.parent < -1 ∨ (i : Int) ≤ n.parent then 2
      else if n.parent ≠ -1 ∧ popL n.parent P = [] then 30
      else if n.depth ≠ depOf L n.parent then 10
      else if (L.take i).any (fun m => decide (m.id = n.id)) then 7
      else chkGo L f (i + 1) (i :: popL n.parent P)
def checkP (L : List NodeV) : Int := chkGo L L.length 0 []
def seenF (L : List NodeV) (i : Nat) : IdB → Bool := fun x => (L.take i).any fun m => decide (m.id = x)
/-- While nodes are checked: the depths so far are small; the path's places lie ahead. -/
def ChkInv (L : List NodeV) (i : Nat) (P : List Nat) : Prop := (∀ j (h : j < L.length), j < i → 0 ≤ L[j].depth ∧ L[j].depth ≤ j) ∧ ∀ j ∈ P, j < i
theorem popL_sub (p : Int) (P : List Nat) : ∀ j ∈ popL p P, j ∈ P := fun j hj => (List.dropWhile_sublist _).mem hj
theorem popL_len (p : Int) (P : List Nat) : (popL p P).length ≤ P.length := (List.dropWhile_sublist _).length_le
theorem popL_cons (p : Int) (q : Nat) (P : List Nat) : popL p (q :: P) = if (q : Int) = p then q :: P else popL p P := by
  unfold popL
  rw [List.dropWhile_cons]
  by_cases h : (q : Int) = p
  · simp [h]
  · simp [h]
theorem seenF_next (L : List NodeV) {i : Nat} (h : i < L.length) (x : IdB) : (if x = L[i].id then some (Value.bool true) else misF (seenF L i) x) = misF (seenF L (i + 1)) x := by
  have e : seenF L (i + 1) x = (seenF L i x || decide (L[i].id = x)) := by
    unfold seenF
    rw [List.take_succ_eq_append_getElem h, List.any_append]
    simp
  unfold misF
  rw [e]
  by_cases hx : x = L[i].id
  · rw [if_pos hx, hx]; simp
  · rw [if_neg hx, decide_eq_false (fun e => hx e.symm), Bool.or_false]
set_option maxRecDepth 100000 in
set_option maxHeartbeats 2000000 in
theorem Check_any {w : World} (v : Value) (L : List NodeV) (hv : ListAt nodeE w v L) (hl : L.length < 1000000) : Calls Try.prog 24 #[v] w fun e w' => e = .returned (.int .i64 (checkP L)) ∧ Below w.heap.size w w' := by
  obtain ⟨va, vc, rfl⟩ := hv.form
  obtain ⟨N, hN⟩ : ∃ N, L.length = N := ⟨_, rfl⟩
  obtain ⟨R, hR⟩ : ∃ R, checkP L = R := ⟨_, rfl⟩
  rw [hN] at hv hl ⊢
  rw [hR]
  have HV := Lib.hid hv
  have HN := Lib.hid hN
  have HR := Lib.hid hR
  clear hv hN hR
  go_enter Try.func24, Try.ntmps24
  go_wp2_with (refine wpList_mapV idKey rfl (some 10) rfl 88 Try.underlying88 (some (.tmp 9)) rfl (.inr ⟨_, _, rfl, rfl⟩) ?_; refine Stop.on ?_)
  refine Stop.go ?_
  try simp only [Act.put, List.setIfInBounds_toArray, List.set_cons_zero, List.set_cons_succ]
  intro W1 km bm sm
  try simp only [Act.put, List.setIfInBounds_toArray, List.set_cons_zero, List.set_cons_succ]
  obtain ⟨mb, hmb⟩ : ∃ mb, w.heap.size = mb := ⟨_, rfl⟩
  rw [hmb] at km ⊢
  obtain ⟨B, hB⟩ : ∃ B, W1.heap.size = B := ⟨_, rfl⟩
  have HMB := Lib.hid (show w.heap.size = mb ∧ B = mb + 1 by omega)
  have HM0 := Lib.hid (km.ext (g := misF (seenF L 0)) (fun x => by unfold misF seenF; simp))
  have HB0 := Lib.hid bm
  have HO0 := Lib.hid (show OwnL natE W1 B (.slice none 0 0) (([] : List Nat).reverse) from ownL_nil natE W1 B)
  have HG0 := Lib.hid (show B ≤ W1.heap.size by omega)
  have HI0 := Lib.hid (show ChkInv L 0 [] from ⟨fun j _ h => absurd h (Nat.not_lt_zero j), fun j h => by cases h⟩)
  have HR0 := Lib.hid (show chkGo L (N - 0) 0 [] = R by rw [← HR.out]; unfold checkP; rw [HN.out]; rfl)
  clear km bm sm hmb hB
  go_wp2_with fail
  go_loopw [4, 13] (fun pv iv wr => ∃ (i : Nat) (P : List Nat), i ≤ N ∧ iv = .int .i64 (i : Int) ∧ Hid (chkGo L (N - i) i P = R) ∧ Hid (OwnL natE wr B pv P.reverse) ∧ Hid (P.length ≤ i) ∧ Hid (KMap idKey wr mb (misF (seenF L i))) ∧ Hid (ChkInv L i P) ∧ Hid (Below w.heap.size w wr) ∧ Hid (B ≤ wr.heap.size)) (fun _ iv _ => N - (intOf iv).toNat)
  case atStart => exact ⟨0, [], Nat.zero_le _, rfl, HR0, HO0, Lib.hid (Nat.le_refl _), HM0, HI0, HB0, HG0⟩
  case round =>
    obtain ⟨i, P, hi, rfl, HRI, HO, HPL, HM, HI, HB, HG⟩ := hrel
    obtain ⟨W0, rfl⟩ : ∃ W0, W0 = wr := ⟨_, rfl⟩
    clear HR0 HO0 HM0 HI0 HB0 HG0
    by_cases hlt : i < N
    case neg =>
      obtain rfl : i = N := by omega
      have h1 := HRI.out
      rw [Nat.sub_self] at h1
      have h2 : (0 : Int) = R := h1
      subst h2
      go_wp2_with fail
      exact bodyPost_ret (v := .int .i64 0) (by simp [results, Try.results24, go_sem]) rfl ⟨rfl, HB.out⟩
    have hiL : i < L.length := by rw [HN.out]; exact hlt
    obtain ⟨g, off, eva, hg, hrr⟩ := (HV.out.below HB.out).get hiL
    subst eva
    obtain ⟨n, hn⟩ : ∃ n, L[i] = n := ⟨_, rfl⟩
    rw [hn] at hrr
    have HRR := Lib.hid (show W0.rangeAt g (off + i * 35) n.cells from hrr)
    have HNI := Lib.hid hn
    have hstep := HRI.out
    rw [show N - i = (N - (i + 1)) + 1 by omega] at hstep
    unfold chkGo at hstep
    rw [List.getElem?_eq_getElem hiL, hn] at hstep
    dsimp only at hstep
    have HST := Lib.hid hstep
    obtain ⟨pa, pc, hpv⟩ := HO.out.form
    subst hpv
    rw [List.length_reverse]
    clear hrr hn hg hstep HRI
    refine hide_postT ?_
    intro Q3 HQ3
    go_wp2_with (with_reducible refine wpList_load_mid rfl 37 (.tmp 16) rfl g (off + i * 35) rfl n.cells _ HRR.out Try.underlying37 rfl (sizeNode n) ?_; refine Stop.on ?_)
    refine Stop.go ?_
    try simp only [Act.put, List.setIfInBounds_toArray, List.set_cons_zero, List.set_cons_succ]
    go_wp2_with (refine wpList_newV rfl (some 6) rfl 37 rfl (NodeV.cells ⟨z32, 0, 0, 0⟩).toArray 35 (by kernel_rfl) ?_; refine Stop.on ?_)
    refine Stop.go ?_
    try simp only [Act.put, List.setIfInBounds_toArray, List.set_cons_zero, List.set_cons_succ]
    intro wn xn bi sn
    try simp only [Act.put, List.setIfInBounds_toArray, List.set_cons_zero, List.set_cons_succ]
    go_wp2_with (refine wpList_putV rfl rfl 37 (.tmp 6) (.tmp 17) rfl _ (n.cells).toArray rfl rfl 37 _ xn (sizeNodeA n) (zsNode n) (oneNode n) ?_; refine Stop.on ?_)
    refine Stop.go ?_
    try simp only [Act.put, List.setIfInBounds_toArray, List.set_cons_zero, List.set_cons_succ]
    intro W2 xi ci si
    try simp only [Act.put, List.setIfInBounds_toArray, List.set_cons_zero, List.set_cons_succ]
    clear xn
    have hb2 : Below W0.heap.size W0 W2 := bi.trans (ci.below (B := W0.heap.size) (fun k e => by omega) bi.size)
    obtain ⟨B6, hB6⟩ : ∃ B6, W0.heap.size = B6 := ⟨_, rfl⟩
    have HX := Lib.hid (show ∀ w', Below W2.heap.size W2 w' → w'.cell? ⟨B6, 32, none⟩ = some (.int .i64 n.row) ∧ w'.cell? ⟨B6, 33, none⟩ = some (.int .i64 n.parent) ∧ w'.cell? ⟨B6, 34, none⟩ = some (.int .i64 n.depth) ∧ w'.rangeAt B6 0 (bvs n.id.1) from fun w' hw' => by
      rw [hB6] at xi
      have h1 := range_block ((hw'.block _ (Array.getElem?_eq_some_iff.1 xi).1).trans xi)
      have h2 := node_mid h1
      simp only [Nat.zero_add] at h2
      exact ⟨h2.1, h2.2.1, h2.2.2, node_id h1⟩)
    have HO2 := Lib.hid (HO.out.below hb2)
    have HM2 := Lib.hid (HM.out.below hb2)
    have HB2 := Lib.hid (HB.out.trans (hb2.mono HB.out.size))
    have HG2 := Lib.hid (show B ≤ W2.heap.size by have := HG.out; omega)
    have H6 := Lib.hid (show B ≤ B6 ∧ B6 < W2.heap.size by have := HG.out; omega)
    rw [hB6]
    obtain ⟨e1, e2, e3, _⟩ := HX.out W2 (Below.refl _ _)
    obtain ⟨pr, hpr⟩ : ∃ pr, n.parent = pr := ⟨_, rfl⟩
    obtain ⟨rw0, hrw⟩ : ∃ r, n.row = r := ⟨_, rfl⟩
    obtain ⟨dp, hdp⟩ : ∃ d, n.depth = d := ⟨_, rfl⟩
    have hst := HST.out
    rw [hpr, hrw, hdp] at hst
    rw [hrw] at e1
    rw [hpr] at e2
    rw [hdp] at e3
    have HPR := Lib.hid hpr
    have HDP := Lib.hid hdp
    have HRW := Lib.hid hrw
    clear xi bi ci si sn hb2 hB6 hpr hrw hdp HST
    by_cases hbad : rw0 < -1 ∨ pr < -1 ∨ (i : Int) ≤ pr
    case pos =>
      rw [if_pos hbad] at hst
      subst hst
      rcases Decidable.em (rw0 < -1) with h1 | h1
      · go_wp2_with fail
        rw [HQ3.out]
        try simp only [Exit.inBlock, Exit.then]
        exact bodyPost_ret (v := .int .i64 2) (by simp [results, Try.results24, go_sem]) rfl ⟨rfl, HB2.out⟩
      · rcases Decidable.em (pr < -1) with h2 | h2
        · have h1' : decide (rw0 < -1) = false := decide_eq_false h1
          go_wp2_with fail
          rw [HQ3.out]
          try simp only [Exit.inBlock, Exit.then]
          exact bodyPost_ret (v := .int .i64 2) (by simp [results, Try.results24, go_sem]) rfl ⟨rfl, HB2.out⟩
        · have h3 : (i : Int) ≤ pr := by omega
          go_wp2_with fail
          rw [HQ3.out]
          try simp only [Exit.inBlock, Exit.then]
          exact bodyPost_ret (v := .int .i64 2) (by simp [results, Try.results24, go_sem]) rfl ⟨rfl, HB2.out⟩
    rw [if_neg hbad] at hst
    have HST := Lib.hid hst
    have hr1 : ¬ rw0 < -1 := fun h => hbad (.inl h)
    have hp1 : ¬ pr < -1 := fun h => hbad (.inr (.inl h))
    have hp2 : ¬ (i : Int) ≤ pr := fun h => hbad (.inr (.inr h))
    clear hst hbad
    go_upto_block 2 with (fail)
    go_cut [4] from 32 to 50 (fun pv wc => ∃ (Q : List Nat) (qa : Option Addr) (qc : Nat), pv = .slice qa Q.length qc ∧ Hid (Q = popL pr P) ∧ Hid (OwnL natE wc B (.slice qa Q.length qc) Q.reverse) ∧ Hid (Below W2.heap.size W2 wc))
    case first =>
      have HO3 := Lib.hid (show OwnL natE W2 B (.slice pa P.length pc) P.reverse by have h1 := HO2.out; rw [List.length_reverse] at h1; exact h1)
      refine wp_block ?_
      go_loopw [4] (fun pv wr => ∃ (Q : List Nat) (qa : Option Addr) (qc : Nat), pv = .slice qa Q.length qc ∧ Hid (popL pr Q = popL pr P) ∧ Hid (OwnL natE wr B (.slice qa Q.length qc) Q.reverse) ∧ Hid (Below W2.heap.size W2 wr) ∧ Hid (Q.length ≤ P.length)) (fun pv _ => lenV pv)
      case atStart => exact ⟨P, pa, pc, rfl, Lib.hid rfl, HO3, Lib.hid (Below.refl _ _), Lib.hid (Nat.le_refl _)⟩
      case round =>
        obtain ⟨Q, qa, qc, rfl, HQP, HQO, HQB, HQL⟩ := hrel
        obtain ⟨W3, rfl⟩ : ∃ W3, W3 = wr := ⟨_, rfl⟩
        cases Q with
        | nil =>
          have HQE := Lib.hid (show ([] : List Nat) = popL pr P by rw [← HQP.out]; rfl)
          go_wp2_with fail
          refine wp_region_seq 13 (by kernel_rfl) (by kernel_rfl) ?_
          simp only [List.take_succ_cons, List.take_zero, List.drop_succ_cons, List.drop_zero]
          obtain ⟨W4, hwd⟩ : ∃ W4, W3.drew = W4 := ⟨_, rfl⟩
          have hd_W4 : Below W3.heap.size W3 W4 ∧ W4.heap.size = W3.heap.size := hwd ▸ ⟨(Below.refl _ _).drew, rfl⟩
          rw [hwd]
          clear hwd
          have HB4 := Lib.hid (HQB.out.trans (hd_W4.1.mono HQB.out.size))
          have HO4 := Lib.hid (HQO.out.below hd_W4.1)
          clear hd_W4
          go_wp2_with fail
          refine HeadPost.mk ?_
          go_wp2_with fail
          go_meet
          case rel => exact ⟨[], qa, qc, rfl, HQE, HO4, HB4⟩
        | cons q Q =>
          obtain ⟨M, hM⟩ : ∃ M, Q.length = M := ⟨_, rfl⟩
          have hqe := HQP.out
          rw [popL_cons] at hqe
          have hix : M < ((q :: Q).reverse).length := by rw [List.length_reverse, List.length_cons]; omega
          have hqv : ((q :: Q).reverse)[M] = q := by
            subst hM
            simp
          have hqo := HQO.out
          rw [List.length_cons, hM] at hqo ⊢
          obtain ⟨gq, oq, eqa, _, hrq⟩ := hqo.at_.get hix
          subst eqa
          have hcell : W3.cell? ⟨gq, oq + M * 1 + 0, none⟩ = some (.int .i64 ((((q :: Q).reverse)[M] : Nat) : Int)) := hrq 0 _ rfl
          rw [hqv, Nat.mul_one, Nat.add_zero] at hcell
          have hMb : M < 1000000 := by have h1 := HQL.out; have h2 := HPL.out; rw [List.length_cons] at h1; omega
          have HQC := Lib.hid hqo.at_.len
          have HQO2 := Lib.hid hqo
          have HM_ := Lib.hid hM
          clear hrq hqv hix hqo hM
          go_wp2_with fail
          refine wp_region_seq 13 (by kernel_rfl) (by kernel_rfl) ?_
          simp only [List.take_succ_cons, List.take_zero, List.drop_succ_cons, List.drop_zero]
          obtain ⟨W4, hwd⟩ : ∃ W4, W3.drew = W4 := ⟨_, rfl⟩
          have hd_W4 : Below W3.heap.size W3 W4 ∧ W4.heap.size = W3.heap.size := hwd ▸ ⟨(Below.refl _ _).drew, rfl⟩
          rw [hwd]
          clear hwd
          have HB4 := Lib.hid (HQB.out.trans (hd_W4.1.mono HQB.out.size))
          have HO4 := Lib.hid (HQO2.out.below hd_W4.1)
          have hc4 : W4.cell? ⟨gq, oq + M, none⟩ = some (.int .i64 (q : Int)) := (hd_W4.1.cell (p := ⟨gq, oq + M, none⟩) (World.block_lt_of_cell? W3 _ hcell)).trans hcell
          obtain ⟨_, e2, _, _⟩ := HX.out W4 HB4.out
          rw [HPR.out] at e2
          clear hd_W4 hcell
          by_cases hqp : (q : Int) = pr
          · rw [if_pos hqp] at hqe
            have HQE := Lib.hid hqe
            have hqb : ((q : Int) != pr) = false := by simp [hqp]
            clear hqe hqp
            go_wp2_with fail
            refine HeadPost.mk ?_
            go_wp2_with fail
            go_meet
            case rel => exact ⟨q :: Q, _, qc, by rw [List.length_cons, HM_.out], HQE, by rw [List.length_cons, HM_.out]; exact HO4, HB4⟩
          · rw [if_neg hqp] at hqe
            have HQE := Lib.hid hqe
            have hqb : ((q : Int) != pr) = true := by simp [hqp]
            have hcut := cutN (some ⟨gq, oq, none⟩) (M + 1) qc M (by have := HQC.out; omega) (fun e => by cases e)
            have HO5 := Lib.hid (show OwnL natE W4 B (.slice (some ⟨gq, oq, none⟩) M qc) Q.reverse by
              have h1 := OwnL.cut HO4.out (show M ≤ M + 1 by omega)
              have h2 : ((q :: Q).reverse).take M = Q.reverse := by
                rw [List.reverse_cons, List.take_append_of_le_length (by rw [List.length_reverse, HM_.out]; exact Nat.le_refl _), List.take_of_length_le (by rw [List.length_reverse, HM_.out]; exact Nat.le_refl _)]
              rw [h2] at h1
              exact h1)
            clear hqe hqp
            go_wp2_with fail
            refine HeadPost.mk ?_
            go_wp2_with fail
            go_roundw
            case rel => exact ⟨Q, _, qc, by rw [HM_.out], HQE, by rw [HM_.out]; exact HO5, HB4, Lib.hid (by have h1 := HQL.out; rw [List.length_cons] at h1; omega)⟩
            case measure => simp [lenV]
    case rest =>
      obtain ⟨Q, qa, qc, rfl, HQ, HQO, HQB⟩ := hcut
      obtain ⟨W5, rfl⟩ : ∃ W5, W5 = wc := ⟨_, rfl⟩
      obtain ⟨e1, e2, e3, e4⟩ := HX.out W5 HQB.out
      rw [HRW.out] at e1
      rw [HPR.out] at e2
      rw [HDP.out] at e3
      have hst := HST.out
      rw [← HQ.out] at hst
      have HB5 := Lib.hid (HB2.out.trans (HQB.out.mono HB2.out.size))
      have HQL := Lib.hid (show Q.length ≤ i by rw [HQ.out]; have h1 := popL_len pr P; have h2 := HPL.out; omega)
      have hQl : Q.length < 1000000 := by have := HQL.out; omega
      by_cases hsq : pr ≠ -1 ∧ Q = []
      case pos =>
        rw [if_pos hsq] at hst
        subst hst
        obtain ⟨h1, h2⟩ := hsq
        subst h2
        have hb1 : (pr != -1) = true := by simp [h1]
        go_wp2_with fail
        rw [HQ3.out]
        try simp only [Exit.inBlock, Exit.then]
        exact bodyPost_ret (v := .int .i64 30) (by simp [results, Try.results24, go_sem]) rfl ⟨rfl, HB5.out⟩
      rw [if_neg hsq] at hst
      have HST3 := Lib.hid hst
      have HRI := Lib.hid e4
      have HM5 := Lib.hid (HM2.out.below HQB.out)
      obtain ⟨dv, hdv⟩ : ∃ dv, depOf L pr = dv := ⟨_, rfl⟩
      have HDV := Lib.hid hdv
      clear hst e1 e4 hdv
      by_cases hp0 : pr = -1
      · subst hp0
        obtain rfl : dv = 0 := by rw [← HDV.out]; unfold depOf; rw [if_pos rfl]
        have HDEP := Lib.hid (show (0 : Int) ≤ 0 ∧ (0 : Int) ≤ (i : Int) by omega)
        by_cases hdd : dp = 0
        case neg =>
          have hst := HST3.out
          rw [HDV.out, if_pos hdd] at hst
          subst hst
          have hdb : (dp != 0) = true := by simp [hdd]
          go_wp2_with fail
          rw [HQ3.out]
          try simp only [Exit.inBlock, Exit.then]
          exact bodyPost_ret (v := .int .i64 10) (by simp [results, Try.results24, go_sem]) rfl ⟨rfl, HB5.out⟩
        have hst := HST3.out
        rw [HDV.out, if_neg (fun h => h hdd)] at hst
        have hdb : (dp != 0) = false := by simp [hdd]
        have HDD := Lib.hid hdd
        have hlk := look_mis HM5.out n.id
        obtain ⟨sn, hsn⟩ : ∃ sn, seenF L i n.id = sn := ⟨_, rfl⟩
        rw [hsn] at hlk
        have hsn2 : ((L.take i).any fun m => decide (m.id = n.id)) = sn := hsn
        rw [hsn2] at hst
        have HST4 := Lib.hid hst
        clear hst hsn hsn2 hdd
        go_wp2_with (with_reducible refine wpList_load_mid rfl 35 (.tmp 74) rfl B6 0 rfl (bvs n.id.1) _ HRI.out Try.underlying35 rfl (sizeId n.id) ?_; refine Stop.on ?_)
        refine Stop.go ?_
        try simp only [Act.put, List.setIfInBounds_toArray, List.set_cons_zero, List.set_cons_succ]
        cases sn with
        | true =>
          have hst := HST4.out
          rw [if_pos rfl] at hst
          subst hst
          go_wp2_with fail
          rw [HQ3.out]
          try simp only [Exit.inBlock, Exit.then]
          exact bodyPost_ret (v := .int .i64 7) (by simp [results, Try.results24, go_sem]) rfl ⟨rfl, HB5.out⟩
        | false =>
          go_wp2_with (with_reducible refine wpList_load_mid rfl 35 (.tmp 78) rfl B6 0 rfl (bvs n.id.1) _ HRI.out Try.underlying35 rfl (sizeId n.id) ?_; refine Stop.on ?_)
          refine Stop.go ?_
          try simp only [Act.put, List.setIfInBounds_toArray, List.set_cons_zero, List.set_cons_succ]
          refine wpList_updV HM5.out rfl rfl 88 Try.underlying88 (.tmp 77) (.tmp 79) (.const (.bool true)) rfl rfl n.id rfl (.bool true) rfl ?_
          intro W6 hm6 hc6 hs6
          try simp only [Act.put, List.setIfInBounds_toArray, List.set_cons_zero, List.set_cons_succ]
          have HM6 := Lib.hid (hm6.ext (g := misF (seenF L (i + 1))) (fun x => by have h1 := seenF_next L hiL x; rw [HNI.out] at h1; exact h1))
          have HO6 := Lib.hid (HQO.out.chg hc6 (fun j hj e => by have h1 := (HQO.out.lt hj).1; have h2 := HMB.out; omega))
          have HB6 := Lib.hid (HB5.out.trans (hc6.below (B := w.heap.size) (fun j e => by have h2 := HMB.out; omega) HB5.out.size))
          have HG6 := Lib.hid (show B ≤ W6.heap.size by have h1 := HG2.out; have h2 := HQB.out.size; omega)
          obtain ⟨W7, hw7⟩ : ∃ W7, W6.alloc (.cells #[.int .i64 (i : Int)] 3) = W7 := ⟨_, rfl⟩
          have HB7 := Lib.hid (show Below W6.heap.size W6 W7 from hw7 ▸ (Below.refl _ _).alloc (Nat.le_refl _) _)
          have HL7 := Lib.hid (show ListAt natE W7 (.slice (some ⟨W6.heap.size, 0, none⟩) 1 1) [i] from hw7 ▸ listAt_one natE W6 i)
          have HO7 := Lib.hid (HO6.out.below HB7.out)
          have HG7 := Lib.hid (Nat.le_trans HG6.out HB7.out.size)
          clear hm6 hc6 hs6 hlk hdb
          go_wp2_with (refine wpList_appL natE rfl (.tmp 80) (.tmp 82) rfl rfl HO7.out rfl HL7.out (n := Q.length) (m := 1) (List.length_reverse ..) rfl (by omega) HG7.out ?_; refine Stop.on ?_)
          refine Stop.go ?_
          try simp only [Act.put, List.setIfInBounds_toArray, List.set_cons_zero, List.set_cons_succ]
          intro a' cap' W8 ho8 hg8 hat8
          try simp only [Act.put, List.setIfInBounds_toArray, List.set_cons_zero, List.set_cons_succ]
          have HO8 := Lib.hid (show OwnL natE W8 B (.slice a' (Q.length + 1) cap') (i :: Q).reverse by rw [List.reverse_cons]; exact ho8)
          have hb8 : Below B W7 W8 := HO7.out.grown_below hg8 HG7.out
          have HM8 := Lib.hid ((HM6.out.below HB7.out).kept (w' := W8) (hb8.block mb (by have h2 := HMB.out; omega)))
          have HB8 := Lib.hid ((HB6.out.trans (HB7.out.mono HB6.out.size)).trans (hb8.mono (by have h2 := HMB.out; omega)))
          have HG8 := Lib.hid (Nat.le_trans HG7.out hb8.size)
          have HR8 := Lib.hid (show chkGo L (N - (i + 1)) (i + 1) (i :: Q) = R by have h1 := HST4.out; rw [if_neg (by decide)] at h1; exact h1)
          have HI8 := Lib.hid (show ChkInv L (i + 1) (i :: Q) from ⟨fun j hj hji => by
            by_cases h : j = i
            · subst h
              have h2 := HDEP.out
              rw [HNI.out, HDP.out, HDD.out]
              exact h2
            · exact HI.out.1 j hj (by omega), fun j hj => by
            rcases List.mem_cons.1 hj with rfl | h
            · omega
            · rw [HQ.out] at h
              have := HI.out.2 j (popL_sub _ P j h)
              omega⟩)
          clear ho8 hg8 hat8 hb8 hw7
          go_wp2_with fail
          rw [HQ3.out]
          change _ ∧ _
          go_roundw
          case rel => exact ⟨i + 1, i :: Q, by omega, by go_num, HR8, HO8, Lib.hid (by have h1 := HQL.out; rw [List.length_cons]; omega), HM8, HI8, HB8, HG8⟩
          case measure => simp [intOf]; omega
      · obtain ⟨pn, hpn⟩ : ∃ pn : Nat, (pn : Int) = pr := ⟨pr.toNat, by omega⟩
        subst hpn
        have hpi : pn < i := by omega
        have hpL : pn < L.length := by rw [HN.out]; omega
        obtain ⟨g2, off2, eva2, _, hrp⟩ := (HV.out.below HB5.out).get hpL
        cases eva2
        have hdc := (node_mid (show W5.rangeAt g (off + pn * 35) L[pn].cells from hrp)).2.2
        obtain ⟨dd, hdd0⟩ : ∃ dd, L[pn].depth = dd := ⟨_, rfl⟩
        rw [hdd0] at hdc
        have hdb0 := HI.out.1 pn hpL hpi
        rw [hdd0] at hdb0
        obtain ⟨hdl, hdu⟩ := hdb0
        obtain rfl : dv = dd + 1 := by
          rw [← HDV.out]
          unfold depOf
          rw [if_neg hp0, Int.toNat_natCast, List.getElem?_eq_getElem hpL, Option.map_some, Option.getD_some, hdd0]
        have HDEP := Lib.hid (show (0 : Int) ≤ dd + 1 ∧ dd + 1 ≤ (i : Int) by omega)
        have hQ1 : Q ≠ [] := fun e => hsq ⟨hp0, e⟩
        obtain ⟨QL, hQL⟩ : ∃ QL, Q.length = QL + 1 := ⟨Q.length - 1, by have := List.length_pos_iff.2 hQ1; omega⟩
        have hp0b : (((pn : Nat) : Int) != -1) = true := by first | (simp; done) | (simp; omega)
        have hQLb : ((Q.length : Int) == 0) = false := by first | (simp; done) | (simp; omega)
        have hpN : (pn : Int) < (N : Int) := by omega
        have HQL_ := Lib.hid hQL
        clear hrp hdd0 hQ1 hQL hpi hpL
        by_cases hdd : dp = dd + 1
        case neg =>
          have hst := HST3.out
          rw [HDV.out, if_pos hdd] at hst
          subst hst
          have hdb : (dp != dd + 1) = true := by simp [hdd]
          go_wp2_with fail
          rw [HQ3.out]
          try simp only [Exit.inBlock, Exit.then]
          exact bodyPost_ret (v := .int .i64 10) (by simp [results, Try.results24, go_sem]) rfl ⟨rfl, HB5.out⟩
        have hst := HST3.out
        rw [HDV.out, if_neg (fun h => h hdd)] at hst
        have hdb : (dp != dd + 1) = false := by simp [hdd]
        have HDD := Lib.hid hdd
        have hlk := look_mis HM5.out n.id
        obtain ⟨sn, hsn⟩ : ∃ sn, seenF L i n.id = sn := ⟨_, rfl⟩
        rw [hsn] at hlk
        have hsn2 : ((L.take i).any fun m => decide (m.id = n.id)) = sn := hsn
        rw [hsn2] at hst
        have HST4 := Lib.hid hst
        clear hst hsn hsn2 hdd
        go_wp2_with (with_reducible refine wpList_load_mid rfl 35 (.tmp 74) rfl B6 0 rfl (bvs n.id.1) _ HRI.out Try.underlying35 rfl (sizeId n.id) ?_; refine Stop.on ?_)
        refine Stop.go ?_
        try simp only [Act.put, List.setIfInBounds_toArray, List.set_cons_zero, List.set_cons_succ]
        cases sn with
        | true =>
          have hst := HST4.out
          rw [if_pos rfl] at hst
          subst hst
          go_wp2_with fail
          rw [HQ3.out]
          try simp only [Exit.inBlock, Exit.then]
          exact bodyPost_ret (v := .int .i64 7) (by simp [results, Try.results24, go_sem]) rfl ⟨rfl, HB5.out⟩
        | false =>
          go_wp2_with (with_reducible refine wpList_load_mid rfl 35 (.tmp 78) rfl B6 0 rfl (bvs n.id.1) _ HRI.out Try.underlying35 rfl (sizeId n.id) ?_; refine Stop.on ?_)
          refine Stop.go ?_
          try simp only [Act.put, List.setIfInBounds_toArray, List.set_cons_zero, List.set_cons_succ]
          refine wpList_updV HM5.out rfl rfl 88 Try.underlying88 (.tmp 77) (.tmp 79) (.const (.bool true)) rfl rfl n.id rfl (.bool true) rfl ?_
          intro W6 hm6 hc6 hs6
          try simp only [Act.put, List.setIfInBounds_toArray, List.set_cons_zero, List.set_cons_succ]
          have HM6 := Lib.hid (hm6.ext (g := misF (seenF L (i + 1))) (fun x => by have h1 := seenF_next L hiL x; rw [HNI.out] at h1; exact h1))
          have HO6 := Lib.hid (HQO.out.chg hc6 (fun j hj e => by have h1 := (HQO.out.lt hj).1; have h2 := HMB.out; omega))
          have HB6 := Lib.hid (HB5.out.trans (hc6.below (B := w.heap.size) (fun j e => by have h2 := HMB.out; omega) HB5.out.size))
          have HG6 := Lib.hid (show B ≤ W6.heap.size by have h1 := HG2.out; have h2 := HQB.out.size; omega)
          obtain ⟨W7, hw7⟩ : ∃ W7, W6.alloc (.cells #[.int .i64 (i : Int)] 3) = W7 := ⟨_, rfl⟩
          have HB7 := Lib.hid (show Below W6.heap.size W6 W7 from hw7 ▸ (Below.refl _ _).alloc (Nat.le_refl _) _)
          have HL7 := Lib.hid (show ListAt natE W7 (.slice (some ⟨W6.heap.size, 0, none⟩) 1 1) [i] from hw7 ▸ listAt_one natE W6 i)
          have HO7 := Lib.hid (HO6.out.below HB7.out)
          have HG7 := Lib.hid (Nat.le_trans HG6.out HB7.out.size)
          clear hm6 hc6 hs6 hlk hdb
          go_wp2_with (refine wpList_appL natE rfl (.tmp 80) (.tmp 82) rfl rfl HO7.out rfl HL7.out (n := Q.length) (m := 1) (List.length_reverse ..) rfl (by omega) HG7.out ?_; refine Stop.on ?_)
          refine Stop.go ?_
          try simp only [Act.put, List.setIfInBounds_toArray, List.set_cons_zero, List.set_cons_succ]
          intro a' cap' W8 ho8 hg8 hat8
          try simp only [Act.put, List.setIfInBounds_toArray, List.set_cons_zero, List.set_cons_succ]
          have HO8 := Lib.hid (show OwnL natE W8 B (.slice a' (Q.length + 1) cap') (i :: Q).reverse by rw [List.reverse_cons]; exact ho8)
          have hb8 : Below B W7 W8 := HO7.out.grown_below hg8 HG7.out
          have HM8 := Lib.hid ((HM6.out.below HB7.out).kept (w' := W8) (hb8.block mb (by have h2 := HMB.out; omega)))
          have HB8 := Lib.hid ((HB6.out.trans (HB7.out.mono HB6.out.size)).trans (hb8.mono (by have h2 := HMB.out; omega)))
          have HG8 := Lib.hid (Nat.le_trans HG7.out hb8.size)
          have HR8 := Lib.hid (show chkGo L (N - (i + 1)) (i + 1) (i :: Q) = R by have h1 := HST4.out; rw [if_neg (by decide)] at h1; exact h1)
          have HI8 := Lib.hid (show ChkInv L (i + 1) (i :: Q) from ⟨fun j hj hji => by
            by_cases h : j = i
            · subst h
              have h2 := HDEP.out
              rw [HNI.out, HDP.out, HDD.out]
              exact h2
            · exact HI.out.1 j hj (by omega), fun j hj => by
            rcases List.mem_cons.1 hj with rfl | h
            · omega
            · rw [HQ.out] at h
              have := HI.out.2 j (popL_sub _ P j h)
              omega⟩)
          clear ho8 hg8 hat8 hb8 hw7
          go_wp2_with fail
          rw [HQ3.out]
          change _ ∧ _
          go_roundw
          case rel => exact ⟨i + 1, i :: Q, by omega, by go_num, HR8, HO8, Lib.hid (by have h1 := HQL.out; rw [List.length_cons]; omega), HM8, HI8, HB8, HG8⟩
          case measure => simp [intOf]; omega
end Go.Proofs.Ythfinofmbnfijaa
