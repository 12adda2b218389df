/- The law's do: an operation on the spool and on the reference. -/
import Derived.Test.YtnmdgjodbikndaaS17
import Derived.Test.YtnmdgjodbikndaaS3
import Derived.Test.YtnmdgjodbikndaaS7
namespace Go.Proofs.Ytnmdgjodbikndaa
open Go.RowKit
set_option linter.unusedVariables false
set_option linter.unusedSimpArgs false

def DoPost (w : World) (b m : Nat) (B : Int) (S' : SpD) (e : Ending) (w' : World) : Prop :=
  ∃ v', e = .returned (.tuple #[.agg #[.int .i64 B, v'], .bool true]) ∧ SpAt w' b m S' ∧ ListAt refE w' v' S'.ref ∧ Chg (fun k => k = b ∨ k = m) w w'
theorem ListAt.kept_row {w w' : World} {g0 : Nat} {cs : Array Value} {t : TypeId} {fr : Nat × Nat} {v : Value} {L : List RefA} (hx : w.heap[g0]? = some (.cells cs t fr)) (hn : cs.size ≤ 32) (h : ListAt refE w v L) (hc : Chg (fun k => k = g0) w w') : ListAt refE w' v L := by
  obtain ⟨a, cap, e, h1, h2, h3, h4⟩ := h.ex
  refine ⟨a, cap, e, h1, h2, h3, fun hne => ?_⟩
  obtain ⟨g, off, e1, hg, hr⟩ := h4 hne
  have h0 : 0 < L.length := List.length_pos_iff.2 hne
  have hx2 : w.cell? ⟨g, off + 0 * 34 + 32, none⟩ = some (.string L[0].text) := hr 0 h0 32 _ (by
    show L[0].cells[32]? = _
    unfold RefA.cells
    rw [List.getElem?_append_right (by rw [bvs_length, L[0].id.2]; decide), bvs_length, L[0].id.2]
    rfl)
  have hgb : g ≠ g0 := by
    intro e
    subst e
    rw [cell_of_row _ _ _ _ _ _ hx, Array.getElem?_eq_none (by omega)] at hx2
    cases hx2
  exact ⟨g, off, e1, Nat.lt_of_lt_of_le hg hc.size, fun i hi j u hj => hc.cell (p := ⟨g, off + i * 34 + j, none⟩) hgb (hr i hi j u hj)⟩
theorem do_end {w wX wq : World} {b m A : Nat} {S' : SpD} {v' x y : Value} (hb : b < w.heap.size) (hm : m < w.heap.size) (hA : w.heap.size ≤ A) (hs : SpAt wX b m S') (hl : ListAt refE wX v' S'.ref) (hc : Chg (fun k => k = b ∨ k = m) w wX)
    (hx : wX.heap[A]? = some (.cells #[x, y] 50 (0, 0))) (cq : Chg (fun k => k = A) wX wq) : SpAt wq b m S' ∧ ListAt refE wq v' S'.ref ∧ Chg (fun k => k = b ∨ k = m) w wq :=
  ⟨hs.chg cq (by omega) (by omega), hl.kept_row hx (by simp) cq, hc.trans cq (fun i e => .inr (by omega))⟩
theorem OpD.parts (o : OpD) : o.cells.toArray[0]? = some (.int .i64 o.kind) ∧ o.cells.toArray[35]? = some (.int .i64 o.from') ∧ o.cells.toArray[36]? = some (.int .i64 o.count) := by
  unfold OpD.cells
  refine ⟨rfl, ?_, ?_⟩
  · rw [List.getElem?_toArray, List.getElem?_append_right (by simp), List.getElem?_append_right (by rw [RefA.cells_length]; simp), RefA.cells_length]; rfl
  · rw [List.getElem?_toArray, List.getElem?_append_right (by simp), List.getElem?_append_right (by rw [RefA.cells_length]; simp), RefA.cells_length]; rfl
theorem OpD.article {w : World} {g off : Nat} {o : OpD} (h : w.rangeAt g off o.cells) : w.rangeAt g (off + 1) o.a.cells := fun j u hj => by
  have := h (1 + j) u (by
    unfold OpD.cells
    rw [List.getElem?_append_right (by simp), List.getElem?_append_left (by have := (List.getElem?_eq_some_iff.1 hj).1; simp; omega)]
    simpa using hj)
  rw [← this]
  congr 2
  omega
theorem RefA.parts (a : RefA) : a.cells.toArray[32]? = some (.string a.text) ∧ a.cells.toArray[33]? = some (.int .i64 a.min) := by
  unfold RefA.cells
  have hl : (bvs a.id.1).length = 32 := by rw [bvs_length, a.id.2]
  constructor
  · rw [List.getElem?_toArray, List.getElem?_append_right (by omega), hl]; rfl
  · rw [List.getElem?_toArray, List.getElem?_append_right (by omega), hl]; rfl
theorem range_idA {w : World} {g : Nat} {a : RefA} (h : w.heap[g]? = some (.cells a.cells.toArray 37 (0, 0))) : w.rangeAt g 0 (bvs a.id.1) := fun j u hj => range_block h j u (by
  unfold RefA.cells
  rw [List.getElem?_append_left (List.getElem?_eq_some_iff.1 hj).1]
  exact hj)
theorem sizeOp {o : OpD} : (Try.prog.info? 39).map (·.size) = some o.cells.length := by rw [OpD.cells_length]; kernel_rfl
set_option maxRecDepth 100000 in
set_option maxHeartbeats 2000000 in
theorem do_any {w : World} {b m n : Nat} {S : SpD} (hst : StableOk n) (h : SpAt w b m S) (hok : S.Ok) (hn : S.list.length ≤ n) (hnn : n < 10000) (hnx : S.next < 1000000000000) (v : Value) (hv : ListAt refE w v S.ref) (o : OpD) :
    Calls Try.prog 28 #[.pointer (some ⟨b, 0, none⟩), .agg #[.int .i64 S.budget, v], .agg o.cells.toArray] w (DoPost w b m S.budget (stepS S o)) := by
  obtain ⟨va, vc, rfl⟩ := hv.form
  obtain ⟨N, hN⟩ : ∃ N, S.ref.length = N := ⟨_, rfl⟩
  rw [hN] at hv ⊢
  obtain ⟨B, hB⟩ : ∃ B, S.budget = B := ⟨_, rfl⟩
  obtain ⟨S', hSS⟩ : ∃ S', stepS S o = S' := ⟨_, rfl⟩
  rw [hB, hSS]
  have hbl := h.lt
  have hml := h.hm.lt
  obtain ⟨w1, hw1⟩ : ∃ w1, w.alloc (.cells #[.int .i64 B, .slice va N vc] 50) = w1 := ⟨_, rfl⟩
  obtain ⟨w2, hw2⟩ : ∃ w2, w1.alloc (.cells o.cells.toArray 39) = w2 := ⟨_, rfl⟩
  have hx1 : w1.heap[w.heap.size]? = some (.cells #[.int .i64 B, .slice va N vc] 50 (0, 0)) := by rw [← hw1]; exact heap_alloc_new _ _
  have hx2 : w2.heap[w1.heap.size]? = some (.cells o.cells.toArray 39 (0, 0)) := by rw [← hw2]; exact heap_alloc_new _ _
  have hb1 : Below w.heap.size w w1 := hw1 ▸ (Below.refl _ _).alloc (Nat.le_refl _) _
  have hb2 : Below w1.heap.size w1 w2 := hw2 ▸ (Below.refl _ _).alloc (Nat.le_refl _) _
  have hb12 := hb1.trans (hb2.mono hb1.size)
  have hx1' := (hb2.block _ (Array.getElem?_eq_some_iff.1 hx1).1).trans hx1
  have HLZ := Lib.hid (show w.heap.size < w1.heap.size ∧ w1.heap.size < w2.heap.size from ⟨(Array.getElem?_eq_some_iff.1 hx1).1, (Array.getElem?_eq_some_iff.1 hx2).1⟩)
  have HX1 := Lib.hid hx1'
  have HX2 := Lib.hid hx2
  have HB12 := Lib.hid hb12
  have HS0 := Lib.hid h
  have HV0 := Lib.hid hv
  have HOK := Lib.hid hok
  have HST := Lib.hid hst
  have HLE := Lib.hid hn
  have HNN := Lib.hid hnn
  have HNX := Lib.hid hnx
  have HLN := Lib.hid (show S.ref.length < 1000000 by rw [ref_length]; omega)
  have HLN2 := Lib.hid hN
  have HB := Lib.hid hB
  have HSS := Lib.hid hSS
  have HBM := Lib.hid (And.intro hbl hml)
  clear hx1 hx1' hx2 hb1 hb2 hb12 hv h hok hst hn hnn hnx hN hB hSS hbl hml
  go_enter Try.func28, Try.ntmps28
  go_wp2_with (refine wpList_newV rfl (some 6) rfl 50 rfl #[.int .i64 0, .slice none 0 0] 2 (by kernel_rfl) ?_; refine Stop.on ?_)
  refine Stop.go ?_
  try simp only [Act.put, List.setIfInBounds_toArray, List.set_cons_zero, List.set_cons_succ]
  intro wi0 x0 b0 s0
  try simp only [Act.put, List.setIfInBounds_toArray, List.set_cons_zero, List.set_cons_succ]
  have HX0 := Lib.hid x0
  have HB0 := Lib.hid b0
  have HS00 := Lib.hid s0
  clear x0 b0 s0
  obtain ⟨a, ha⟩ : ∃ a, o.a = a := ⟨_, rfl⟩
  have hra : wi0.rangeAt w1.heap.size 1 a.cells := by
    rw [← ha]
    have := OpD.article (range_block ((HB0.out.block _ HLZ.out.2).trans HX2.out))
    exact this
  have HRA := Lib.hid hra
  have HA := Lib.hid ha
  clear hra ha
  go_wp2_with (with_reducible refine wpList_load_mid rfl 37 _ rfl w1.heap.size 1 rfl a.cells _ HRA.out Try.underlying37 rfl sizeA ?_; refine Stop.on ?_)
  refine Stop.go ?_
  try simp only [Act.put, List.setIfInBounds_toArray, List.set_cons_zero, List.set_cons_succ]
  refine wpList_newV rfl (some 8) rfl 37 rfl zR.cells.toArray 34 (by kernel_rfl) ?_
  intro wi1 x1 b1 s1
  try simp only [Act.put, List.setIfInBounds_toArray, List.set_cons_zero, List.set_cons_succ]
  refine wpList_putV rfl rfl 37 (.tmp 8) (.tmp 27) rfl _ a.cells.toArray rfl rfl 37 _ x1 sizeAA (by rw [List.size_toArray, List.size_toArray, RefA.cells_length, RefA.cells_length]) (all_oneCell_cells refE a) ?_
  intro wi xi ci si
  try simp only [Act.put, List.setIfInBounds_toArray, List.set_cons_zero, List.set_cons_succ]
  have hbi : Below wi0.heap.size wi0 wi := b1.trans (ci.below (B := wi0.heap.size) (fun k e => by omega) (by omega))
  have HBI := Lib.hid (HB12.out.trans ((HB0.out.trans (hbi.mono HB0.out.size)).mono HB12.out.size))
  have HLT := Lib.hid (show b < w.heap.size ∧ m < w.heap.size ∧ w.heap.size ≤ w2.heap.size ∧ w2.heap.size < wi0.heap.size ∧ wi0.heap.size < wi.heap.size from ⟨HBM.out.1, HBM.out.2, by have := HLZ.out; omega, by have := HS00.out; omega, (Array.getElem?_eq_some_iff.1 xi).1⟩)
  have HS := Lib.hid (HS0.out.below HBI.out)
  have HV := Lib.hid (HV0.out.below HBI.out)
  obtain ⟨kd, hkd⟩ : ∃ kd, o.kind = kd := ⟨_, rfl⟩
  obtain ⟨fr, hfr⟩ : ∃ fr, o.from' = fr := ⟨_, rfl⟩
  obtain ⟨cn, hcn⟩ : ∃ cn, o.count = cn := ⟨_, rfl⟩
  have HO := Lib.hid (show ∀ w', Chg (fun k => k = b ∨ k = m) wi w' → w'.heap[w.heap.size]? = some (.cells #[.int .i64 B, .slice va N vc] 50 (0, 0)) ∧ w'.heap[w1.heap.size]? = some (.cells o.cells.toArray 39 (0, 0)) ∧ w'.heap[w2.heap.size]? = some (.cells #[.int .i64 0, .slice none 0 0] 50 (0, 0)) ∧ w'.heap[wi0.heap.size]? = some (.cells a.cells.toArray 37 (0, 0)) ∧ ListAt refE w' (.slice va N vc) S.ref ∧
      w'.cell? ⟨w1.heap.size, 0, none⟩ = some (.int .i64 kd) ∧ w'.cell? ⟨wi0.heap.size, 32, none⟩ = some (.string a.text) ∧ w'.cell? ⟨wi0.heap.size, 33, none⟩ = some (.int .i64 a.min) ∧ w'.cell? ⟨w1.heap.size, 35, none⟩ = some (.int .i64 fr) ∧ w'.cell? ⟨w1.heap.size, 36, none⟩ = some (.int .i64 cn) ∧ w'.rangeAt wi0.heap.size 0 (bvs a.id.1) from fun w' hw' => by
    have hlt := HLT.out
    have hlz := HLZ.out
    have f1 := (hw'.block _ (by omega) (by omega)).trans ((hbi.block _ (by omega)).trans ((HB0.out.block _ (by omega)).trans HX1.out))
    have f2 := (hw'.block _ (by omega) (by omega)).trans ((hbi.block _ (by omega)).trans ((HB0.out.block _ (by omega)).trans HX2.out))
    have f3 := (hw'.block _ (by omega) (by omega)).trans ((hbi.block _ (by omega)).trans HX0.out)
    have f4 := (hw'.block _ (by omega) (by omega)).trans xi
    refine ⟨f1, f2, f3, f4, HV.out.kept_sp HS.out hw', ?_, ?_, ?_, ?_, ?_, range_idA f4⟩
    · rw [cell_of_row _ _ _ _ _ _ f2, ← hkd]; exact o.parts.1
    · rw [cell_of_row _ _ _ _ _ _ f4]; exact a.parts.1
    · rw [cell_of_row _ _ _ _ _ _ f4]; exact a.parts.2
    · rw [cell_of_row _ _ _ _ _ _ f2, ← hfr]; exact o.parts.2.1
    · rw [cell_of_row _ _ _ _ _ _ f2, ← hcn]; exact o.parts.2.2)
  have HKD := Lib.hid hkd
  have HCI := Lib.hid (HO.out wi (Chg.refl _ _))
  have hck := HCI.out.2.2.2.2.2.1
  have hct := HCI.out.2.2.2.2.2.2.1
  have hcm := HCI.out.2.2.2.2.2.2.2.1
  have hcf := HCI.out.2.2.2.2.2.2.2.2.1
  have hcc := HCI.out.2.2.2.2.2.2.2.2.2.1
  clear x1 b1 s1 xi ci si hbi hkd hfr hcn HBM HB0 HX0 HRA HS00 HX1 HX2 HS0 HV0 HB12
  by_cases k0 : kd = 0
  · subst k0
    have hS' : putS S a.id a.text a.min = S' := by rw [← HSS.out]; unfold stepS; rw [if_pos HKD.out, HA.out]
    obtain ⟨c, hc⟩ : ∃ c, putC S a.id a.text a.min = c := ⟨_, rfl⟩
    have hput := Put_any HS.out HOK.out HNX.out a.id a.text a.min
    have href := fun wp (h : ListAt refE wp (.slice va N vc) S.ref) => rPut_any (w := wp) S.budget (.slice va N vc) S.ref a h HLN.out (ref_tx HOK.out)
    rw [hc, hS'] at hput
    rw [ref_putC, hc] at href
    have href2 : ∀ wp, ListAt refE wp (.slice va N vc) S.ref → Calls Try.prog 44 #[.agg #[.int .i64 B, .slice va N vc], .agg a.cells.toArray] wp (RPost wp B c S'.ref) := fun wp h => by
      have h1 := href wp h
      have h2 := ref_putS S a
      rw [ref_putC, hc, hS'] at h2
      rw [h2, HB.out] at h1
      exact h1
    have HSP := Lib.hid hput
    have HRF := Lib.hid href2
    clear hput href href2 hc hS' HSS
    go_wp2_with (with_reducible refine wpList_load_mid rfl 29 _ rfl wi0.heap.size 0 rfl (bvs a.id.1) _ HCI.out.2.2.2.2.2.2.2.2.2.2 Try.underlying29 rfl (sizeArr a.id) ?_; refine Stop.on ?_)
    refine Stop.go ?_
    try simp only [Act.put, List.setIfInBounds_toArray, List.set_cons_zero, List.set_cons_succ]
    go_wp2_with fail
    refine HSP.out.mono ?_
    rintro e wp ⟨rfl, hsp, hcp⟩
    have HOP := Lib.hid (HO.out _ hcp)
    have HCP := Lib.hid hcp
    have HSQ := Lib.hid hsp
    clear hsp hcp
    go_wp2_with (refine wpList_loadV rfl (some 41) rfl 50 (.tmp 4) rfl _ rfl 50 #[.int .i64 B, .slice va N vc] (0, 0) _ HOP.out.1 Try.underlying50 rfl sizeS ?_; refine Stop.on ?_)
    refine Stop.go ?_
    try simp only [Act.put, List.setIfInBounds_toArray, List.set_cons_zero, List.set_cons_succ]
    refine wpList_loadV rfl (some 42) rfl 37 (.tmp 8) rfl _ rfl 37 a.cells.toArray (0, 0) _ HOP.out.2.2.2.1 Try.underlying37 rfl sizeAA ?_
    try simp only [Act.put, List.setIfInBounds_toArray, List.set_cons_zero, List.set_cons_succ]
    go_wp2_with fail
    refine (HRF.out wp HOP.out.2.2.2.2.1).mono ?_
    rintro e wr ⟨v', rfl, hl', hbr⟩
    obtain ⟨pa, pc, rfl⟩ := hl'.form
    obtain ⟨N', hN'⟩ : ∃ N', S'.ref.length = N' := ⟨_, rfl⟩
    rw [hN'] at hl' ⊢
    have HLR := Lib.hid hl'
    have HBR := Lib.hid hbr
    clear hl' hbr hN'
    go_wp2_with (refine wpList_newV rfl (some 10) rfl 50 rfl #[.int .i64 0, .slice none 0 0] 2 (by kernel_rfl) ?_; refine Stop.on ?_)
    refine Stop.go ?_
    try simp only [Act.put, List.setIfInBounds_toArray, List.set_cons_zero, List.set_cons_succ]
    intro wn xn bn sn
    try simp only [Act.put, List.setIfInBounds_toArray, List.set_cons_zero, List.set_cons_succ]
    refine wpList_putV rfl rfl 50 (.tmp 10) (.tmp 44) rfl _ #[.int .i64 B, .slice pa N' pc] rfl rfl 50 _ xn sizeS rfl oneS ?_
    try simp only [Act.put, List.setIfInBounds_toArray, List.set_cons_zero, List.set_cons_succ]
    intro wm xm cm sm
    try simp only [Act.put, List.setIfInBounds_toArray, List.set_cons_zero, List.set_cons_succ]
    have HXM := Lib.hid xm
    have hbm : Below wr.heap.size wr wm := bn.trans (cm.below (B := wr.heap.size) (fun k e => by omega) (by omega))
    have HBM := Lib.hid (HBR.out.trans (hbm.mono HBR.out.size))
    have HLM := Lib.hid (HLR.out.below hbm)
    have HX6 := Lib.hid ((HBM.out.block _ (Array.getElem?_eq_some_iff.1 HOP.out.2.2.1).1).trans HOP.out.2.2.1)
    clear xn bn sn xm cm sm hbm
    go_wp2_with (refine wpList_loadV rfl (some 46) rfl 50 (.tmp 10) rfl _ rfl 50 #[.int .i64 B, .slice pa N' pc] (0, 0) _ HXM.out Try.underlying50 rfl sizeS ?_; refine Stop.on ?_)
    refine Stop.go ?_
    try simp only [Act.put, List.setIfInBounds_toArray, List.set_cons_zero, List.set_cons_succ]
    go_wp2_with (refine wpList_putV rfl rfl 50 (.tmp 6) (.tmp 46) rfl _ #[.int .i64 B, .slice pa N' pc] rfl rfl 50 _ HX6.out sizeS rfl oneS ?_; refine Stop.on ?_)
    refine Stop.go ?_
    try simp only [Act.put, List.setIfInBounds_toArray, List.set_cons_zero, List.set_cons_succ]
    intro wq xq cq sq
    try simp only [Act.put, List.setIfInBounds_toArray, List.set_cons_zero, List.set_cons_succ]
    have HXQ := Lib.hid xq
    have HEND := Lib.hid (do_end HLT.out.1 HLT.out.2.1 HLT.out.2.2.1 (HSQ.out.below HBM.out) HLM.out (((Chg.of_below HBI.out).trans HCP.out (fun _ h => .inl h)).trans (Chg.of_below (F := fun k => k = b ∨ k = m) HBM.out) (fun _ h => .inl h)) HX6.out cq)
    clear xq cq sq
    go_wp2_with fail
    exact bodyPost_ret (results_cell_tmp_row (g := w2.heap.size) rfl _ _ _ _ _ _ rfl HXQ.out Try.underlying50 rfl sizeS) rfl ⟨_, rfl, HEND.out⟩
  by_cases k1 : kd = 1
  · subst k1
    have hS' : rmS S a.id = S' := by rw [← HSS.out]; unfold stepS; rw [if_neg (by rw [HKD.out]; decide), if_pos HKD.out, HA.out]
    obtain ⟨c, hc⟩ : ∃ c : Int, (if (S.find a.id).isSome = true then (0 : Int) else 8) = c := ⟨_, rfl⟩
    have hput := Remove_any HS.out HOK.out a.id
    have href := fun wp (h : ListAt refE wp (.slice va N vc) S.ref) => rRemove_any (w := wp) S.budget (.slice va N vc) S.ref a.id h HLN.out
    unfold rmS at hS'
    rw [hc, hS'] at hput
    have href2 : ∀ wp, ListAt refE wp (.slice va N vc) S.ref → Calls Try.prog 45 #[.agg #[.int .i64 B, .slice va N vc], .agg (bvs a.id.1).toArray] wp (RPost wp B c S'.ref) := fun wp h => by
      have h1 := href wp h
      rw [ref_rmC, ref_rmL, hc, HB.out] at h1
      unfold rmS at h1
      rw [hS'] at h1
      exact h1
    have HSP := Lib.hid hput
    have HRF := Lib.hid href2
    clear hput href href2 hc hS' HSS
    go_wp2_with (with_reducible refine wpList_load_mid rfl 29 _ rfl wi0.heap.size 0 rfl (bvs a.id.1) _ HCI.out.2.2.2.2.2.2.2.2.2.2 Try.underlying29 rfl (sizeArr a.id) ?_; refine Stop.on ?_)
    refine Stop.go ?_
    try simp only [Act.put, List.setIfInBounds_toArray, List.set_cons_zero, List.set_cons_succ]
    go_wp2_with fail
    refine HSP.out.mono ?_
    rintro e wp ⟨rfl, hsp, hcp⟩
    have HOP := Lib.hid (HO.out _ hcp)
    have HCP := Lib.hid hcp
    have HSQ := Lib.hid hsp
    clear hsp hcp
    go_wp2_with (refine wpList_loadV rfl (some 57) rfl 50 (.tmp 4) rfl _ rfl 50 #[.int .i64 B, .slice va N vc] (0, 0) _ HOP.out.1 Try.underlying50 rfl sizeS ?_; refine Stop.on ?_)
    refine Stop.go ?_
    try simp only [Act.put, List.setIfInBounds_toArray, List.set_cons_zero, List.set_cons_succ]
    go_wp2_with (with_reducible refine wpList_load_mid rfl 29 _ rfl wi0.heap.size 0 rfl (bvs a.id.1) _ HOP.out.2.2.2.2.2.2.2.2.2.2 Try.underlying29 rfl (sizeArr a.id) ?_; refine Stop.on ?_)
    refine Stop.go ?_
    try simp only [Act.put, List.setIfInBounds_toArray, List.set_cons_zero, List.set_cons_succ]
    go_wp2_with fail
    refine (HRF.out wp HOP.out.2.2.2.2.1).mono ?_
    rintro e wr ⟨v', rfl, hl', hbr⟩
    obtain ⟨pa, pc, rfl⟩ := hl'.form
    obtain ⟨N', hN'⟩ : ∃ N', S'.ref.length = N' := ⟨_, rfl⟩
    rw [hN'] at hl' ⊢
    have HLR := Lib.hid hl'
    have HBR := Lib.hid hbr
    clear hl' hbr hN'
    go_wp2_with (refine wpList_newV rfl (some 13) rfl 50 rfl #[.int .i64 0, .slice none 0 0] 2 (by kernel_rfl) ?_; refine Stop.on ?_)
    refine Stop.go ?_
    try simp only [Act.put, List.setIfInBounds_toArray, List.set_cons_zero, List.set_cons_succ]
    intro wn xn bn sn
    try simp only [Act.put, List.setIfInBounds_toArray, List.set_cons_zero, List.set_cons_succ]
    refine wpList_putV rfl rfl 50 (.tmp 13) (.tmp 61) rfl _ #[.int .i64 B, .slice pa N' pc] rfl rfl 50 _ xn sizeS rfl oneS ?_
    try simp only [Act.put, List.setIfInBounds_toArray, List.set_cons_zero, List.set_cons_succ]
    intro wm xm cm sm
    try simp only [Act.put, List.setIfInBounds_toArray, List.set_cons_zero, List.set_cons_succ]
    have HXM := Lib.hid xm
    have hbm : Below wr.heap.size wr wm := bn.trans (cm.below (B := wr.heap.size) (fun k e => by omega) (by omega))
    have HBM := Lib.hid (HBR.out.trans (hbm.mono HBR.out.size))
    have HLM := Lib.hid (HLR.out.below hbm)
    have HX6 := Lib.hid ((HBM.out.block _ (Array.getElem?_eq_some_iff.1 HOP.out.2.2.1).1).trans HOP.out.2.2.1)
    clear xn bn sn xm cm sm hbm
    go_wp2_with (refine wpList_loadV rfl (some 63) rfl 50 (.tmp 13) rfl _ rfl 50 #[.int .i64 B, .slice pa N' pc] (0, 0) _ HXM.out Try.underlying50 rfl sizeS ?_; refine Stop.on ?_)
    refine Stop.go ?_
    try simp only [Act.put, List.setIfInBounds_toArray, List.set_cons_zero, List.set_cons_succ]
    go_wp2_with (refine wpList_putV rfl rfl 50 (.tmp 6) (.tmp 63) rfl _ #[.int .i64 B, .slice pa N' pc] rfl rfl 50 _ HX6.out sizeS rfl oneS ?_; refine Stop.on ?_)
    refine Stop.go ?_
    try simp only [Act.put, List.setIfInBounds_toArray, List.set_cons_zero, List.set_cons_succ]
    intro wq xq cq sq
    try simp only [Act.put, List.setIfInBounds_toArray, List.set_cons_zero, List.set_cons_succ]
    have HXQ := Lib.hid xq
    have HEND := Lib.hid (do_end HLT.out.1 HLT.out.2.1 HLT.out.2.2.1 (HSQ.out.below HBM.out) HLM.out (((Chg.of_below HBI.out).trans HCP.out (fun _ h => .inl h)).trans (Chg.of_below (F := fun k => k = b ∨ k = m) HBM.out) (fun _ h => .inl h)) HX6.out cq)
    clear xq cq sq
    go_wp2_with fail
    exact bodyPost_ret (results_cell_tmp_row (g := w2.heap.size) rfl _ _ _ _ _ _ rfl HXQ.out Try.underlying50 rfl sizeS) rfl ⟨_, rfl, HEND.out⟩
  by_cases k2 : kd = 2
  · subst k2
    obtain rfl : S = S' := by rw [← HSS.out]; unfold stepS; rw [if_neg (by rw [HKD.out]; decide), if_neg (by rw [HKD.out]; decide)]
    have HSP := Lib.hid (Get_any HS.out a.id)
    go_wp2_with (with_reducible refine wpList_load_mid rfl 29 _ rfl wi0.heap.size 0 rfl (bvs a.id.1) _ HCI.out.2.2.2.2.2.2.2.2.2.2 Try.underlying29 rfl (sizeArr a.id) ?_; refine Stop.on ?_)
    refine Stop.go ?_
    try simp only [Act.put, List.setIfInBounds_toArray, List.set_cons_zero, List.set_cons_succ]
    go_wp2_with fail
    refine HSP.out.mono ?_
    rintro e wg ⟨rfl, hbg⟩
    have HBG := Lib.hid hbg
    have HOG := Lib.hid (HO.out _ (Chg.of_below hbg))
    clear hbg HSP
    obtain ⟨T, hT⟩ : ∃ T, ((S.find a.id).getD zA).text = T := ⟨_, rfl⟩
    obtain ⟨c, hc⟩ : ∃ c : Int, (if (S.find a.id).isSome = true then (0 : Int) else 8) = c := ⟨_, rfl⟩
    rw [hT, hc]
    have HT := Lib.hid hT
    have HCC := Lib.hid hc
    clear hT hc
    go_wp2_with (refine wpList_loadV rfl (some 76) rfl 50 (.tmp 4) rfl _ rfl 50 #[.int .i64 B, .slice va N vc] (0, 0) _ HOG.out.1 Try.underlying50 rfl sizeS ?_; refine Stop.on ?_)
    refine Stop.go ?_
    try simp only [Act.put, List.setIfInBounds_toArray, List.set_cons_zero, List.set_cons_succ]
    go_wp2_with (with_reducible refine wpList_load_mid rfl 29 _ rfl wi0.heap.size 0 rfl (bvs a.id.1) _ HOG.out.2.2.2.2.2.2.2.2.2.2 Try.underlying29 rfl (sizeArr a.id) ?_; refine Stop.on ?_)
    refine Stop.go ?_
    try simp only [Act.put, List.setIfInBounds_toArray, List.set_cons_zero, List.set_cons_succ]
    go_wp2_with fail
    refine (rFind_any B _ S.ref a.id HOG.out.2.2.2.2.1 (by have := HLN.out; omega)).mono ?_
    rintro e wf ⟨rfl, hbf⟩
    have HBF := Lib.hid (HBG.out.trans (hbf.mono HBG.out.size))
    clear hbf
    have hrf := ref_find S a.id
    rcases fIx_find S.ref a.id with ⟨h1, h2⟩ | ⟨i, hi, h1, h2⟩
    · rw [h1]
      rw [h2] at hrf
      have hf0 : S.find a.id = none := by cases hf : S.find a.id with | none => rfl | some x => rw [hf] at hrf; cases hrf
      obtain rfl : 8 = c := by rw [← HCC.out, hf0]; rfl
      obtain rfl : ⟨#[]⟩ = T := by rw [← HT.out, hf0]; rfl
      clear h1 h2 hrf hf0 HT HCC
      go_wp2_with (refine wpList_loadV rfl (some 82) rfl 50 (.tmp 4) rfl _ rfl 50 #[.int .i64 B, .slice va N vc] (0, 0) _ (HO.out _ (Chg.of_below HBF.out)).1 Try.underlying50 rfl sizeS ?_; refine Stop.on ?_)
      refine Stop.go ?_
      try simp only [Act.put, List.setIfInBounds_toArray, List.set_cons_zero, List.set_cons_succ]
      go_wp2_with (refine wpList_putV rfl rfl 50 (.tmp 6) (.tmp 82) rfl _ #[.int .i64 B, .slice va N vc] rfl rfl 50 _ (HO.out _ (Chg.of_below HBF.out)).2.2.1 sizeS rfl oneS ?_; refine Stop.on ?_)
      refine Stop.go ?_
      try simp only [Act.put, List.setIfInBounds_toArray, List.set_cons_zero, List.set_cons_succ]
      intro wq xq cq sq
      try simp only [Act.put, List.setIfInBounds_toArray, List.set_cons_zero, List.set_cons_succ]
      have HXQ := Lib.hid xq
      have HEND := Lib.hid (do_end HLT.out.1 HLT.out.2.1 HLT.out.2.2.1 (HS.out.below HBF.out) (HO.out _ (Chg.of_below HBF.out)).2.2.2.2.1 (Chg.of_below (HBI.out.trans ((HBF.out).mono HBI.out.size))) (HO.out _ (Chg.of_below HBF.out)).2.2.1 cq)
      clear xq cq sq
      go_wp2_with fail
      exact bodyPost_ret (results_cell_tmp_row (g := w2.heap.size) rfl _ _ _ _ _ _ rfl HXQ.out Try.underlying50 rfl sizeS) rfl ⟨_, rfl, HEND.out⟩
    · rw [h1]
      rw [h2] at hrf
      obtain ⟨x, hfx, hxe⟩ : ∃ x, S.find a.id = some x ∧ S.ref[i] = toR x := by
        cases hf : S.find a.id with
        | none => rw [hf] at hrf; cases hrf
        | some x => rw [hf] at hrf; exact ⟨x, rfl, Option.some.inj hrf⟩
      obtain rfl : 0 = c := by rw [← HCC.out, hfx]; rfl
      have hTx : x.text = T := by rw [← HT.out, hfx]; rfl
      have hof := (HO.out _ (Chg.of_below HBF.out)).2.2.2.2.1
      obtain ⟨g, off, e, hg, _, htx, _⟩ := ref_at hof hi
      rw [hxe] at htx
      rw [show (toR x).text = T from hTx] at htx
      subst e
      have hiN : i < N := by rw [← HLN2.out]; exact hi
      have hiI : (i : Int) < (N : Int) := by omega
      have hiI0 : (0 : Int) ≤ (i : Int) := by omega
      have hnI : ¬ (i : Int) < 0 := by omega
      have h6 := (HO.out _ (Chg.of_below HBF.out)).2.2.1
      have hg6 : g ≠ w2.heap.size := fun e => by
        rw [e, cell_of_row _ _ _ _ _ _ h6, Array.getElem?_eq_none (by simp)] at htx
        cases htx
      have HOF := Lib.hid (show ∀ w', Chg (fun k => k = w2.heap.size) wf w' → w'.heap[w.heap.size]? = some (.cells #[.int .i64 B, .slice (some ⟨g, off, none⟩) N vc] 50 (0, 0)) ∧ w'.cell? ⟨w.heap.size, 1, none⟩ = some (.slice (some ⟨g, off, none⟩) N vc) ∧ w'.cell? ⟨g, off + i * 34 + 32, none⟩ = some (.string T) from fun w' hw' => by
        have h0 := (HO.out _ (Chg.of_below HBF.out)).1
        have h := (hw'.block _ (Array.getElem?_eq_some_iff.1 h0).1 (by have := HLZ.out; omega)).trans h0
        exact ⟨h, by rw [cell_of_row _ _ _ _ _ _ h]; rfl, hw'.cell (p := ⟨g, off + i * 34 + 32, none⟩) hg6 htx⟩)
      clear h1 h2 hrf hfx hxe hTx hof htx hg h6 hg6 HT HCC
      go_wp2_with fail
      refine wp_region_noPanic ?_
      refine wp_region_H (Chg (fun k => k = w2.heap.size) wf) (by kernel_rfl) ?_
      have hS0 : (Chg (fun k => k = w2.heap.size) wf) wf.drew := (Chg.refl _ _).drew
      obtain ⟨wd, hwd⟩ : ∃ wd, wf.drew = wd := ⟨_, rfl⟩
      have hbd : Below wf.heap.size wf wd := hwd ▸ (Below.refl _ _).drew
      rw [hwd] at hS0 ⊢
      clear hwd
      refine wpAnyH_takeI (i := 0) (v := .agg ([Value.int .i64 B, .slice (some ⟨g, off, none⟩) N vc]).toArray) rfl (by kernel_rfl) (by kernel_rfl) (by kernel_rfl) (fun _ _ _ h => h) (yieldsIf_load_mid rfl 50 (.tmp 4) rfl w.heap.size (0) rfl ([Value.int .i64 B, .slice (some ⟨g, off, none⟩) N vc]) _ (fun w' hw' => range_block (HOF.out w' hw').1) Try.underlying50 rfl sizeSL) hS0 ?_
      simp only [Act.put, List.setIfInBounds_toArray, List.set_cons_zero, List.set_cons_succ]
      refine wpAnyH_takeI (i := 1) (v := ?v1) rfl (by kernel_rfl) (by kernel_rfl) (by kernel_rfl) (fun _ _ _ h => h) (yieldsIf_run rfl (fun w' hw' => ?y1)) hS0 ?_
      case y1 => first | (go_simp; rfl) | (go_simp; done) | rfl
      simp only [Act.put, List.setIfInBounds_toArray, List.set_cons_zero, List.set_cons_succ]
      refine wpAnyH_takeI (i := 2) (v := ?v2) rfl (by kernel_rfl) (by kernel_rfl) (by kernel_rfl) (fun _ _ _ h => h) (yieldsIf_run rfl (fun w' hw' => ?y2)) hS0 ?_
      case y2 => first | (go_simp; rfl) | (go_simp; done) | rfl
      simp only [Act.put, List.setIfInBounds_toArray, List.set_cons_zero, List.set_cons_succ]
      refine wpAnyH_takeI (i := 3) (v := .slice (some ⟨g, off, none⟩) N vc) rfl (by kernel_rfl) (by kernel_rfl) (by kernel_rfl) (fun _ _ _ h => h) (yieldsIf_run rfl (fun w' hw' => ?y3)) hS0 ?_
      case y3 => (have hc := (HOF.out w' hw').2.1; clear hw'; first | (go_simp; rfl) | (go_simp; done))
      simp only [Act.put, List.setIfInBounds_toArray, List.set_cons_zero, List.set_cons_succ]
      refine wpAnyH_takeI (i := 4) (v := ?v4) rfl (by kernel_rfl) (by kernel_rfl) (by kernel_rfl) (fun _ _ _ h => h) (yieldsIf_run rfl (fun w' hw' => ?y4)) hS0 ?_
      case y4 => first | (go_simp; rfl) | (go_simp; done) | rfl
      simp only [Act.put, List.setIfInBounds_toArray, List.set_cons_zero, List.set_cons_succ]
      refine wpAnyH_takeI (i := 5) (v := ?v5) rfl (by kernel_rfl) (by kernel_rfl) (by kernel_rfl) (fun _ _ _ h => h) (yieldsIf_run rfl (fun w' hw' => ?y5)) hS0 ?_
      case y5 => first | (go_simp; rfl) | (go_simp; done) | rfl
      simp only [Act.put, List.setIfInBounds_toArray, List.set_cons_zero, List.set_cons_succ]
      refine wpAnyH_takeI (i := 6) (v := ?v6) rfl (by kernel_rfl) (by kernel_rfl) (by kernel_rfl) (fun _ _ _ h => h) (yieldsIf_run rfl (fun w' hw' => ?y6)) hS0 ?_
      case y6 => first | (go_simp; rfl) | (go_simp; done) | rfl
      simp only [Act.put, List.setIfInBounds_toArray, List.set_cons_zero, List.set_cons_succ]
      refine wpAnyH_takeI (i := 7) (v := .string T) rfl (by kernel_rfl) (by kernel_rfl) (by kernel_rfl) (fun _ _ _ h => h) (yieldsIf_run rfl (fun w' hw' => ?y7)) hS0 ?_
      case y7 => (have hc := (HOF.out w' hw').2.2; clear hw'; first | (go_simp; rfl) | (go_simp; done))
      simp only [Act.put, List.setIfInBounds_toArray, List.set_cons_zero, List.set_cons_succ]
      refine wpAnyH_takeI (i := 8) (v := .bool true) rfl (by kernel_rfl) (by kernel_rfl) (by kernel_rfl) (fun _ _ _ h => h) (yieldsIf_run rfl (fun w' hw' => ?y8)) hS0 ?_
      case y8 => first | (go_simp; rfl) | (go_simp; done) | rfl
      simp only [Act.put, List.setIfInBounds_toArray, List.set_cons_zero, List.set_cons_succ]
      refine wpAnyH_takeI (i := 9) (v := ?v9) rfl (by kernel_rfl) (by kernel_rfl) (by kernel_rfl) (fun _ _ _ h => h) (yieldsIf_run rfl (fun w' hw' => ?y9)) hS0 ?_
      case y9 => first | (go_simp; rfl) | (go_simp; done) | rfl
      simp only [Act.put, List.setIfInBounds_toArray, List.set_cons_zero, List.set_cons_succ]
      refine wpAnyH_takeI (i := 10) (v := ?v10) rfl (by kernel_rfl) (by kernel_rfl) (by kernel_rfl) (fun _ _ _ h => h) (yieldsIf_want rfl (fun w' hw' => ?y10)) hS0 ?_
      case y10 => first | (go_simp; rfl) | (go_simp; done) | rfl
      simp only [Act.put, List.setIfInBounds_toArray, List.set_cons_zero, List.set_cons_succ]
      refine wpAnyH_takeI (i := 11) (v := ?v11) rfl (by kernel_rfl) (by kernel_rfl) (by kernel_rfl) (fun _ _ _ h => h) (yieldsIf_want rfl (fun w' hw' => ?y11)) hS0 ?_
      case y11 => first | (go_simp; rfl) | (go_simp; done) | rfl
      simp only [Act.put, List.setIfInBounds_toArray, List.set_cons_zero, List.set_cons_succ]
      refine wpAnyH_takeI (i := 12) (v := ?v12) rfl (by kernel_rfl) (by kernel_rfl) (by kernel_rfl) (fun _ _ _ h => h) (yieldsIf_run rfl (fun w' hw' => ?y12)) hS0 ?_
      case y12 => first | (go_simp; rfl) | (go_simp; done) | rfl
      simp only [Act.put, List.setIfInBounds_toArray, List.set_cons_zero, List.set_cons_succ]
      have HX6 := Lib.hid (HO.out _ (Chg.of_below (HBF.out.trans (hbd.mono HBF.out.size)))).2.2.1
      refine wpAnyH_do (i := 13) (by kernel_rfl) rfl rfl (fun K hK => ?_)
      refine wp_store_row 50 (.tmp 6) (.tmp 89) rfl w2.heap.size #[.int .i64 B, .slice (some ⟨g, off, none⟩) N vc] rfl rfl 50 _ HX6.out sizeS rfl oneS ?_
      have xq := setRow_heap _ _ _ #[.int .i64 B, .slice (some ⟨g, off, none⟩) N vc] _ _ HX6.out
      have cq : Chg (fun k => k = w2.heap.size) _ _ := setRow_chg (F := fun k => k = w2.heap.size) (w := wd) w2.heap.size #[.int .i64 B, .slice (some ⟨g, off, none⟩) N vc] rfl
      obtain ⟨wq, hwq⟩ : ∃ wq, World.setRow wd w2.heap.size #[.int .i64 B, .slice (some ⟨g, off, none⟩) N vc] = wq := ⟨_, rfl⟩
      rw [hwq] at xq cq ⊢
      clear hwq
      have hS1 := hS0.trans cq (fun _ h => .inl h)
      refine hK _ _ hS1 ?_
      clear hK K
      try simp only [Act.put, List.setIfInBounds_toArray, List.set_cons_zero, List.set_cons_succ]
      refine wpAnyH_takeI (i := 14) (v := ?v13) rfl (by kernel_rfl) (by kernel_rfl) (by kernel_rfl) (fun _ _ _ h => h) (yieldsIf_run rfl (fun w' hw' => ?y13)) hS1 ?_
      case y13 => first | (go_simp; rfl) | (go_simp; done) | rfl
      simp only [Act.put, List.setIfInBounds_toArray, List.set_cons_zero, List.set_cons_succ]
      refine wpAnyH_done (by kernel_rfl) ?_ _
      refine NoPanic.normal ?_
      have HXQ := Lib.hid xq
      have HEND := Lib.hid (do_end HLT.out.1 HLT.out.2.1 HLT.out.2.2.1 (HS.out.below (HBF.out.trans (hbd.mono HBF.out.size))) (HO.out _ (Chg.of_below (HBF.out.trans (hbd.mono HBF.out.size)))).2.2.2.2.1 (Chg.of_below (HBI.out.trans (((HBF.out.trans (hbd.mono HBF.out.size))).mono HBI.out.size))) (HO.out _ (Chg.of_below (HBF.out.trans (hbd.mono HBF.out.size)))).2.2.1 cq)
      clear xq cq
      go_wp2_with fail
      exact bodyPost_ret (results_cell_tmp_row (g := w2.heap.size) rfl _ _ _ _ _ _ rfl HXQ.out Try.underlying50 rfl sizeS) rfl ⟨_, rfl, HEND.out⟩
  by_cases k3 : kd = 3
  · subst k3
    obtain rfl : S = S' := by rw [← HSS.out]; unfold stepS; rw [if_neg (by rw [HKD.out]; decide), if_neg (by rw [HKD.out]; decide)]
    obtain ⟨c, hc⟩ : ∃ c, readC S a.id fr cn = c := ⟨_, rfl⟩
    obtain ⟨T, hT⟩ : ∃ T, (if readC S a.id fr cn = 0 then readT ((S.find a.id).getD zA).text fr cn else ⟨#[]⟩) = T := ⟨_, rfl⟩
    have hrd := Read_any HS.out HOK.out a.id fr cn
    have href := fun wp (h : ListAt refE wp (.slice va N vc) S.ref) => rRead_any (w := wp) B (.slice va N vc) S.ref a.id fr cn h HLN.out (ref_tx HOK.out)
    rw [ref_readC, ref_readT, hT, hc] at href
    rw [hT, hc] at hrd
    have HSP := Lib.hid hrd
    have HRF := Lib.hid href
    clear hrd href hT hc
    go_wp2_with (with_reducible refine wpList_load_mid rfl 29 _ rfl wi0.heap.size 0 rfl (bvs a.id.1) _ HCI.out.2.2.2.2.2.2.2.2.2.2 Try.underlying29 rfl (sizeArr a.id) ?_; refine Stop.on ?_)
    refine Stop.go ?_
    try simp only [Act.put, List.setIfInBounds_toArray, List.set_cons_zero, List.set_cons_succ]
    go_wp2_with fail
    refine HSP.out.mono ?_
    rintro e wg ⟨rfl, hbg⟩
    have HBG := Lib.hid hbg
    have HOG := Lib.hid (HO.out _ (Chg.of_below hbg))
    have hcg := HOG.out.2.2.2.2.2.2.2.2
    have hfr := hcg.1
    have hcn := hcg.2.1
    clear hbg HSP hcg
    go_wp2_with (refine wpList_loadV rfl (some 116) rfl 50 (.tmp 4) rfl _ rfl 50 #[.int .i64 B, .slice va N vc] (0, 0) _ HOG.out.1 Try.underlying50 rfl sizeS ?_; refine Stop.on ?_)
    refine Stop.go ?_
    try simp only [Act.put, List.setIfInBounds_toArray, List.set_cons_zero, List.set_cons_succ]
    go_wp2_with (with_reducible refine wpList_load_mid rfl 29 _ rfl wi0.heap.size 0 rfl (bvs a.id.1) _ HOG.out.2.2.2.2.2.2.2.2.2.2 Try.underlying29 rfl (sizeArr a.id) ?_; refine Stop.on ?_)
    refine Stop.go ?_
    try simp only [Act.put, List.setIfInBounds_toArray, List.set_cons_zero, List.set_cons_succ]
    go_wp2_with fail
    refine (HRF.out wg HOG.out.2.2.2.2.1).mono ?_
    rintro e wf ⟨rfl, hbf⟩
    have HBF := Lib.hid (HBG.out.trans (hbf.mono HBG.out.size))
    clear hbf HRF hfr hcn
    go_wp2_with (refine wpList_loadV rfl (some 126) rfl 50 (.tmp 4) rfl _ rfl 50 #[.int .i64 B, .slice va N vc] (0, 0) _ (HO.out _ (Chg.of_below HBF.out)).1 Try.underlying50 rfl sizeS ?_; refine Stop.on ?_)
    refine Stop.go ?_
    try simp only [Act.put, List.setIfInBounds_toArray, List.set_cons_zero, List.set_cons_succ]
    go_wp2_with (refine wpList_putV rfl rfl 50 (.tmp 6) (.tmp 126) rfl _ #[.int .i64 B, .slice va N vc] rfl rfl 50 _ (HO.out _ (Chg.of_below HBF.out)).2.2.1 sizeS rfl oneS ?_; refine Stop.on ?_)
    refine Stop.go ?_
    try simp only [Act.put, List.setIfInBounds_toArray, List.set_cons_zero, List.set_cons_succ]
    intro wq xq cq sq
    try simp only [Act.put, List.setIfInBounds_toArray, List.set_cons_zero, List.set_cons_succ]
    have HXQ := Lib.hid xq
    have HEND := Lib.hid (do_end HLT.out.1 HLT.out.2.1 HLT.out.2.2.1 (HS.out.below HBF.out) (HO.out _ (Chg.of_below HBF.out)).2.2.2.2.1 (Chg.of_below (HBI.out.trans ((HBF.out).mono HBI.out.size))) (HO.out _ (Chg.of_below HBF.out)).2.2.1 cq)
    clear xq cq sq
    go_wp2_with fail
    exact bodyPost_ret (results_cell_tmp_row (g := w2.heap.size) rfl _ _ _ _ _ _ rfl HXQ.out Try.underlying50 rfl sizeS) rfl ⟨_, rfl, HEND.out⟩
  by_cases k4 : kd = 4
  · subst k4
    obtain rfl : S = S' := by rw [← HSS.out]; unfold stepS; rw [if_neg (by rw [HKD.out]; decide), if_neg (by rw [HKD.out]; decide)]
    obtain ⟨c, hc⟩ : ∃ c, oldC S fr = c := ⟨_, rfl⟩
    obtain ⟨J, hJ⟩ : ∃ J, oldL S fr = J := ⟨_, rfl⟩
    have hjl : J.length ≤ S.list.length := by
      rw [← hJ]
      unfold oldL
      split
      · exact Nat.le_trans (oldGo_len _ _ _) (by rw [(stab_perm S.list).length_eq]; exact Nat.le_refl _)
      · exact Nat.zero_le _
    have hrd := Oldest_any HST.out HS.out HOK.out HLE.out (by have := HNN.out; omega) fr
    have href := fun wp (h : ListAt refE wp (.slice va N vc) S.ref) => rOldest_any (w := wp) S.budget (.slice va N vc) S.ref fr h ⟨by have := HOK.out.b0; omega, HOK.out.b1⟩ (by rw [ref_length]; have := HLE.out; have := HNN.out; omega) (ref_tx HOK.out)
    rw [ref_oldC, ref_oldL, hJ, hc] at href
    rw [hJ, hc] at hrd
    have href2 : ∀ wp, ListAt refE wp (.slice va N vc) S.ref → Calls Try.prog 48 #[.agg #[.int .i64 B, .slice va N vc], .int .i64 fr] wp (ROldPost wp c J) := fun wp h => by
      have h1 := href wp h
      rw [HB.out] at h1
      exact h1
    have HSP := Lib.hid hrd
    have HRF := Lib.hid href2
    have HJL := Lib.hid (show J.length < 1000000 by have := HLE.out; have := HNN.out; omega)
    clear hrd href href2 hJ hc hjl
    go_wp2_with fail
    refine HSP.out.mono ?_
    rintro e wg ⟨v1, rfl, ho1, hbg⟩
    obtain ⟨q1, c1, rfl⟩ := ho1.form
    have HBG := Lib.hid hbg
    have HJ1 := Lib.hid ho1
    have HOG := Lib.hid (HO.out _ (Chg.of_below hbg))
    have hfr := HOG.out.2.2.2.2.2.2.2.2.1
    clear hbg ho1 HSP
    go_wp2_with (refine wpList_loadV rfl (some 145) rfl 50 (.tmp 4) rfl _ rfl 50 #[.int .i64 B, .slice va N vc] (0, 0) _ HOG.out.1 Try.underlying50 rfl sizeS ?_; refine Stop.on ?_)
    refine Stop.go ?_
    try simp only [Act.put, List.setIfInBounds_toArray, List.set_cons_zero, List.set_cons_succ]
    go_wp2_with fail
    refine (HRF.out wg HOG.out.2.2.2.2.1).mono ?_
    rintro e wf ⟨v2, rfl, ho2, hbf⟩
    obtain ⟨q2, c2, rfl⟩ := ho2.form
    have HJ := Lib.hid (HJ1.out.below hbf)
    have HJR := Lib.hid ho2
    have HBF := Lib.hid (HBG.out.trans (hbf.mono HBG.out.size))
    clear hbf ho2 HRF HJ1 hfr
    go_wp2_with fail
    refine wp_region_noPanic ?_
    refine wp_region_G [9, 10] (Below wf.heap.size wf) (by kernel_rfl) ?_
    have hS0 : (Below wf.heap.size wf) wf.drew := (Below.refl _ _).drew
    obtain ⟨wd, hwd⟩ : ∃ wd, wf.drew = wd := ⟨_, rfl⟩
    rw [hwd] at hS0 ⊢
    clear hwd
    refine wpAnyG_take (i := 0) (v := .agg ([Value.int .i64 B, .slice va N vc]).toArray) rfl (by kernel_rfl) (by kernel_rfl) (by kernel_rfl) (by kernel_rfl) (fun _ _ _ h => h) (yieldsIf_load_mid rfl 50 (.tmp 4) rfl w.heap.size (0) rfl ([Value.int .i64 B, .slice va N vc]) _ (fun w' hw' => range_block ((HO.out _ (Chg.of_below (HBF.out.trans (hw'.mono HBF.out.size)))).1)) Try.underlying50 rfl sizeSL) hS0 ?_
    simp only [Act.put, List.setIfInBounds_toArray, List.set_cons_zero, List.set_cons_succ]
    refine wpAnyG_pure (i := 1) (v := ?v14) rfl (by kernel_rfl) (by kernel_rfl) (by kernel_rfl) (by kernel_rfl) (fun _ _ _ h => h) (yieldsIf_run rfl (fun w' hw' => ?y14)) (fun _ => hS0) ?_
    case y14 => first | (go_simp; rfl) | (go_simp; done) | rfl
    simp only [Act.put, List.setIfInBounds_toArray, List.set_cons_zero, List.set_cons_succ]
    refine wpAnyG_pure (i := 2) (v := ?v15) rfl (by kernel_rfl) (by kernel_rfl) (by kernel_rfl) (by kernel_rfl) (fun _ _ _ h => h) (yieldsIf_run rfl (fun w' hw' => ?y15)) (fun _ => hS0) ?_
    case y15 => first | (go_simp; rfl) | (go_simp; done) | rfl
    simp only [Act.put, List.setIfInBounds_toArray, List.set_cons_zero, List.set_cons_succ]
    refine wpAnyG_do (i := 3) (by kernel_rfl) rfl rfl (fun K hK => ?_)
    go_simp
    go_at_call 49
    refine (sameIds_eq _ _ J (HJ.out.at_.below (hS0)) (HJR.out.at_.below (hS0)) HJL.out).mono ?_
    rintro e ws ⟨rfl, hbs⟩
    have hS1 := hS0.trans (hbs.mono hS0.size)
    refine hK _ _ hS1 ?_
    clear hK K
    try simp only [Act.put, List.setIfInBounds_toArray, List.set_cons_zero, List.set_cons_succ]
    refine wpAnyG_pure (i := 4) (v := ?v16) rfl (by kernel_rfl) (by kernel_rfl) (by kernel_rfl) (by kernel_rfl) (fun _ _ _ h => h) (yieldsIf_run rfl (fun w' hw' => ?y16)) (fun _ => hS1) ?_
    case y16 => first | (go_simp; rfl) | (go_simp; done) | rfl
    simp only [Act.put, List.setIfInBounds_toArray, List.set_cons_zero, List.set_cons_succ]
    refine wpAnyG_pure (i := 5) (v := ?v17) rfl (by kernel_rfl) (by kernel_rfl) (by kernel_rfl) (by kernel_rfl) (fun _ _ _ h => h) (yieldsIf_want rfl (fun w' hw' => ?y17)) (fun _ => hS1) ?_
    case y17 => first | (go_simp; rfl) | (go_simp; done) | rfl
    simp only [Act.put, List.setIfInBounds_toArray, List.set_cons_zero, List.set_cons_succ]
    refine wpAnyG_pure (i := 6) (v := ?v18) rfl (by kernel_rfl) (by kernel_rfl) (by kernel_rfl) (by kernel_rfl) (fun _ _ _ h => h) (yieldsIf_want rfl (fun w' hw' => ?y18)) (fun _ => hS1) ?_
    case y18 => first | (go_simp; rfl) | (go_simp; done) | rfl
    simp only [Act.put, List.setIfInBounds_toArray, List.set_cons_zero, List.set_cons_succ]
    refine wpAnyG_pure (i := 7) (v := ?v19) rfl (by kernel_rfl) (by kernel_rfl) (by kernel_rfl) (by kernel_rfl) (fun _ _ _ h => h) (yieldsIf_want rfl (fun w' hw' => ?y19)) (fun _ => hS1) ?_
    case y19 => first | (go_simp; rfl) | (go_simp; done) | rfl
    simp only [Act.put, List.setIfInBounds_toArray, List.set_cons_zero, List.set_cons_succ]
    refine wpAnyG_pure (i := 8) (v := ?v20) rfl (by kernel_rfl) (by kernel_rfl) (by kernel_rfl) (by kernel_rfl) (fun _ _ _ h => h) (yieldsIf_run rfl (fun w' hw' => ?y20)) (fun _ => hS1) ?_
    case y20 => first | (go_simp; rfl) | (go_simp; done) | rfl
    simp only [Act.put, List.setIfInBounds_toArray, List.set_cons_zero, List.set_cons_succ]
    have HX6 := Lib.hid (HO.out _ (Chg.of_below (HBF.out.trans (hS1.mono HBF.out.size)))).2.2.1
    refine wpAnyG_fin (i := 9) (by kernel_rfl) rfl rfl (by kernel_rfl) (fun K hK => ?_)
    refine wp_store_row 50 (.tmp 6) (.tmp 151) rfl w2.heap.size #[.int .i64 B, .slice va N vc] rfl rfl 50 _ HX6.out sizeS rfl oneS ?_
    have xq := setRow_heap _ _ _ #[.int .i64 B, .slice va N vc] _ _ HX6.out
    have cq : Chg (fun k => k = w2.heap.size) _ _ := setRow_chg (F := fun k => k = w2.heap.size) (w := ws) w2.heap.size #[.int .i64 B, .slice va N vc] rfl
    obtain ⟨wq, hwq⟩ : ∃ wq, World.setRow ws w2.heap.size #[.int .i64 B, .slice va N vc] = wq := ⟨_, rfl⟩
    rw [hwq] at xq cq ⊢
    clear hwq
    refine hK _ _ ?_
    clear hK K
    try simp only [Act.put, List.setIfInBounds_toArray, List.set_cons_zero, List.set_cons_succ]
    refine wpAnyG_fin (i := 10) (by kernel_rfl) rfl rfl (by kernel_rfl) (fun K hK => ?_)
    go_simp
    refine hK _ _ ?_
    clear hK K
    try simp only [Act.put, List.setIfInBounds_toArray, List.set_cons_zero, List.set_cons_succ]
    refine wpAnyG_done (by kernel_rfl) ?_ _
    refine NoPanic.normal ?_
    have HXQ := Lib.hid xq
    have HEND := Lib.hid (do_end HLT.out.1 HLT.out.2.1 HLT.out.2.2.1 (HS.out.below (HBF.out.trans (hS1.mono HBF.out.size))) (HO.out _ (Chg.of_below (HBF.out.trans (hS1.mono HBF.out.size)))).2.2.2.2.1 (Chg.of_below (HBI.out.trans (((HBF.out.trans (hS1.mono HBF.out.size))).mono HBI.out.size))) (HO.out _ (Chg.of_below (HBF.out.trans (hS1.mono HBF.out.size)))).2.2.1 cq)
    clear xq cq
    go_wp2_with fail
    exact bodyPost_ret (results_cell_tmp_row (g := w2.heap.size) rfl _ _ _ _ _ _ rfl HXQ.out Try.underlying50 rfl sizeS) rfl ⟨_, rfl, HEND.out⟩
  have e0 : (kd == 0) = false := beq_false_of_ne k0
  have e1 : (kd == 1) = false := beq_false_of_ne k1
  have e2 : (kd == 2) = false := beq_false_of_ne k2
  have e3 : (kd == 3) = false := beq_false_of_ne k3
  have e4 : (kd == 4) = false := beq_false_of_ne k4
  obtain rfl : S = S' := by rw [← HSS.out]; unfold stepS; rw [if_neg (by rw [HKD.out]; exact k0), if_neg (by rw [HKD.out]; exact k1)]
  go_wp2_with (refine wpList_loadV rfl (some 160) rfl 50 (.tmp 4) rfl _ rfl 50 #[.int .i64 B, .slice va N vc] (0, 0) _ (HO.out _ (Chg.of_below (Below.refl _ _))).1 Try.underlying50 rfl sizeS ?_; refine Stop.on ?_)
  refine Stop.go ?_
  try simp only [Act.put, List.setIfInBounds_toArray, List.set_cons_zero, List.set_cons_succ]
  go_wp2_with (refine wpList_putV rfl rfl 50 (.tmp 6) (.tmp 160) rfl _ #[.int .i64 B, .slice va N vc] rfl rfl 50 _ (HO.out _ (Chg.of_below (Below.refl _ _))).2.2.1 sizeS rfl oneS ?_; refine Stop.on ?_)
  refine Stop.go ?_
  try simp only [Act.put, List.setIfInBounds_toArray, List.set_cons_zero, List.set_cons_succ]
  intro wq xq cq sq
  try simp only [Act.put, List.setIfInBounds_toArray, List.set_cons_zero, List.set_cons_succ]
  have HXQ := Lib.hid xq
  have HEND := Lib.hid (do_end HLT.out.1 HLT.out.2.1 HLT.out.2.2.1 (HS.out.below (Below.refl _ _)) (HO.out _ (Chg.of_below (Below.refl _ _))).2.2.2.2.1 (Chg.of_below (HBI.out.trans (((Below.refl _ _)).mono HBI.out.size))) (HO.out _ (Chg.of_below (Below.refl _ _))).2.2.1 cq)
  clear xq cq sq
  go_wp2_with fail
  exact bodyPost_ret (results_cell_tmp_row (g := w2.heap.size) rfl _ _ _ _ _ _ rfl HXQ.out Try.underlying50 rfl sizeS) rfl ⟨_, rfl, HEND.out⟩
end Go.Proofs.Ytnmdgjodbikndaa
