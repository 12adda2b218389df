/- The model's knots. -/
import Derived.Test.YthfinofmbnfijaaTp15
import Derived.Test.YthfinofmbnfijaaTh27
namespace Go.Proofs.Ythfinofmbnfijaa
open Go.Shelf Go.RowKit Go.Lib Go.Sort
set_option linter.unusedVariables false
set_option linter.unusedSimpArgs false

def KnV.cells (k : KnV) : List Value := bvs k.id.1 ++ (Value.int .i64 k.row :: (k.place.cells ++ pvC k.up))
theorem pvC_len (u : Option IdB) : (pvC u).length = 33 := parE.len u
theorem KnV.cells_length (k : KnV) : k.cells.length = 149 := by
  unfold KnV.cells
  rw [List.length_append, bvs_length, k.id.2, List.length_cons, List.length_append, k.place.cells_length, pvC_len]
theorem KnV.cells_one (k : KnV) : ∀ v ∈ k.cells, v.oneCell' = true := by
  intro v hv
  unfold KnV.cells at hv
  rcases List.mem_append.1 hv with h | h
  · exact bvs_oneCell v h
  · rcases List.mem_cons.1 h with rfl | h
    · rfl
    · rcases List.mem_append.1 h with h | h
      · exact k.place.cells_one v h
      · exact parE.one k.up v h
def row00 : RowV := ⟨z32, List.replicate 16 0, by simp, 0, .slice none 0 0, rfl, .slice none 0 0, rfl, z32, []⟩
def knE : ElemTy Try.prog 91 102 KnV where
  enc := KnV.cells
  k := 149
  hu := Try.underlying91
  hi := ⟨.agg (KnV.cells ⟨z32, 0, row00, none⟩).toArray, 216, by kernel_rfl, by kernel_rfl, by decide⟩
  hk := by decide
  len := KnV.cells_length
  one := KnV.cells_one
section
variable {w : World} {g off : Nat} {n : KnV}
theorem kn_sub (h : w.rangeAt g off n.cells) {o : Nat} {cs : List Value} (hs : ∀ j u, cs[j]? = some u → n.cells[o + j]? = some u) : w.rangeAt g (off + o) cs := fun j u hu => by
  have := h (o + j) u (hs j u hu)
  rwa [← Nat.add_assoc] at this
theorem kn_id (h : w.rangeAt g off n.cells) : w.rangeAt g off (bvs n.id.1) := fun j u hu => h j u (by
  unfold KnV.cells
  rw [List.getElem?_append_left (List.getElem?_eq_some_iff.1 hu).1]
  exact hu)
theorem kn_row (h : w.rangeAt g off n.cells) : w.cell? ⟨g, off + 32, none⟩ = some (.int .i64 n.row) := h 32 _ (by
  unfold KnV.cells
  rw [List.getElem?_append_right (by rw [bvs_length, n.id.2]; omega), bvs_length, n.id.2]
  rfl)
theorem kn_place (h : w.rangeAt g off n.cells) : w.rangeAt g (off + 33) n.place.cells := kn_sub h fun j u hu => by
  unfold KnV.cells
  rw [List.getElem?_append_right (by rw [bvs_length, n.id.2]; omega), bvs_length, n.id.2, show 33 + j - 32 = j + 1 by omega, List.getElem?_cons_succ, List.getElem?_append_left (List.getElem?_eq_some_iff.1 hu).1]
  exact hu
theorem kn_up (h : w.rangeAt g off n.cells) : w.rangeAt g (off + 116) (pvC n.up) := kn_sub h fun j u hu => by
  unfold KnV.cells
  rw [List.getElem?_append_right (by rw [bvs_length, n.id.2]; omega), bvs_length, n.id.2, show 116 + j - 32 = (83 + j) + 1 by omega, List.getElem?_cons_succ, List.getElem?_append_right (by rw [n.place.cells_length]; omega), n.place.cells_length, Nat.add_sub_cancel_left]
  exact hu
end
theorem list16 {l : List UInt8} (h : l.length = 16) : ∃ x0 x1 x2 x3 x4 x5 x6 x7 x8 x9 x10 x11 x12 x13 x14 x15, l = [x0, x1, x2, x3, x4, x5, x6, x7, x8, x9, x10, x11, x12, x13, x14, x15] := by
  match l, h with
  | [x0, x1, x2, x3, x4, x5, x6, x7, x8, x9, x10, x11, x12, x13, x14, x15], _ => exact ⟨x0, x1, x2, x3, x4, x5, x6, x7, x8, x9, x10, x11, x12, x13, x14, x15, rfl⟩
set_option maxRecDepth 100000 in
theorem build_kn (a : IdB) (r : Int) (R : RowV) (u : Option IdB) (w : World) : (Instr.build 102 #[(0, .agg (bvs a.1).toArray), (1, .int .i64 r), (2, .agg R.cells.toArray), (3, .agg (pvC u).toArray)]).run Try.prog w = .ok (.agg (KnV.cells ⟨a, r, R, u⟩).toArray) w := by
  obtain ⟨⟨l1, h1⟩, au, hau, d, gv, hgv, rv, hrv, ⟨l2, h2⟩, M⟩ := R
  obtain ⟨l3, h3⟩ := a
  obtain ⟨a0, a1, a2, a3, a4, a5, a6, a7, a8, a9, a10, a11, a12, a13, a14, a15, a16, a17, a18, a19, a20, a21, a22, a23, a24, a25, a26, a27, a28, a29, a30, a31, rfl⟩ := list32 h1
  obtain ⟨b0, b1, b2, b3, b4, b5, b6, b7, b8, b9, b10, b11, b12, b13, b14, b15, b16, b17, b18, b19, b20, b21, b22, b23, b24, b25, b26, b27, b28, b29, b30, b31, rfl⟩ := list32 h2
  obtain ⟨c0, c1, c2, c3, c4, c5, c6, c7, c8, c9, c10, c11, c12, c13, c14, c15, c16, c17, c18, c19, c20, c21, c22, c23, c24, c25, c26, c27, c28, c29, c30, c31, rfl⟩ := list32 h3
  obtain ⟨d0, d1, d2, d3, d4, d5, d6, d7, d8, d9, d10, d11, d12, d13, d14, d15, rfl⟩ := list16 hau
  cases u with
  | none => kernel_rfl
  | some y =>
    obtain ⟨l4, h4⟩ := y
    obtain ⟨e0, e1, e2, e3, e4, e5, e6, e7, e8, e9, e10, e11, e12, e13, e14, e15, e16, e17, e18, e19, e20, e21, e22, e23, e24, e25, e26, e27, e28, e29, e30, e31, rfl⟩ := list32 h4
    kernel_rfl
theorem sizeKnA (k : KnV) : (Try.prog.info? 102).map (·.size) = some (knE.enc k).toArray.size := by rw [List.size_toArray, show (knE.enc k).length = 149 from k.cells_length]; kernel_rfl
theorem sizeKn149 {k : KnV} : (knE.enc k).toArray.size = 149 := by rw [List.size_toArray]; exact k.cells_length
def KnotsPost (w : World) (L : List RowV) (c : Par) (e : Ending) (w' : World) : Prop := ∃ v' K, e = .returned v' ∧ OwnL knE w' w.heap.size v' K ∧ KnI L c L.length K ∧ Below w.heap.size w w'
set_option maxRecDepth 100000 in
set_option maxHeartbeats 2000000 in
theorem knots_any {w : World} (v : Value) (L : List RowV) (c : Par) (hc : IsCut (parP L) (arrS L) c) (hv : RowsAt w v L) (hn : (L.map (·.id)).Nodup) (hl : L.length < 1000000) :
    Calls Try.prog 45 #[v] w (KnotsPost w L c) := by
  obtain ⟨va, vc, rfl⟩ := hv.l.form
  have HLL := Lib.hid hl
  obtain ⟨N, hN⟩ : ∃ N, L.length = N := ⟨_, rfl⟩
  rw [hN] at hv hl ⊢
  have HN := Lib.hid hN
  have HND := Lib.hid hn
  have HV := Lib.hid hv
  have HC := Lib.hid hc
  clear hv hN hn hc
  go_enter Try.func45, Try.ntmps45
  go_wp2_with fail
  refine (parents_any _ L c HC.out HV.out HND.out HLL.out).mono ?_
  rintro e Wd ⟨uv, rfl, hou, hbd⟩
  have hul : (cutL c L).length = N := by unfold cutL; rw [List.length_map, HN.out]
  obtain ⟨ua, uc, rfl⟩ := hou.form
  rw [hul] at hou ⊢
  have HUL := Lib.hid hul
  have HU := Lib.hid hou.at_
  have HVd := Lib.hid (HV.out.below hbd)
  have HBd := Lib.hid hbd
  have HO0 := Lib.hid (ownL_nil knE Wd Wd.heap.size)
  have HI0 := Lib.hid (KnI.zero L c)
  have HB0 := Lib.hid (Below.refl Wd.heap.size Wd)
  clear hou hbd hul
  go_wp2_with fail
  go_loopw [4, 5, 6, 7] (fun ov iv nv kv wr => ∃ (i : Nat) (K : List KnV) (oa : Option Addr) (on oc : Nat), i ≤ N ∧ on ≤ 2 * i ∧ iv = .int .i64 (i : Int) ∧ ov = .slice oa on oc ∧ Hid (OwnL knE wr Wd.heap.size (.slice oa on oc) K) ∧ Hid (KnI L c i K) ∧ Hid (Below Wd.heap.size Wd wr)) (fun _ iv _ _ _ => N - (intOf iv).toNat)
  case atStart => exact ⟨0, [], none, 0, 0, Nat.zero_le _, Nat.zero_le _, rfl, rfl, HO0, HI0, HB0⟩
  case round =>
    obtain ⟨i, K, oa, on, oc, hi, hon, rfl, rfl, HO, HI, HB⟩ := hrel
    obtain ⟨W0, rfl⟩ : ∃ W0, W0 = wr := ⟨_, rfl⟩
    clear HO0 HI0 HB0
    by_cases hlt : i < N
    case neg =>
      obtain rfl : i = N := by omega
      have HF := Lib.hid (HO.out.base HBd.out.size)
      have HBE := Lib.hid (HBd.out.trans (HB.out.mono HBd.out.size))
      have HIE := Lib.hid (show KnI L c L.length K by rw [HN.out]; exact HI.out)
      go_wp2_with fail
      exact bodyPost_ret (v := .slice oa on oc) (by simp [results, Try.results45, go_sem]) rfl ⟨_, _, rfl, HF.out, HIE.out, HBE.out⟩
    have hiL : i < L.length := by rw [HN.out]; exact hlt
    have hiN : (i : Int) < (N : Int) := by omega
    have hiU : i < (cutL c L).length := by rw [HUL.out]; exact hlt
    have HON := Lib.hid (show K.length = on by obtain ⟨a', c', e⟩ := HO.out.form; cases e; rfl)
    obtain ⟨g1, o1, e1, hg1, hr1⟩ := (HVd.out.below HB.out).l.get hiL
    subst e1
    obtain ⟨g2, o2, e2, hg2, hr2⟩ := (HU.out.below HB.out).get hiU
    subst e2
    obtain ⟨u, hu⟩ : ∃ u, c L[i].id = u := ⟨_, rfl⟩
    have hcu : (cutL c L)[i] = u := by
      show (List.map (fun r => c r.id) L)[i]'(by rw [List.length_map]; exact hiL) = u
      rw [List.getElem_map, hu]
    rw [hcu] at hr2
    have HCU := Lib.hid hu
    have hg2d : g2 < Wd.heap.size := by
      obtain ⟨g', o', e', hg', _⟩ := HU.out.get hiU
      cases e'
      exact hg'
    have hg1d : g1 < Wd.heap.size := by
      obtain ⟨g', o', e', hg', _⟩ := HVd.out.l.get hiL
      cases e'
      exact hg'
    have hst : ∀ {g off : Nat} {cs : List Value}, W0.rangeAt g off cs → g < Wd.heap.size → ∀ w', Below Wd.heap.size Wd w' → w'.rangeAt g off cs := fun {g off cs} h hg w' hw' j x hx => by
      have h1 := h j x hx
      have h2 := HB.out.cell (p := ⟨g, off + j, none⟩) hg
      exact (hw'.cell (p := ⟨g, off + j, none⟩) hg).trans (h2.symm.trans h1)
    have HR1 := Lib.hid (show ∀ w', Below Wd.heap.size Wd w' → w'.rangeAt g1 (o1 + i * 83) L[i].cells from fun w' hw' => hst hr1 hg1d w' hw')
    have HR2 := Lib.hid (show ∀ w', Below Wd.heap.size Wd w' → w'.rangeAt g2 (o2 + i * 33) (pvC u) from fun w' hw' => hst hr2 hg2d w' hw')
    clear hr1 hr2 hg1 hg2 hu hcu hg1d hg2d hst
    go_wp2_with fail
    refine wp_region_noPanic ?_
    refine wp_region_H (Below Wd.heap.size Wd) (by kernel_rfl) ?_
    have hS0 : (Below Wd.heap.size Wd) W0.drew := HB.out.trans ((Below.refl W0.heap.size W0).drew.mono HB.out.size)
    have hOd := HO.out.below (Below.refl W0.heap.size W0).drew
    obtain ⟨wd, hwd⟩ : ∃ wd, W0.drew = wd := ⟨_, rfl⟩
    rw [hwd] at hS0 hOd ⊢
    clear hwd
    refine wpAnyH_takeI (i := 0) (v := ?v1) rfl (by kernel_rfl) (by kernel_rfl) (by kernel_rfl) (fun _ _ _ h => h) (yieldsIf_run rfl (fun w' hw' => ?y1)) hS0 ?_
    case y1 => first | (go_simp; rfl) | (go_simp; done) | rfl
    simp only [Act.put, List.setIfInBounds_toArray, List.set_cons_zero, List.set_cons_succ]
    refine wpAnyH_takeI (i := 1) (v := ?v2) rfl (by kernel_rfl) (by kernel_rfl) (by kernel_rfl) (fun _ _ _ h => h) (yieldsIf_run rfl (fun w' hw' => ?y2)) hS0 ?_
    case y2 => first | (go_simp; rfl) | (go_simp; done) | rfl
    simp only [Act.put, List.setIfInBounds_toArray, List.set_cons_zero, List.set_cons_succ]
    refine wpAnyH_takeI (i := 2) (v := ?v3) rfl (by kernel_rfl) (by kernel_rfl) (by kernel_rfl) (fun _ _ _ h => h) (yieldsIf_run rfl (fun w' hw' => ?y3)) hS0 ?_
    case y3 => first | (go_simp; rfl) | (go_simp; done) | rfl
    simp only [Act.put, List.setIfInBounds_toArray, List.set_cons_zero, List.set_cons_succ]
    refine wpAnyH_takeI (i := 3) (v := ?v4) rfl (by kernel_rfl) (by kernel_rfl) (by kernel_rfl) (fun _ _ _ h => h) (yieldsIf_run rfl (fun w' hw' => ?y4)) hS0 ?_
    case y4 => first | (go_simp; rfl) | (go_simp; done) | rfl
    simp only [Act.put, List.setIfInBounds_toArray, List.set_cons_zero, List.set_cons_succ]
    refine wpAnyH_takeI (i := 4) (v := ?v5) rfl (by kernel_rfl) (by kernel_rfl) (by kernel_rfl) (fun _ _ _ h => h) (yieldsIf_run rfl (fun w' hw' => ?y5)) hS0 ?_
    case y5 => first | (go_simp; rfl) | (go_simp; done) | rfl
    simp only [Act.put, List.setIfInBounds_toArray, List.set_cons_zero, List.set_cons_succ]
    refine wpAnyH_takeI (i := 5) (v := .agg (bvs L[i].id.1).toArray) rfl (by kernel_rfl) (by kernel_rfl) (by kernel_rfl) (fun _ _ _ h => h) (yieldsIf_load_mid rfl 35 (.tmp 20) rfl g1 (o1 + i * 83) rfl (bvs L[i].id.1) _ (fun w' hw' => row_id (HR1.out w' hw')) Try.underlying35 rfl (sizeId L[i].id)) hS0 ?_
    simp only [Act.put, List.setIfInBounds_toArray, List.set_cons_zero, List.set_cons_succ]
    refine wpAnyH_takeI (i := 6) (v := ?v6) rfl (by kernel_rfl) (by kernel_rfl) (by kernel_rfl) (fun _ _ _ h => h) (yieldsIf_run rfl (fun w' hw' => ?y6)) hS0 ?_
    case y6 => first | (go_simp; rfl) | (go_simp; done) | rfl
    simp only [Act.put, List.setIfInBounds_toArray, List.set_cons_zero, List.set_cons_succ]
    refine wpAnyH_takeI (i := 7) (v := ?v7) rfl (by kernel_rfl) (by kernel_rfl) (by kernel_rfl) (fun _ _ _ h => h) (yieldsIf_run rfl (fun w' hw' => ?y7)) hS0 ?_
    case y7 => first | (go_simp; rfl) | (go_simp; done) | rfl
    simp only [Act.put, List.setIfInBounds_toArray, List.set_cons_zero, List.set_cons_succ]
    refine wpAnyH_takeI (i := 8) (v := ?v8) rfl (by kernel_rfl) (by kernel_rfl) (by kernel_rfl) (fun _ _ _ h => h) (yieldsIf_run rfl (fun w' hw' => ?y8)) hS0 ?_
    case y8 => first | (go_simp; rfl) | (go_simp; done) | rfl
    simp only [Act.put, List.setIfInBounds_toArray, List.set_cons_zero, List.set_cons_succ]
    refine wpAnyH_takeI (i := 9) (v := ?v9) rfl (by kernel_rfl) (by kernel_rfl) (by kernel_rfl) (fun _ _ _ h => h) (yieldsIf_run rfl (fun w' hw' => ?y9)) hS0 ?_
    case y9 => first | (go_simp; rfl) | (go_simp; done) | rfl
    simp only [Act.put, List.setIfInBounds_toArray, List.set_cons_zero, List.set_cons_succ]
    refine wpAnyH_takeI (i := 10) (v := .agg (L[i].cells).toArray) rfl (by kernel_rfl) (by kernel_rfl) (by kernel_rfl) (fun _ _ _ h => h) (yieldsIf_load_mid rfl 43 (.tmp 25) rfl g1 (o1 + i * 83) rfl (L[i].cells) _ (fun w' hw' => HR1.out w' hw') Try.underlying43 rfl (sizeRow L[i])) hS0 ?_
    simp only [Act.put, List.setIfInBounds_toArray, List.set_cons_zero, List.set_cons_succ]
    refine wpAnyH_takeI (i := 11) (v := ?v10) rfl (by kernel_rfl) (by kernel_rfl) (by kernel_rfl) (fun _ _ _ h => h) (yieldsIf_run rfl (fun w' hw' => ?y10)) hS0 ?_
    case y10 => first | (go_simp; rfl) | (go_simp; done) | rfl
    simp only [Act.put, List.setIfInBounds_toArray, List.set_cons_zero, List.set_cons_succ]
    refine wpAnyH_takeI (i := 12) (v := ?v11) rfl (by kernel_rfl) (by kernel_rfl) (by kernel_rfl) (fun _ _ _ h => h) (yieldsIf_run rfl (fun w' hw' => ?y11)) hS0 ?_
    case y11 => first | (go_simp; rfl) | (go_simp; done) | rfl
    simp only [Act.put, List.setIfInBounds_toArray, List.set_cons_zero, List.set_cons_succ]
    refine wpAnyH_takeI (i := 13) (v := ?v12) rfl (by kernel_rfl) (by kernel_rfl) (by kernel_rfl) (fun _ _ _ h => h) (yieldsIf_run rfl (fun w' hw' => ?y12)) hS0 ?_
    case y12 => first | (go_simp; rfl) | (go_simp; done) | rfl
    simp only [Act.put, List.setIfInBounds_toArray, List.set_cons_zero, List.set_cons_succ]
    refine wpAnyH_takeI (i := 14) (v := .agg (pvC u).toArray) rfl (by kernel_rfl) (by kernel_rfl) (by kernel_rfl) (fun _ _ _ h => h) (yieldsIf_load_mid rfl 63 (.tmp 29) rfl g2 (o2 + i * 33) rfl (pvC u) _ (fun w' hw' => HR2.out w' hw') Try.underlying63 rfl (sizePar u)) hS0 ?_
    simp only [Act.put, List.setIfInBounds_toArray, List.set_cons_zero, List.set_cons_succ]
    refine wpAnyH_takeI (i := 15) (v := .agg (KnV.cells ⟨L[i].id, (i : Int), L[i], u⟩).toArray) rfl (by kernel_rfl) (by kernel_rfl) (by kernel_rfl) (fun _ _ _ h => h) (yieldsIf_run rfl (fun w' hw' => exec_buildL 102 _ rfl [(0, .agg (bvs L[i].id.1).toArray), (1, .int .i64 (i : Int)), (2, .agg L[i].cells.toArray), (3, .agg (pvC u).toArray)] rfl (build_kn _ _ _ _ _))) hS0 ?_
    simp only [Act.put, List.setIfInBounds_toArray, List.set_cons_zero, List.set_cons_succ]
    refine wpAnyH_do (i := 16) (by kernel_rfl) rfl rfl (fun K hK => ?_)
    refine wp_lit1 91 102 (.tmp 31) rfl (knE.enc (⟨L[i].id, (i : Int), L[i], u⟩ : KnV)).toArray rfl Try.underlying91 (sizeKnA _) (by kernel_rfl) (by rw [sizeKn149]; decide) (by rw [sizeKn149]; decide) ?_
    obtain ⟨Wl, hwn⟩ : ∃ Wl, wd.alloc (.cells (knE.enc (⟨L[i].id, (i : Int), L[i], u⟩ : KnV)).toArray 102) = Wl := ⟨_, rfl⟩
    have hbn : Below wd.heap.size wd Wl := hwn ▸ one_below knE wd (⟨L[i].id, (i : Int), L[i], u⟩ : KnV)
    have hLWl : Wl.heap[wd.heap.size]? = some (.cells (knE.enc (⟨L[i].id, (i : Int), L[i], u⟩ : KnV)).toArray 102 (0, 0)) := by rw [← hwn]; exact heap_alloc_new _ _
    rw [hwn]
    have hOWl := hOd.below hbn
    have hsWl := hS0.trans (hbn.mono hS0.size)
    clear hbn hwn
    refine hK _ _ (hsWl) ?_
    clear hK K
    try simp only [Act.put, List.setIfInBounds_toArray, List.set_cons_zero, List.set_cons_succ]
    refine wpAnyH_do (i := 17) (by kernel_rfl) rfl rfl (fun K hK => ?_)
    refine wp_appL knE (.tmp 16) (.tmp 32) rfl rfl hOWl rfl (list_block1 knE hLWl) (n := on) (m := 1) HON.out rfl (by omega) hsWl.size ?_
    intro a5 c5 W5 hOW5 hgW5 haW5
    have hsW5 := hsWl.trans (hOWl.grown_below hgW5 hsWl.size)
    refine hK _ _ (hsW5) ?_
    clear hK K
    try simp only [Act.put, List.setIfInBounds_toArray, List.set_cons_zero, List.set_cons_succ]
    refine wpAnyH_takeI (i := 18) (v := ?v13) rfl (by kernel_rfl) (by kernel_rfl) (by kernel_rfl) (fun _ _ _ h => h) (yieldsIf_run rfl (fun w' hw' => ?y13)) hsW5 ?_
    case y13 => first | (go_simp; rfl) | (go_simp; done) | rfl
    simp only [Act.put, List.setIfInBounds_toArray, List.set_cons_zero, List.set_cons_succ]
    refine wpAnyH_done (by kernel_rfl) ?_ _
    refine NoPanic.normal ?_
    have HAK := Lib.hid (show artK L c i hiL = ⟨L[i].id, (i : Int), L[i], u⟩ by unfold artK; rw [HCU.out])
    have HO5 := Lib.hid hOW5
    have HB5 := Lib.hid hsW5
    clear hOd hOWl hLWl hsWl hsW5 hOW5 hgW5 haW5 hS0
    have HPC := Lib.hid (show ∀ w', Below Wd.heap.size Wd w' → w'.cell? ⟨g2, o2 + i * 33, none⟩ = some (.bool u.isSome) ∧ w'.rangeAt g2 (o2 + i * 33 + 1) (bvs (u.getD z32).1) from fun w' hw' => par_cells (HR2.out w' hw'))
    obtain ⟨e1, _⟩ := HPC.out W5 HB5.out
    have HKN5 := Lib.hid (show (K ++ [(⟨L[i].id, (i : Int), L[i], u⟩ : KnV)]).length = on + 1 by rw [List.length_append, HON.out]; rfl)
    cases u with
    | none =>
      have e1 : W5.cell? ⟨g2, o2 + i * 33, none⟩ = some (.bool false) := e1
      have HI5 := Lib.hid (show KnI L c (i + 1) (K ++ [⟨L[i].id, (i : Int), L[i], none⟩]) by
        rw [← HAK.out]
        exact HI.out.plain HND.out hiL (fun y hy => by rw [HCU.out] at hy; cases hy))
      go_wp2_with fail
      go_roundw
      case rel => exact ⟨i + 1, _, a5, on + 1, c5, by omega, by omega, by go_num, rfl, HO5, HI5, HB5⟩
      case measure => simp [intOf] <;> omega
    | some y =>
      have e1 : W5.cell? ⟨g2, o2 + i * 33, none⟩ = some (.bool true) := e1
      have HY := Lib.hid (show ∀ w', Below Wd.heap.size Wd w' → w'.rangeAt g2 (o2 + i * 33 + 1) (bvs y.1) from fun w' hw' => (HPC.out w' hw').2)
      have HY5 := Lib.hid (HY.out W5 HB5.out)
      go_wp2_with (refine wpList_met rfl ?_; with_reducible refine wpList_load_mid rfl 35 (.tmp 45) rfl g2 (o2 + i * 33 + 1) rfl (bvs y.1) _ HY5.out Try.underlying35 rfl (sizeId y) ?_; refine Stop.on ?_)
      refine Stop.go ?_
      try simp only [Act.put, List.setIfInBounds_toArray, List.set_cons_zero, List.set_cons_succ]
      go_wp2_with fail
      refine (index_any _ L y (HVd.out.below HB5.out) HLL.out).mono ?_
      rintro e Wi ⟨rfl, hbi⟩
      obtain ⟨ix, hix⟩ : ∃ ix, idxL L y = ix := ⟨_, rfl⟩
      rw [hix]
      have HIX := Lib.hid hix
      have HO6 := Lib.hid (HO5.out.below hbi)
      have HB6 := Lib.hid (HB5.out.trans (hbi.mono HB5.out.size))
      clear hbi hix e1
      by_cases hi0 : 0 ≤ ix
      case pos =>
        have hid0 : decide (0 ≤ ix) = true := decide_eq_true hi0
        have HI5 := Lib.hid (show KnI L c (i + 1) (K ++ [⟨L[i].id, (i : Int), L[i], some y⟩]) by
          rw [← HAK.out]
          exact HI.out.plain HND.out hiL (fun y' hy hm => by rw [HCU.out] at hy; cases hy; rw [HIX.out] at hm; omega))
        go_wp2_with fail
        go_roundw
        case rel => exact ⟨i + 1, _, a5, on + 1, c5, by omega, by omega, by go_num, rfl, HO6, HI5, HB6⟩
        case measure => simp [intOf] <;> omega
      have hid0 : decide (0 ≤ ix) = false := decide_eq_false hi0
      obtain ⟨K5, hK5⟩ : ∃ K5, K ++ [⟨L[i].id, (i : Int), L[i], some y⟩] = K5 := ⟨_, rfl⟩
      rw [hK5] at HO6 HKN5
      have HK5 := Lib.hid hK5
      have HK0 := Lib.hid (Below.refl Wi.heap.size Wi)
      have HN0 := Lib.hid (show (false = true ↔ ∃ k ∈ K5.take 0, k.id = y) by simp)
      clear hK5 HO5 HO
      go_wp2_with fail
      go_loopw [6, 7] (fun nv kv wr => ∃ (k : Nat) (nb : Bool), k ≤ on + 1 ∧ kv = .int .i64 (k : Int) ∧ nv = .bool nb ∧ Hid (nb = true ↔ ∃ m ∈ K5.take k, m.id = y) ∧ Hid (Below Wi.heap.size Wi wr)) (fun _ kv _ => on + 1 - (intOf kv).toNat)
      case atStart => exact ⟨0, false, Nat.zero_le _, rfl, rfl, HN0, HK0⟩
      case round =>
        obtain ⟨k, nb, hk, rfl, rfl, HNB, HK⟩ := hrel
        obtain ⟨W1, rfl⟩ : ∃ W1, W1 = wr := ⟨_, rfl⟩
        clear HK0 HN0
        have HO7 := Lib.hid (HO6.out.below HK.out)
        have HB7 := Lib.hid (HB6.out.trans (HK.out.mono HB6.out.size))
        by_cases hkc : k < on + 1
        case neg =>
          obtain rfl : k = on + 1 := by omega
          have hall : nb = true ↔ ∃ m ∈ K5, m.id = y := by
            have h := HNB.out
            rwa [List.take_of_length_le (by rw [HKN5.out]; exact Nat.le_refl _)] at h
          cases nb with
          | true =>
            have HI5 := Lib.hid (show KnI L c (i + 1) K5 by
              have h2 := HI.out.plain HND.out hiL (fun y' hy hm => by
                rw [HCU.out] at hy
                cases hy
                rw [HAK.out, HK5.out]
                exact hall.1 rfl)
              rw [HAK.out, HK5.out] at h2
              exact h2)
            clear hall
            go_wp2_with fail
            go_roundw
            case rel => exact ⟨i + 1, _, a5, on + 1, c5, by omega, by omega, by go_num, rfl, HO7, HI5, HB7⟩
            case measure => simp [intOf] <;> omega
          | false =>
            have HNO := Lib.hid (show ∀ m ∈ K5, m.id ≠ y from fun m hm e => by have := hall.2 ⟨m, hm, e⟩; simp at this)
            have HULL := Lib.hid (show (cutL c L).length = L.length by rw [HUL.out, HN.out])
            clear hall
            go_wp2_with fail
            refine wp_region_noPanic ?_
            refine wp_region_H (Below Wd.heap.size Wd) (by kernel_rfl) ?_
            have hS0 : (Below Wd.heap.size Wd) W1.drew := HB7.out.trans ((Below.refl W1.heap.size W1).drew.mono HB7.out.size)
            have hOd := HO7.out.below (Below.refl W1.heap.size W1).drew
            obtain ⟨wd, hwd⟩ : ∃ wd, W1.drew = wd := ⟨_, rfl⟩
            rw [hwd] at hS0 hOd ⊢
            clear hwd
            refine wpAnyH_takeI (i := 0) (v := ?v14) rfl (by kernel_rfl) (by kernel_rfl) (by kernel_rfl) (fun _ _ _ h => h) (yieldsIf_run rfl (fun w' hw' => ?y14)) hS0 ?_
            case y14 => first | (go_simp; rfl) | (go_simp; done) | rfl
            simp only [Act.put, List.setIfInBounds_toArray, List.set_cons_zero, List.set_cons_succ]
            refine wpAnyH_takeI (i := 1) (v := ?v15) rfl (by kernel_rfl) (by kernel_rfl) (by kernel_rfl) (fun _ _ _ h => h) (yieldsIf_run rfl (fun w' hw' => ?y15)) hS0 ?_
            case y15 => first | (go_simp; rfl) | (go_simp; done) | rfl
            simp only [Act.put, List.setIfInBounds_toArray, List.set_cons_zero, List.set_cons_succ]
            refine wpAnyH_takeI (i := 2) (v := ?v16) rfl (by kernel_rfl) (by kernel_rfl) (by kernel_rfl) (fun _ _ _ h => h) (yieldsIf_run rfl (fun w' hw' => ?y16)) hS0 ?_
            case y16 => first | (go_simp; rfl) | (go_simp; done) | rfl
            simp only [Act.put, List.setIfInBounds_toArray, List.set_cons_zero, List.set_cons_succ]
            refine wpAnyH_takeI (i := 3) (v := ?v17) rfl (by kernel_rfl) (by kernel_rfl) (by kernel_rfl) (fun _ _ _ h => h) (yieldsIf_run rfl (fun w' hw' => ?y17)) hS0 ?_
            case y17 => first | (go_simp; rfl) | (go_simp; done) | rfl
            simp only [Act.put, List.setIfInBounds_toArray, List.set_cons_zero, List.set_cons_succ]
            refine wpAnyH_takeI (i := 4) (v := ?v18) rfl (by kernel_rfl) (by kernel_rfl) (by kernel_rfl) (fun _ _ _ h => h) (yieldsIf_run rfl (fun w' hw' => ?y18)) hS0 ?_
            case y18 => first | (go_simp; rfl) | (go_simp; done) | rfl
            simp only [Act.put, List.setIfInBounds_toArray, List.set_cons_zero, List.set_cons_succ]
            refine wpAnyH_takeI (i := 5) (v := .agg (bvs y.1).toArray) rfl (by kernel_rfl) (by kernel_rfl) (by kernel_rfl) (fun _ _ _ h => h) (yieldsIf_load_mid rfl 35 (.tmp 76) rfl g2 (o2 + i * 33 + 1) rfl (bvs y.1) _ (fun w' hw' => HY.out w' hw') Try.underlying35 rfl (sizeId y)) hS0 ?_
            simp only [Act.put, List.setIfInBounds_toArray, List.set_cons_zero, List.set_cons_succ]
            refine wpAnyH_takeI (i := 6) (v := ?v19) rfl (by kernel_rfl) (by kernel_rfl) (by kernel_rfl) (fun _ _ _ h => h) (yieldsIf_run rfl (fun w' hw' => ?y19)) hS0 ?_
            case y19 => first | (go_simp; rfl) | (go_simp; done) | rfl
            simp only [Act.put, List.setIfInBounds_toArray, List.set_cons_zero, List.set_cons_succ]
            refine wpAnyH_takeI (i := 7) (v := ?v20) rfl (by kernel_rfl) (by kernel_rfl) (by kernel_rfl) (fun _ _ _ h => h) (yieldsIf_run rfl (fun w' hw' => ?y20)) hS0 ?_
            case y20 => first | (go_simp; rfl) | (go_simp; done) | rfl
            simp only [Act.put, List.setIfInBounds_toArray, List.set_cons_zero, List.set_cons_succ]
            refine wpAnyH_takeI (i := 8) (v := ?v21) rfl (by kernel_rfl) (by kernel_rfl) (by kernel_rfl) (fun _ _ _ h => h) (yieldsIf_run rfl (fun w' hw' => ?y21)) hS0 ?_
            case y21 => first | (go_simp; rfl) | (go_simp; done) | rfl
            simp only [Act.put, List.setIfInBounds_toArray, List.set_cons_zero, List.set_cons_succ]
            refine wpAnyH_takeI (i := 9) (v := ?v22) rfl (by kernel_rfl) (by kernel_rfl) (by kernel_rfl) (fun _ _ _ h => h) (yieldsIf_run rfl (fun w' hw' => ?y22)) hS0 ?_
            case y22 => first | (go_simp; rfl) | (go_simp; done) | rfl
            simp only [Act.put, List.setIfInBounds_toArray, List.set_cons_zero, List.set_cons_succ]
            refine wpAnyH_takeI (i := 10) (v := ?v23) rfl (by kernel_rfl) (by kernel_rfl) (by kernel_rfl) (fun _ _ _ h => h) (yieldsIf_run rfl (fun w' hw' => ?y23)) hS0 ?_
            case y23 => first | (go_simp; rfl) | (go_simp; done) | rfl
            simp only [Act.put, List.setIfInBounds_toArray, List.set_cons_zero, List.set_cons_succ]
            refine wpAnyH_takeI (i := 11) (v := ?v24) rfl (by kernel_rfl) (by kernel_rfl) (by kernel_rfl) (fun _ _ _ h => h) (yieldsIf_run rfl (fun w' hw' => ?y24)) hS0 ?_
            case y24 => first | (go_simp; rfl) | (go_simp; done) | rfl
            simp only [Act.put, List.setIfInBounds_toArray, List.set_cons_zero, List.set_cons_succ]
            refine wpAnyH_takeI (i := 12) (v := ?v25) rfl (by kernel_rfl) (by kernel_rfl) (by kernel_rfl) (fun _ _ _ h => h) (yieldsIf_run rfl (fun w' hw' => ?y25)) hS0 ?_
            case y25 => first | (go_simp; rfl) | (go_simp; done) | rfl
            simp only [Act.put, List.setIfInBounds_toArray, List.set_cons_zero, List.set_cons_succ]
            refine wpAnyH_takeI (i := 13) (v := .agg (bvs y.1).toArray) rfl (by kernel_rfl) (by kernel_rfl) (by kernel_rfl) (fun _ _ _ h => h) (yieldsIf_load_mid rfl 35 (.tmp 84) rfl g2 (o2 + i * 33 + 1) rfl (bvs y.1) _ (fun w' hw' => HY.out w' hw') Try.underlying35 rfl (sizeId y)) hS0 ?_
            simp only [Act.put, List.setIfInBounds_toArray, List.set_cons_zero, List.set_cons_succ]
            refine wpAnyH_takeI (i := 17) (v := ?v26) rfl (by kernel_rfl) (by kernel_rfl) (by kernel_rfl) (fun _ _ _ h => h) (yieldsIf_run rfl (fun w' hw' => ?y26)) hS0 ?_
            case y26 => first | (go_simp; rfl) | (go_simp; done) | rfl
            simp only [Act.put, List.setIfInBounds_toArray, List.set_cons_zero, List.set_cons_succ]
            refine wpAnyH_takeI (i := 18) (v := ?v27) rfl (by kernel_rfl) (by kernel_rfl) (by kernel_rfl) (fun _ _ _ h => h) (yieldsIf_run rfl (fun w' hw' => ?y27)) hS0 ?_
            case y27 => first | (go_simp; rfl) | (go_simp; done) | rfl
            simp only [Act.put, List.setIfInBounds_toArray, List.set_cons_zero, List.set_cons_succ]
            refine wpAnyH_takeI (i := 19) (v := ?v28) rfl (by kernel_rfl) (by kernel_rfl) (by kernel_rfl) (fun _ _ _ h => h) (yieldsIf_run rfl (fun w' hw' => ?y28)) hS0 ?_
            case y28 => first | (go_simp; rfl) | (go_simp; done) | rfl
            simp only [Act.put, List.setIfInBounds_toArray, List.set_cons_zero, List.set_cons_succ]
            refine wpAnyH_takeI (i := 20) (v := ?v29) rfl (by kernel_rfl) (by kernel_rfl) (by kernel_rfl) (fun _ _ _ h => h) (yieldsIf_run rfl (fun w' hw' => ?y29)) hS0 ?_
            case y29 => first | (go_simp; rfl) | (go_simp; done) | rfl
            simp only [Act.put, List.setIfInBounds_toArray, List.set_cons_zero, List.set_cons_succ]
            refine wpAnyH_takeI (i := 21) (v := ?v30) rfl (by kernel_rfl) (by kernel_rfl) (by kernel_rfl) (fun _ _ _ h => h) (yieldsIf_run rfl (fun w' hw' => ?y30)) hS0 ?_
            case y30 => first | (go_simp; rfl) | (go_simp; done) | rfl
            simp only [Act.put, List.setIfInBounds_toArray, List.set_cons_zero, List.set_cons_succ]
            refine wpAnyH_takeI (i := 22) (v := .agg (bvs y.1).toArray) rfl (by kernel_rfl) (by kernel_rfl) (by kernel_rfl) (fun _ _ _ h => h) (yieldsIf_load_mid rfl 35 (.tmp 93) rfl g2 (o2 + i * 33 + 1) rfl (bvs y.1) _ (fun w' hw' => HY.out w' hw') Try.underlying35 rfl (sizeId y)) hS0 ?_
            simp only [Act.put, List.setIfInBounds_toArray, List.set_cons_zero, List.set_cons_succ]
            refine wpAnyH_do (i := 14) (by kernel_rfl) rfl rfl (fun K hK => ?_)
            go_simp
            go_at_call 59
            refine (first_any _ _ L (cutL c L) y (HVd.out.below hS0) (HU.out.below hS0) HULL.out HLL.out).mono ?_
            rintro e Wf ⟨b, rfl, hfst, hbf⟩
            have hsWf := hS0.trans (hbf.mono hS0.size)
            have hOf := hOd.below hbf
            clear hOd
            obtain ⟨j, hjL, rfl, hfi⟩ : ∃ (j : Nat) (hj : j < L.length), b = (j : Int) ∧ (arrS L).find? (fun t => decide (c t.id = some y)) = some L[j].tw := by
              rcases hfst.find HND.out (g := fun t => c t.id) with ⟨_, h⟩ | h
              · exfalso
                have h2 := List.find?_eq_none.1 h L[i].tw (mem_arrS.2 ⟨i, hiL, rfl⟩)
                exact h2 (decide_eq_true HCU.out)
              · exact h
            have hjN : (j : Int) < (N : Int) := by have := HN.out; omega
            have HFI := Lib.hid hfi
            have HRJ := Lib.hid (show ∀ w', Below Wd.heap.size Wd w' → w'.rangeAt g1 (o1 + j * 83) L[j].cells from fun w' hw' => by
              obtain ⟨g', o', e', hg', hr'⟩ := HVd.out.l.get hjL
              cases e'
              exact range_below (show Wd.rangeAt g1 (o1 + j * 83) L[j].cells from hr') hg' hw')
            clear hfst hbf hfi
            refine hK _ _ (hsWf) ?_
            clear hK K
            try simp only [Act.put, List.setIfInBounds_toArray, List.set_cons_zero, List.set_cons_succ]
            refine wpAnyH_takeI (i := 15) (v := ?v31) rfl (by kernel_rfl) (by kernel_rfl) (by kernel_rfl) (fun _ _ _ h => h) (yieldsIf_run rfl (fun w' hw' => ?y31)) hsWf ?_
            case y31 => first | (go_simp; rfl) | (go_simp; done) | rfl
            simp only [Act.put, List.setIfInBounds_toArray, List.set_cons_zero, List.set_cons_succ]
            refine wpAnyH_takeI (i := 16) (v := .agg (L[j].cells).toArray) rfl (by kernel_rfl) (by kernel_rfl) (by kernel_rfl) (fun _ _ _ h => h) (yieldsIf_load_mid rfl 43 (.tmp 87) rfl g1 (o1 + j * 83) rfl (L[j].cells) _ (fun w' hw' => HRJ.out w' hw') Try.underlying43 rfl (sizeRow L[j])) hsWf ?_
            simp only [Act.put, List.setIfInBounds_toArray, List.set_cons_zero, List.set_cons_succ]
            refine wpAnyH_do (i := 23) (by kernel_rfl) rfl rfl (fun K hK => ?_)
            go_simp
            go_at_call 60
            refine (above_any _ L y (HVd.out.below hsWf) HND.out HLL.out).mono ?_
            rintro e Wa ⟨rfl, hba⟩
            have hsWa := hsWf.trans (hba.mono hsWf.size)
            have hOa := hOf.below hba
            clear hba hOf
            refine hK _ _ (hsWa) ?_
            clear hK K
            try simp only [Act.put, List.setIfInBounds_toArray, List.set_cons_zero, List.set_cons_succ]
            refine wpAnyH_takeI (i := 24) (v := .agg (KnV.cells ⟨y, -1, L[j], misP L y⟩).toArray) rfl (by kernel_rfl) (by kernel_rfl) (by kernel_rfl) (fun _ _ _ h => h) (yieldsIf_run rfl (fun w' hw' => exec_buildL 102 _ rfl [(0, .agg (bvs y.1).toArray), (1, .int .i64 (-1)), (2, .agg L[j].cells.toArray), (3, .agg (pvC (misP L y)).toArray)] rfl (build_kn _ _ _ _ _))) hsWa ?_
            simp only [Act.put, List.setIfInBounds_toArray, List.set_cons_zero, List.set_cons_succ]
            refine wpAnyH_do (i := 25) (by kernel_rfl) rfl rfl (fun K hK => ?_)
            refine wp_lit1 91 102 (.tmp 96) rfl (knE.enc (⟨y, -1, L[j], misP L y⟩ : KnV)).toArray rfl Try.underlying91 (sizeKnA _) (by kernel_rfl) (by rw [sizeKn149]; decide) (by rw [sizeKn149]; decide) ?_
            obtain ⟨Wm, hwn⟩ : ∃ Wm, Wa.alloc (.cells (knE.enc (⟨y, -1, L[j], misP L y⟩ : KnV)).toArray 102) = Wm := ⟨_, rfl⟩
            have hbn : Below Wa.heap.size Wa Wm := hwn ▸ one_below knE Wa (⟨y, -1, L[j], misP L y⟩ : KnV)
            have hLWm : Wm.heap[Wa.heap.size]? = some (.cells (knE.enc (⟨y, -1, L[j], misP L y⟩ : KnV)).toArray 102 (0, 0)) := by rw [← hwn]; exact heap_alloc_new _ _
            rw [hwn]
            have hOWm := hOa.below hbn
            have hsWm := hsWa.trans (hbn.mono hsWa.size)
            clear hbn hwn
            refine hK _ _ (hsWm) ?_
            clear hK K
            try simp only [Act.put, List.setIfInBounds_toArray, List.set_cons_zero, List.set_cons_succ]
            refine wpAnyH_do (i := 26) (by kernel_rfl) rfl rfl (fun K hK => ?_)
            refine wp_appL knE (.tmp 72) (.tmp 97) rfl rfl hOWm rfl (list_block1 knE hLWm) (n := on + 1) (m := 1) HKN5.out rfl (by omega) hsWm.size ?_
            intro a9 c9 W9 hOW9 hgW9 haW9
            have hsW9 := hsWm.trans (hOWm.grown_below hgW9 hsWm.size)
            refine hK _ _ (hsW9) ?_
            clear hK K
            try simp only [Act.put, List.setIfInBounds_toArray, List.set_cons_zero, List.set_cons_succ]
            refine wpAnyH_takeI (i := 27) (v := ?v32) rfl (by kernel_rfl) (by kernel_rfl) (by kernel_rfl) (fun _ _ _ h => h) (yieldsIf_run rfl (fun w' hw' => ?y32)) hsW9 ?_
            case y32 => first | (go_simp; rfl) | (go_simp; done) | rfl
            simp only [Act.put, List.setIfInBounds_toArray, List.set_cons_zero, List.set_cons_succ]
            refine wpAnyH_done (by kernel_rfl) ?_ _
            refine NoPanic.normal ?_
            have HI9 := Lib.hid (show KnI L c (i + 1) (K5 ++ [⟨y, -1, L[j], misP L y⟩]) by
              rw [← HK5.out]
              have h2 := HI.out.two (P := L[j]) HND.out hiL HCU.out (by rw [HIX.out]; omega) (fun m hm => HNO.out m (by rw [← HK5.out, ← HAK.out]; exact hm)) HFI.out
              rw [HAK.out] at h2
              exact h2)
            have HO9 := Lib.hid hOW9
            have HB9 := Lib.hid hsW9
            clear hOWm hLWm hsWm hsW9 hOW9 hgW9 haW9 hS0 hsWa hsWf hOa
            go_wp2_with fail
            go_roundw
            case rel => exact ⟨i + 1, _, a9, on + 1 + 1, c9, by omega, by omega, by go_num, rfl, HO9, HI9, HB9⟩
            case measure => simp [intOf] <;> omega
        obtain ⟨kn, hkn⟩ : ∃ kn, K5[k]'(by rw [HKN5.out]; exact hkc) = kn := ⟨_, rfl⟩
        have hkK : k < K5.length := by rw [HKN5.out]; exact hkc
        have hkcI : (k : Int) < (on : Int) + 1 := by omega
        obtain ⟨g3, o3, e3, hg3, hr3⟩ := HO7.out.at_.get hkK
        subst e3
        rw [hkn] at hr3
        have HKR := Lib.hid (show ∀ w', Below W1.heap.size W1 w' → w'.rangeAt g3 (o3 + k * 149) (bvs kn.id.1) from fun w' hw' => range_below (kn_id (show W1.rangeAt g3 (o3 + k * 149) kn.cells from hr3)) hg3 hw')
        have HNX := Lib.hid (show (∃ m ∈ K5.take (k + 1), m.id = y) ↔ (∃ m ∈ K5.take k, m.id = y) ∨ kn.id = y by
          rw [List.take_succ_eq_append_getElem hkK, hkn]
          constructor
          · rintro ⟨m, hm, e⟩
            rcases List.mem_append.1 hm with h | h
            · exact .inl ⟨m, h, e⟩
            · obtain rfl := List.mem_singleton.1 h
              exact .inr e
          · rintro (⟨m, hm, e⟩ | e)
            · exact ⟨m, List.mem_append_left _ hm, e⟩
            · exact ⟨kn, List.mem_append_right _ (List.mem_singleton.2 rfl), e⟩)
        clear hkn hr3 hg3 hkK
        go_wp2_with fail
        refine wp_region_seq 14 (by kernel_rfl) (by kernel_rfl) ?_
        simp only [List.take_succ_cons, List.take_zero, List.drop_succ_cons, List.drop_zero]
        obtain ⟨wd, hwd⟩ : ∃ wd, W1.drew = wd := ⟨_, rfl⟩
        have hd_wd : Below W1.heap.size W1 wd ∧ wd.heap.size = W1.heap.size := hwd ▸ ⟨(Below.refl _ _).drew, rfl⟩
        rw [hwd]
        clear hwd
        have HKd := Lib.hid (HKR.out wd hd_wd.1)
        have HYd := Lib.hid (HY.out wd (HB7.out.trans (hd_wd.1.mono HB7.out.size)))
        have HKe := Lib.hid (HK.out.trans (hd_wd.1.mono HK.out.size))
        clear hd_wd
        cases nb with
        | true =>
          have HNN := Lib.hid (show ∃ m ∈ K5.take (k + 1), m.id = y by rw [HNX.out]; exact .inl (HNB.out.1 (by simp)))
          go_wp2_with fail
          refine HeadPost.mk ?_
          go_wp2_with fail
          go_roundw
          case rel => exact ⟨k + 1, true, by omega, by go_num, rfl, Lib.hid ⟨fun _ => HNN.out, fun _ => rfl⟩, HKe⟩
          case measure => simp [intOf] <;> omega
        | false =>
          go_wp2_with (refine wpList_met rfl ?_; with_reducible refine wpList_load_mid rfl 35 (.tmp 61) rfl g3 (o3 + k * 149) rfl (bvs kn.id.1) _ HKd.out Try.underlying35 rfl (sizeId kn.id) ?_; refine Stop.on ?_)
          refine Stop.go ?_
          try simp only [Act.put, List.setIfInBounds_toArray, List.set_cons_zero, List.set_cons_succ]
          go_wp2_with (refine wpList_met rfl ?_; with_reducible refine wpList_load_mid rfl 35 (.tmp 66) rfl g2 (o2 + i * 33 + 1) rfl (bvs y.1) _ HYd.out Try.underlying35 rfl (sizeId y) ?_; refine Stop.on ?_)
          refine Stop.go ?_
          try simp only [Act.put, List.setIfInBounds_toArray, List.set_cons_zero, List.set_cons_succ]
          refine wpList_met rfl ?_
          refine wpList_runI rfl (some 68) rfl (.bool (decide (kn.id = y))) _ (op_eql 35 (.tmp 62) (.tmp 67) 35 rfl rfl rfl guard_Id (eql_Id kn.id y _)) ?_
          try simp only [Act.put, List.setIfInBounds_toArray, List.set_cons_zero, List.set_cons_succ]
          obtain ⟨nb2, hnb2⟩ : ∃ nb2, decide (kn.id = y) = nb2 := ⟨_, rfl⟩
          rw [hnb2]
          have HNN := Lib.hid (show (nb2 = true ↔ ∃ m ∈ K5.take (k + 1), m.id = y) by rw [HNX.out, ← HNB.out, ← hnb2]; simp)
          clear hnb2
          go_wp2_with fail
          refine HeadPost.mk ?_
          go_wp2_with fail
          go_roundw
          case rel => exact ⟨k + 1, nb2, by omega, by go_num, rfl, HNN, HKe⟩
          case measure => simp [intOf] <;> omega
end Go.Proofs.Ythfinofmbnfijaa
