/- The law's identities; index. -/
import Derived.Test.YthfinofmbnfijaaTh14
namespace Go.Proofs.Ythfinofmbnfijaa
open Go.Shelf Go.RowKit Go.Lib Go.Sort
set_option linter.unusedVariables false
set_option linter.unusedSimpArgs false

def idOf (n : UInt8) : IdB := ⟨(n % 3) :: (List.replicate 30 0 ++ [n % 24]), by simp⟩
def idC (N : Nat) : List Value := .int .u8 ((N : Int) % 3) :: (List.replicate 30 (.int .u8 0) ++ [.int .u8 ((N : Int) % 24)])
theorem idC_eq (n : UInt8) : bvs (idOf n).1 = idC n.toNat := by
  unfold bvs idOf idC bv
  simp

set_option maxRecDepth 100000 in
set_option maxHeartbeats 2000000 in
theorem id_any {w : World} (n : UInt8) : Calls Try.prog 30 #[.int .u8 (n.toNat : Int)] w fun e w' => e = .returned (idv (idOf n)) ∧ Below w.heap.size w w' := by
  obtain ⟨N, hN⟩ : ∃ N, n.toNat = N := ⟨_, rfl⟩
  have hlt : N < 256 := by rw [← hN]; exact n.toNat_lt
  have hIC : bvs (idOf n).1 = idC N := by rw [← hN]; exact idC_eq n
  rw [hN]
  go_enter Try.func30, Try.ntmps30
  go_wp2_with (refine wpList_newV rfl (some 2) rfl 35 rfl #[.int .u8 0, .int .u8 0, .int .u8 0, .int .u8 0, .int .u8 0, .int .u8 0, .int .u8 0, .int .u8 0, .int .u8 0, .int .u8 0, .int .u8 0, .int .u8 0, .int .u8 0, .int .u8 0, .int .u8 0, .int .u8 0, .int .u8 0, .int .u8 0, .int .u8 0, .int .u8 0, .int .u8 0, .int .u8 0, .int .u8 0, .int .u8 0, .int .u8 0, .int .u8 0, .int .u8 0, .int .u8 0, .int .u8 0, .int .u8 0, .int .u8 0, .int .u8 0] 32 (by kernel_rfl) ?_; refine Stop.on ?_)
  refine Stop.go ?_
  try simp only [Act.put, List.setIfInBounds_toArray, List.set_cons_zero, List.set_cons_succ]
  intro w1 x1 b1 s1
  try simp only [Act.put, List.setIfInBounds_toArray, List.set_cons_zero, List.set_cons_succ]
  go_wp2_with (refine wpList_putV rfl rfl 35 (.tmp 2) (.tmp 7) rfl _ (idC N).toArray rfl rfl 35 _ x1 (by kernel_rfl) rfl (all_oneCell_toArray (hIC ▸ bvs_oneCell)) ?_; refine Stop.on ?_)
  refine Stop.go ?_
  try simp only [Act.put, List.setIfInBounds_toArray, List.set_cons_zero, List.set_cons_succ]
  intro w2 x2 c2 s2
  try simp only [Act.put, List.setIfInBounds_toArray, List.set_cons_zero, List.set_cons_succ]
  have HB := Lib.hid (b1.trans (c2.below (B := w.heap.size) (fun k e => by omega) b1.size))
  have HX := Lib.hid (show w2.heap[w.heap.size]? = some (.cells (bvs (idOf n).1).toArray 35 (0, 0)) by rw [hIC]; exact x2)
  clear x1 b1 s1 x2 c2 s2
  go_wp2_with fail
  exact bodyPost_ret (results_cell_row (g := w.heap.size) rfl _ _ _ _ _ _ rfl HX.out Try.underlying35 rfl (sizeIdA _)) rfl ⟨rfl, HB.out⟩
theorem idxL_first {L : List RowV} {x : IdB} {i : Nat} (hi : i < L.length) (hp : ∀ j (hj : j < i), (L[j]'(Nat.lt_trans hj hi)).id ≠ x) (h : L[i].id = x) : idxL L x = (i : Int) := by
  unfold idxL
  rw [show L.findIdx? (fun r => decide (r.id = x)) = some i from List.findIdx?_eq_some_iff_getElem.2 ⟨hi, decide_eq_true h, fun j hj e => hp j hj (of_decide_eq_true e)⟩]
theorem idxL_none2 {L : List RowV} {x : IdB} (hp : ∀ r ∈ L, r.id ≠ x) : idxL L x = -1 := by
  unfold idxL
  rw [List.findIdx?_eq_none_iff.2 (fun r hr => decide_eq_false (hp r hr))]
set_option maxRecDepth 100000 in
set_option maxHeartbeats 2000000 in
theorem index_any {w : World} (v : Value) (L : List RowV) (x : IdB) (hv : RowsAt w v L) (hl : L.length < 1000000) : Calls Try.prog 22 #[v, idv x] w fun e w' => e = .returned (.int .i64 (idxL L x)) ∧ Below w.heap.size w w' := by
  obtain ⟨va, vc, rfl⟩ := hv.l.form
  obtain ⟨N, hN⟩ : ∃ N, L.length = N := ⟨_, rfl⟩
  rw [hN] at hv hl ⊢
  obtain ⟨w1, hw1⟩ : ∃ w1, w.alloc (.cells (bvs x.1).toArray 35) = w1 := ⟨_, rfl⟩
  have hb1 : Below w.heap.size w w1 := hw1 ▸ (Below.refl _ w).alloc (Nat.le_refl _) _
  have hx1 : w1.heap[w.heap.size]? = some (.cells (bvs x.1).toArray 35 (0, 0)) := by rw [← hw1]; exact heap_alloc_new _ _
  have HV := Lib.hid (hv.below hb1)
  have HN := Lib.hid hN
  have HB1 := Lib.hid hb1
  have HX1 := Lib.hid hx1
  clear hv hN hb1 hx1
  unfold idv
  go_enter Try.func22, Try.ntmps22
  go_wp2_with fail
  have HR1 := Lib.hid (Below.refl w1.heap.size w1)
  go_loopw [5] (fun iv wr => ∃ i : Nat, i ≤ N ∧ iv = .int .i64 (i : Int) ∧ Hid (∀ r ∈ L.take i, r.id ≠ x) ∧ Hid (Below w1.heap.size w1 wr)) (fun iv _ => N - (intOf iv).toNat)
  case atStart => exact ⟨0, Nat.zero_le _, rfl, Lib.hid (fun r hr => by cases hr), HR1⟩
  case round =>
    obtain ⟨i, hi, rfl, HE, HB⟩ := hrel
    obtain ⟨W0, rfl⟩ : ∃ W0, W0 = wr := ⟨_, rfl⟩
    clear HR1
    by_cases hlt : i < N
    case neg =>
      obtain rfl : i = N := by omega
      have HF := Lib.hid (show idxL L x = -1 from idxL_none2 (by
        have h1 := HE.out
        rw [List.take_of_length_le (by rw [HN.out]; exact Nat.le_refl _)] at h1
        exact h1))
      have HBE := Lib.hid (HB1.out.trans (HB.out.mono HB1.out.size))
      go_wp2_with fail
      rw [HF.out]
      exact bodyPost_ret (v := .int .i64 (-1)) (by simp [results, Try.results22, go_sem]) rfl ⟨rfl, HBE.out⟩
    have hiL : i < L.length := by rw [HN.out]; exact hlt
    obtain ⟨g1, o1, e1, hg1, hr1⟩ := (HV.out.below HB.out).l.get hiL
    subst e1
    obtain ⟨y, hy⟩ : ∃ y, L[i] = y := ⟨_, rfl⟩
    rw [hy] at hr1
    have HY := Lib.hid hy
    have HR1 := Lib.hid (show ∀ w', Below W0.heap.size W0 w' → w'.rangeAt g1 (o1 + i * 83 + 0) (bvs y.id.1) from fun w' hw' => row_id (range_below hr1 hg1 hw'))
    have HXW := Lib.hid (show ∀ w', Below W0.heap.size W0 w' → w'.heap[w.heap.size]? = some (.cells (bvs x.1).toArray 35 (0, 0)) from fun w' hw' => by
      have h1 := (HB.out.trans (hw'.mono HB.out.size)).block w.heap.size (by have := (Array.getElem?_eq_some_iff.1 HX1.out).1; exact this)
      exact h1.trans HX1.out)
    have HBW := Lib.hid (show ∀ w', Below W0.heap.size W0 w' → Below w1.heap.size w1 w' from fun w' hw' => HB.out.trans (hw'.mono HB.out.size))
    have HBR := Lib.hid (show ∀ w', Below W0.heap.size W0 w' → Below w.heap.size w w' from fun w' hw' => HB1.out.trans ((HB.out.trans (hw'.mono HB.out.size)).mono HB1.out.size))
    clear hr1 hy hg1
    go_wp2_with fail
    refine wp_region_seq 6 (by kernel_rfl) (by kernel_rfl) ?_
    simp only [List.take_succ_cons, List.take_zero, List.drop_succ_cons, List.drop_zero]
    obtain ⟨wd, hwd⟩ : ∃ wd, W0.drew = wd := ⟨_, rfl⟩
    have hd_wd : Below W0.heap.size W0 wd ∧ wd.heap.size = W0.heap.size := hwd ▸ ⟨(Below.refl _ _).drew, rfl⟩
    rw [hwd]
    clear hwd
    have HR1d := Lib.hid (HR1.out wd hd_wd.1)
    have HXd := Lib.hid (HXW.out wd hd_wd.1)
    have HBd := Lib.hid (HBW.out wd hd_wd.1)
    have HBR2 := Lib.hid (HBR.out wd hd_wd.1)
    clear hd_wd
    go_wp2_with (with_reducible refine wpList_load_mid rfl 35 (.tmp 15) rfl g1 (o1 + i * 83 + 0) rfl (bvs y.id.1) _ HR1d.out Try.underlying35 rfl (sizeId y.id) ?_; refine Stop.on ?_)
    refine Stop.go ?_
    try simp only [Act.put, List.setIfInBounds_toArray, List.set_cons_zero, List.set_cons_succ]
    go_wp2_with (refine wpList_loadV rfl (some 17) rfl 35 (.tmp 3) rfl _ rfl 35 (bvs x.1).toArray (0, 0) _ HXd.out Try.underlying35 rfl (sizeIdA x) ?_; refine Stop.on ?_)
    refine Stop.go ?_
    try simp only [Act.put, List.setIfInBounds_toArray, List.set_cons_zero, List.set_cons_succ]
    refine HeadPost.mk ?_
    refine wpList_runI rfl (some 18) rfl (.bool (decide (y.id = x))) _ (op_eql 35 (.tmp 16) (.tmp 17) 35 rfl rfl rfl guard_Id (eql_Id y.id x _)) ?_
    try simp only [Act.put, List.setIfInBounds_toArray, List.set_cons_zero, List.set_cons_succ]
    by_cases hxy : y.id = x
    case pos =>
      rw [decide_eq_true hxy]
      have HF := Lib.hid (show idxL L x = (i : Int) from idxL_first hiL (fun j hj => HE.out _ (List.mem_take_iff_getElem.2 ⟨j, by omega, rfl⟩)) (by rw [HY.out]; exact hxy))
      clear hxy
      go_wp2_with fail
      rw [HF.out]
      exact bodyPost_ret (v := .int .i64 (i : Int)) (by simp [results, Try.results22, go_sem]) rfl ⟨rfl, HBR2.out⟩
    rw [decide_eq_false hxy]
    have HE1 := Lib.hid (show ∀ r ∈ L.take (i + 1), r.id ≠ x by
      intro r hr
      rw [List.take_succ_eq_append_getElem hiL, List.mem_append, List.mem_singleton, HY.out] at hr
      rcases hr with hr | rfl
      · exact HE.out r hr
      · exact hxy)
    clear hxy
    go_wp2_with fail
    go_roundw
    case rel => exact ⟨i + 1, by omega, by go_num, HE1, HBd⟩
    case measure => simp [intOf]; omega
end Go.Proofs.Ythfinofmbnfijaa
