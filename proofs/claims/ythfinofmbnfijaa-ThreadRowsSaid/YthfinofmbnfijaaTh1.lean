/- msgid.Compare; slices.SortFunc at identities by it; thread.Compare, the model's order. -/
import Derived.Test.YthfinofmbnfijaaSrtb
import Derived.Test.YthfinofmbnfijaaTp3
namespace Go.Proofs.Ythfinofmbnfijaa
open Go.Shelf Go.RowKit Go.Lib Go.Sort
set_option linter.unusedVariables false
set_option linter.unusedSimpArgs false

set_option maxHeartbeats 2000000 in
theorem cmpId (a b : IdB) (w : World) : Calls Try.prog 48 #[.agg (bvs a.1).toArray, .agg (bvs b.1).toArray] w fun e w' => e = .returned (.int .i64 (cmpB a b)) ∧ ∃ q os', w' = grow (w.drewN q) os' := by
  obtain ⟨w1, hw1⟩ : ∃ w1, w.alloc (.cells (bvs a.1).toArray 35) = w1 := ⟨_, rfl⟩
  obtain ⟨w2, hw2⟩ : ∃ w2, w1.alloc (.cells (bvs b.1).toArray 35) = w2 := ⟨_, rfl⟩
  have hx1 : w1.heap[w.heap.size]? = some (.cells (bvs a.1).toArray 35 (0, 0)) := by rw [← hw1]; exact heap_alloc_new _ _
  have hx2 : w2.heap[w1.heap.size]? = some (.cells (bvs b.1).toArray 35 (0, 0)) := by rw [← hw2]; exact heap_alloc_new _ _
  have hb2 : Below w1.heap.size w1 w2 := hw2 ▸ (Below.refl _ _).alloc (Nat.le_refl _) _
  have hx1 := (hb2.block _ (Array.getElem?_eq_some_iff.1 hx1).1).trans hx1
  have h1 : w2.drew.rangeAt w.heap.size 0 (bvs a.1) := range_block (w := w2.drew) hx1
  have h2 : w2.drew.rangeAt w1.heap.size 0 (bvs b.1) := range_block (w := w2.drew) hx2
  have hfin : ∃ q os', w2.drew = grow (w.drewN q) os' := ⟨1, #[.cells (bvs a.1).toArray 35, .cells (bvs b.1).toArray 35], by
    rw [← hw2, ← hw1, alloc_eq_grow, alloc_eq_grow, grow_grow]
    rfl⟩
  clear hx1 hx2 hb2
  have HF := Lib.hid hfin
  clear hfin
  go_enter Try.func48, Try.ntmps48
  go_wp2_with fail
  refine wp_region_noPanic ?_
  refine wp_region_H ((fun wx => wx = w2.drew)) (by kernel_rfl) ?_
  have hS0 : ((fun wx => wx = w2.drew)) w2.drew := rfl
  refine wpAnyH_takeI (i := 0) (v := ?v1) rfl (by kernel_rfl) (by kernel_rfl) (by kernel_rfl) (fun _ _ _ h => h) (yieldsIf_run rfl (fun w' hw' => ?y1)) hS0 ?_
  case y1 => first | (go_simp; rfl) | (go_simp; done) | rfl
  simp only [Act.put, List.setIfInBounds_toArray, List.set_cons_zero, List.set_cons_succ]
  refine wpAnyH_takeI (i := 1) (v := ?v2) rfl (by kernel_rfl) (by kernel_rfl) (by kernel_rfl) (fun _ _ _ h => h) (yieldsIf_run rfl (fun w' hw' => ?y2)) hS0 ?_
  case y2 => first | (go_simp; rfl) | (go_simp; done) | rfl
  simp only [Act.put, List.setIfInBounds_toArray, List.set_cons_zero, List.set_cons_succ]
  refine wpAnyH_do (i := 2) (by kernel_rfl) rfl rfl (fun K hK => ?_)
  go_simp
  go_at_call 62
  refine (bytesCompare a b h1 h2).mono ?_
  rintro e wc ⟨rfl, rfl⟩
  refine hK _ _ (hS0) ?_
  clear hK K
  try simp only [Act.put, List.setIfInBounds_toArray, List.set_cons_zero, List.set_cons_succ]
  refine wpAnyH_takeI (i := 3) (v := ?v3) rfl (by kernel_rfl) (by kernel_rfl) (by kernel_rfl) (fun _ _ _ h => h) (yieldsIf_run rfl (fun w' hw' => ?y3)) hS0 ?_
  case y3 => first | (go_simp; rfl) | (go_simp; done) | rfl
  simp only [Act.put, List.setIfInBounds_toArray, List.set_cons_zero, List.set_cons_succ]
  refine wpAnyH_done (by kernel_rfl) ?_ _
  refine NoPanic.normal ?_
  go_wp2_with fail
  exact bodyPost_ret (v := .int .i64 (cmpB a b)) (by simp [results, Try.results48, go_sem]) rfl ⟨rfl, HF.out⟩

theorem sortId_any {w : World} {B : Nat} {v : Value} (M : List IdB) (h : OwnL idE w B v M) (hB : B ≤ w.heap.size) (hl : M.length < 1000000000) :
    Calls Try.prog 49 #[v, .func (.func 48) #[] #[]] w fun e w' => e = .returned (.tuple #[]) ∧ OwnL idE w' B v (sortB M) ∧ Below B w w' := by
  have hh : w.ownsRow B 35 32 v M.length (M.flatMap idE.enc) := h
  rcases hh.2 with ⟨rfl, h0⟩ | ⟨g, cap, cur, rfl, hgB, hg, hc, hm, hs, ht⟩
  · obtain rfl : M = [] := List.eq_nil_of_length_eq_zero h0
    exact (AnyF.slices_SortFunc_none Try.sortId none 0 _ w).mono fun e w' ⟨he, hw⟩ => ⟨he, by rw [hw, show sortB [] = [] from by simp [sortB]]; exact h, hw ▸ Below.refl _ _⟩
  · have eg : ∀ args w, (callFunc 48 args).run Try.prog w = .ok (.enter 48 args) w := enters_of Try.func48 (by kernel_rfl) rfl
    have hcon := AnyQ.slices_SortFunc_total Try.sortId 32 isAggId sizeOfId idE.enc idE.len idE.one cmpB swoB 48 #[] g 0 cap M.toArray w eg (fun _ _ _ _ x y => cmpId x y _) (holdsK_of idE M hg ht) (Array.getElem?_eq_some_iff.1 hg).1 (by rw [List.size_toArray]; omega) cmpB_total
    rw [List.size_toArray] at hcon
    refine hcon.mono ?_
    rintro e w' ⟨rfl, n, os, rfl⟩
    have hp : (sortB M).length = M.length := (List.mergeSort_perm M _).length_eq
    obtain ⟨h1, h2⟩ := own_sorted idE (n := n) (os := os) M (sortB M) hp hgB hg hc hm hs
    exact ⟨rfl, h1, h2⟩


end Go.Proofs.Ythfinofmbnfijaa
