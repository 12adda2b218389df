/- slices.SortFunc at identities; Visibility: sorted lists of identities. No walk. -/
import Derived.Test.YtjjanjhoaiannaaVp1
import Derived.Test.YtjjanjhoaiannaaSrtb
namespace Go.Proofs.Ytjjanjhoaiannaa
open Go.Shelf Go.RowKit Go.Lib Go.Sort
set_option linter.unusedVariables false
set_option linter.unusedSimpArgs false

set_option maxHeartbeats 2000000 in
theorem vcmpId (a b : IdB) (w : World) : Calls Try.prog 37 #[.agg (bvs a.1).toArray, .agg (bvs b.1).toArray] w fun e w' => e = .returned (.int .i64 (cmpB a b)) ∧ ∃ q os', w' = grow (w.drewN q) os' := by
  obtain ⟨w1, hw1⟩ : ∃ w1, w.alloc (.cells (bvs a.1).toArray 31) = w1 := ⟨_, rfl⟩
  obtain ⟨w2, hw2⟩ : ∃ w2, w1.alloc (.cells (bvs b.1).toArray 31) = w2 := ⟨_, rfl⟩
  have hx1 : w1.heap[w.heap.size]? = some (.cells (bvs a.1).toArray 31 (0, 0)) := by rw [← hw1]; exact heap_alloc_new _ _
  have hx2 : w2.heap[w1.heap.size]? = some (.cells (bvs b.1).toArray 31 (0, 0)) := by rw [← hw2]; exact heap_alloc_new _ _
  have hb2 : Below w1.heap.size w1 w2 := hw2 ▸ (Below.refl _ _).alloc (Nat.le_refl _) _
  have hx1 := (hb2.block _ (Array.getElem?_eq_some_iff.1 hx1).1).trans hx1
  have h1 : w2.drew.rangeAt w.heap.size 0 (bvs a.1) := range_block (w := w2.drew) hx1
  have h2 : w2.drew.rangeAt w1.heap.size 0 (bvs b.1) := range_block (w := w2.drew) hx2
  have hfin : ∃ q os', w2.drew = grow (w.drewN q) os' := ⟨1, #[.cells (bvs a.1).toArray 31, .cells (bvs b.1).toArray 31], by
    rw [← hw2, ← hw1, alloc_eq_grow, alloc_eq_grow, grow_grow]
    rfl⟩
  clear hx1 hx2 hb2
  have HF := Lib.hid hfin
  clear hfin
  go_enter Try.func37, Try.ntmps37
  go_wp2_with fail
  refine wp_region_noPanic ?_
  refine wp_region_H ((fun wx => wx = w2.drew)) (by kernel_rfl) ?_
  have hS0 : ((fun wx => wx = w2.drew)) w2.drew := rfl
  refine wpAnyH_takeI (i := 0) (v := ?v1) rfl (by kernel_rfl) (by kernel_rfl) (by kernel_rfl) (fun _ _ _ h => h) (yieldsIf_run rfl (fun w' hw' => ?y1)) hS0 ?_
  case y1 => first | (go_simp; rfl) | (go_simp; done) | rfl
  simp only [Act.put, List.setIfInBounds_toArray, List.set_cons_zero, List.set_cons_succ]
  refine wpAnyH_takeI (i := 1) (v := ?v2) rfl (by kernel_rfl) (by kernel_rfl) (by kernel_rfl) (fun _ _ _ h => h) (yieldsIf_run rfl (fun w' hw' => ?y2)) hS0 ?_
  case y2 => first | (go_simp; rfl) | (go_simp; done) | rfl
  simp only [Act.put, List.setIfInBounds_toArray, List.set_cons_zero, List.set_cons_succ]
  refine wpAnyH_do (i := 2) (by kernel_rfl) rfl rfl (fun K hK => ?_)
  go_simp
  go_at_call 38
  refine (bytesCompare a b h1 h2).mono ?_
  rintro e wc ⟨rfl, rfl⟩
  refine hK _ _ (hS0) ?_
  clear hK K
  try simp only [Act.put, List.setIfInBounds_toArray, List.set_cons_zero, List.set_cons_succ]
  refine wpAnyH_takeI (i := 3) (v := ?v3) rfl (by kernel_rfl) (by kernel_rfl) (by kernel_rfl) (fun _ _ _ h => h) (yieldsIf_run rfl (fun w' hw' => ?y3)) hS0 ?_
  case y3 => first | (go_simp; rfl) | (go_simp; done) | rfl
  simp only [Act.put, List.setIfInBounds_toArray, List.set_cons_zero, List.set_cons_succ]
  refine wpAnyH_done (by kernel_rfl) ?_ _
  refine NoPanic.normal ?_
  go_wp2_with fail
  exact bodyPost_ret (v := .int .i64 (cmpB a b)) (by simp [results, Try.results37, go_sem]) rfl ⟨rfl, HF.out⟩

theorem vsortId_any {w : World} {B : Nat} {v : Value} (M : List IdB) (h : OwnL idE w B v M) (hB : B ≤ w.heap.size) (hl : M.length < 1000000000) :
    Calls Try.prog 36 #[v, .func (.func 37) #[] #[]] w fun e w' => e = .returned (.tuple #[]) ∧ OwnL idE w' B v (sortB M) ∧ Below B w w' := by
  have hh : w.ownsRow B 31 32 v M.length (M.flatMap idE.enc) := h
  rcases hh.2 with ⟨rfl, h0⟩ | ⟨g, cap, cur, rfl, hgB, hg, hc, hm, hs, ht⟩
  · obtain rfl : M = [] := List.eq_nil_of_length_eq_zero h0
    exact (AnyF.slices_SortFunc_none Try.sortId none 0 _ w).mono fun e w' ⟨he, hw⟩ => ⟨he, by rw [hw, show sortB [] = [] from by simp [sortB]]; exact h, hw ▸ Below.refl _ _⟩
  · have eg : ∀ args w, (callFunc 37 args).run Try.prog w = .ok (.enter 37 args) w := enters_of Try.func37 (by kernel_rfl) rfl
    have hcon := AnyQ.slices_SortFunc_total Try.sortId 32 isAggId sizeOfId idE.enc idE.len idE.one cmpB swoB 37 #[] g 0 cap M.toArray w eg (fun _ _ _ _ x y => vcmpId x y _) (holdsK_of idE M hg ht) (Array.getElem?_eq_some_iff.1 hg).1 (by rw [List.size_toArray]; omega) cmpB_total
    rw [List.size_toArray] at hcon
    refine hcon.mono ?_
    rintro e w' ⟨rfl, n, os, rfl⟩
    have hp : (sortB M).length = M.length := (List.mergeSort_perm M _).length_eq
    obtain ⟨h1, h2⟩ := own_sorted idE (n := n) (os := os) M (sortB M) hp hgB hg hc hm hs
    exact ⟨rfl, h1, h2⟩

end Go.Proofs.Ytjjanjhoaiannaa

namespace Go.Proofs.Ytjjanjhoaiannaa
open Go.RowKit Go.Lib Go.Sort
set_option linter.unusedVariables false
set_option linter.unusedSimpArgs false

def leB (x y : IdB) : Bool := !(ltOf cmpB y x)
theorem leB_trans (a b c : IdB) (h1 : leB a b = true) (h2 : leB b c = true) : leB a c = true := by
  unfold leB at *
  simp only [Bool.not_eq_true'] at *
  exact swoB.ntrans c b a h2 h1
theorem lt_asymm {x y : IdB} (h : ltOf cmpB x y = true) : ltOf cmpB y x = false := by
  cases h2 : ltOf cmpB y x with
  | false => rfl
  | true => have := swoB.trans x y x h h2; rw [swoB.irrefl] at this; cases this
theorem leB_total (a b : IdB) : (leB a b || leB b a) = true := by
  unfold leB
  cases h : ltOf cmpB b a with
  | false => rfl
  | true => rw [lt_asymm h]; rfl
theorem leB_of_lt {x y : IdB} (h : ltOf cmpB x y = true) : leB x y = true := by unfold leB; rw [lt_asymm h]; rfl
theorem leB_antisymm {x y : IdB} (h1 : leB x y = true) (h2 : leB y x = true) : x = y := by
  unfold leB at *
  simp only [Bool.not_eq_true'] at *
  exact cmpB_total x y h2 h1
theorem sortB_sorted (X : List IdB) : (sortB X).Pairwise (fun x y => leB x y = true) := List.pairwise_mergeSort leB_trans leB_total X
theorem sortB_perm (X : List IdB) : (sortB X).Perm X := List.mergeSort_perm X _
theorem sorted_unique : ∀ {A B : List IdB}, A.Perm B → A.Pairwise (fun x y => leB x y = true) → B.Pairwise (fun x y => leB x y = true) → A = B
  | [], B, h, _, _ => (List.nil_perm.1 h).symm
  | a :: A, [], h, _, _ => absurd h.length_eq (by simp)
  | a :: A, b :: B, h, hA, hB => by
    have hab : a = b := by
      have h1 : a ∈ b :: B := h.subset (by simp)
      have h2 : b ∈ a :: A := h.symm.subset (by simp)
      rcases List.mem_cons.1 h1 with e | h1
      · exact e
      · rcases List.mem_cons.1 h2 with e | h2
        · exact e.symm
        · exact leB_antisymm (List.rel_of_pairwise_cons hA h2) (List.rel_of_pairwise_cons hB h1)
    subst hab
    rw [sorted_unique (h.cons_inv) hA.of_cons hB.of_cons]
theorem sortB_of {X Y : List IdB} (h : X.Perm Y) : sortB X = sortB Y := sorted_unique ((sortB_perm X).trans (h.trans (sortB_perm Y).symm)) (sortB_sorted X) (sortB_sorted Y)
/-- An identity put in its place. -/
theorem insert_sorted {X O : List IdB} {a : IdB} {k : Nat} (hO : O = sortB X) (h1 : ∀ x ∈ O.take k, ltOf cmpB x a = true) (h2 : ∀ h : k < O.length, ltOf cmpB O[k] a = false) : O.take k ++ [a] ++ O.drop k = sortB (X ++ [a]) := by
  have hs : O.Pairwise (fun x y => leB x y = true) := hO ▸ sortB_sorted X
  have hp : O.Perm X := hO ▸ sortB_perm X
  have hsplit : O = O.take k ++ O.drop k := (List.take_append_drop k O).symm
  have hs2 := hs
  rw [hsplit, List.pairwise_append] at hs2
  obtain ⟨p1, p2, p3⟩ := hs2
  have hge : ∀ y ∈ O.drop k, leB a y = true := by
    intro y hy
    by_cases hk : k < O.length
    · rw [List.drop_eq_getElem_cons hk] at hy p2
      have h0 : leB a O[k] = true := by unfold leB; rw [h2 hk]; rfl
      rcases List.mem_cons.1 hy with rfl | hy
      · exact h0
      · exact leB_trans _ _ _ h0 (List.rel_of_pairwise_cons p2 hy)
    · rw [List.drop_of_length_le (by omega)] at hy
      cases hy
  refine sorted_unique ?_ ?_ (sortB_sorted _)
  · refine List.Perm.trans ?_ (sortB_perm _).symm
    refine List.Perm.trans ?_ (List.Perm.append_right [a] hp)
    rw [List.append_assoc]
    conv => rhs; rw [hsplit]
    rw [List.append_assoc]
    exact List.Perm.append_left _ (List.perm_append_comm)
  · rw [List.append_assoc, List.pairwise_append]
    refine ⟨p1, ?_, ?_⟩
    · rw [List.singleton_append, List.pairwise_cons]
      exact ⟨hge, p2⟩
    · intro x hx y hy
      rcases List.mem_append.1 hy with hy | hy
      · rw [List.mem_singleton.1 hy]
        exact leB_of_lt (h1 x hx)
      · exact p3 x hx y hy

end Go.Proofs.Ytjjanjhoaiannaa
