/- msgid.Compare; slices.SortFunc at identities by it; thread.Compare, the model's order; thread.Compare; the model's order; The reference's Compare of identities; the model's order; arrange's comparison; the order of the articles. -/
import Derived.Test.YtjjanjhoaiannaaSrtb
import Derived.Test.YtjjanjhoaiannaaTp5
import Derived.Test.YtjjanjhoaiannaaSteps
import Derived.Lib.OwnBridge
import Derived.Sort.OwnSortedInts
namespace Go.Proofs.Ytjjanjhoaiannaa
open Go.Shelf Go.RowKit Go.Lib Go.Sort
set_option linter.unusedVariables false
set_option linter.unusedSimpArgs false

set_option maxHeartbeats 2000000 in
theorem cmpId (a b : IdB) (w : World) : Calls Try.prog 48 #[.agg (bvs a.1).toArray, .agg (bvs b.1).toArray] w fun e w' => e = .returned (.int .i64 (cmpB a b)) ∧ ∃ q os', w' = grow (w.drewN q) os' := by
  obtain ⟨w1, hw1⟩ : ∃ w1, w.alloc (.cells (bvs a.1).toArray 31) = w1 := ⟨_, rfl⟩
  obtain ⟨w2, hw2⟩ : ∃ w2, w1.alloc (.cells (bvs b.1).toArray 31) = w2 := ⟨_, rfl⟩
  have hx1 : w1.heap[w.heap.size]? = some (.cells (bvs a.1).toArray 31 (0, 0)) := by rw [← hw1]; exact heap_alloc_new _ _
  have hx2 : w2.heap[w1.heap.size]? = some (.cells (bvs b.1).toArray 31 (0, 0)) := by rw [← hw2]; exact heap_alloc_new _ _
  have hb2 : Below w1.heap.size w1 w2 := hw2 ▸ (Below.refl _ _).alloc (Nat.le_refl _) _
  have hx1 := (hb2.block _ (Array.getElem?_eq_some_iff.1 hx1).1).trans hx1
  have h1 : w2.drew.rangeAt w.heap.size 0 (bvs a.1) := range_block (w := w2.drew) hx1
  have h2 : w2.drew.rangeAt w1.heap.size 0 (bvs b.1) := range_block (w := w2.drew) hx2
  have hfin : ∃ q os', w2.drew = grow (w.drewN q) os' := ⟨1, #[.cells (bvs a.1).toArray 31, .cells (bvs b.1).toArray 31], by
    rw [← hw2, ← hw1, alloc_eq_grow, alloc_eq_grow, grow_grow]
    rfl⟩
  clear hx1 hx2 hb2
  have HF := Lib.hid hfin
  clear hfin
  go_enter Try.func48, Try.ntmps48
  go_wp2_with fail
  refine wp_region_noPanic ?_
  refine wp_region_H ((fun wx => wx = w2.drew)) (by kernel_rfl) ?_
  have hS0 : ((fun wx => wx = w2.drew)) w2.drew := rfl
  refine wpAnyH_takeI (i := 0) (v := ?v1) rfl (by kernel_rfl) (by kernel_rfl) (by kernel_rfl) (fun _ _ _ h => h) (yieldsIf_run rfl (fun w' hw' => ?y1)) hS0 ?_
  case y1 => first | (go_simp; rfl) | (go_simp; done) | rfl
  simp only [Act.put, List.setIfInBounds_toArray, List.set_cons_zero, List.set_cons_succ]
  refine wpAnyH_takeI (i := 1) (v := ?v2) rfl (by kernel_rfl) (by kernel_rfl) (by kernel_rfl) (fun _ _ _ h => h) (yieldsIf_run rfl (fun w' hw' => ?y2)) hS0 ?_
  case y2 => first | (go_simp; rfl) | (go_simp; done) | rfl
  simp only [Act.put, List.setIfInBounds_toArray, List.set_cons_zero, List.set_cons_succ]
  refine wpAnyH_do (i := 2) (by kernel_rfl) rfl rfl (fun K hK => ?_)
  go_simp
  go_at_call 38
  refine (bytesCompare a b h1 h2).mono ?_
  rintro e wc ⟨rfl, rfl⟩
  refine hK _ _ (hS0) ?_
  clear hK K
  try simp only [Act.put, List.setIfInBounds_toArray, List.set_cons_zero, List.set_cons_succ]
  refine wpAnyH_takeI (i := 3) (v := ?v3) rfl (by kernel_rfl) (by kernel_rfl) (by kernel_rfl) (fun _ _ _ h => h) (yieldsIf_run rfl (fun w' hw' => ?y3)) hS0 ?_
  case y3 => first | (go_simp; rfl) | (go_simp; done) | rfl
  simp only [Act.put, List.setIfInBounds_toArray, List.set_cons_zero, List.set_cons_succ]
  refine wpAnyH_done (by kernel_rfl) ?_ _
  refine NoPanic.normal ?_
  go_wp2_with fail
  exact bodyPost_ret (v := .int .i64 (cmpB a b)) (by simp [results, Try.results48, go_sem]) rfl ⟨rfl, HF.out⟩

theorem sortId_any {w : World} {B : Nat} {v : Value} (M : List IdB) (h : OwnL idE w B v M) (hB : B ≤ w.heap.size) (hl : M.length < 1000000000) :
    Calls Try.prog 36 #[v, .func (.func 48) #[] #[]] w fun e w' => e = .returned (.tuple #[]) ∧ OwnL idE w' B v (sortB M) ∧ Below B w w' := by
  have hh : w.ownsRow B 31 32 v M.length (M.flatMap idE.enc) := h
  rcases hh.2 with ⟨rfl, h0⟩ | ⟨g, cap, cur, rfl, hgB, hg, hc, hm, hs, ht⟩
  · obtain rfl : M = [] := List.eq_nil_of_length_eq_zero h0
    exact (AnyF.slices_SortFunc_none Try.sortId none 0 _ w).mono fun e w' ⟨he, hw⟩ => ⟨he, by rw [hw, show sortB [] = [] from by simp [sortB]]; exact h, hw ▸ Below.refl _ _⟩
  · have eg : ∀ args w, (callFunc 48 args).run Try.prog w = .ok (.enter 48 args) w := enters_of Try.func48 (by kernel_rfl) rfl
    have hcon := AnyQ.slices_SortFunc_total Try.sortId 32 isAggId sizeOfId idE.enc idE.len idE.one cmpB swoB 48 #[] g 0 cap M.toArray w eg (fun _ _ _ _ x y => cmpId x y _) (holdsK_of idE M hg ht) (Array.getElem?_eq_some_iff.1 hg).1 (by rw [List.size_toArray]; omega) cmpB_total
    rw [List.size_toArray] at hcon
    refine hcon.mono ?_
    rintro e w' ⟨rfl, n, os, rfl⟩
    have hp : (sortB M).length = M.length := (List.mergeSort_perm M _).length_eq
    obtain ⟨h1, h2⟩ := own_sorted idE (n := n) (os := os) M (sortB M) hp hgB hg hc hm hs
    exact ⟨rfl, h1, h2⟩


end Go.Proofs.Ytjjanjhoaiannaa

namespace Go.Proofs.Ytjjanjhoaiannaa
open Go.Shelf Go.RowKit Go.Lib Go.Sort
set_option linter.unusedVariables false
set_option linter.unusedSimpArgs false

theorem grow_drewN' (w : World) (os : Array Obj) (q : Nat) : (grow w os).drewN q = grow (w.drewN q) os := rfl
def RowV.tw (R : RowV) : Tw := ⟨R.id, R.date, R.refs⟩
set_option maxRecDepth 100000 in
set_option maxHeartbeats 2000000 in
theorem cmpRow (a b : RowV) (w : World) : Calls Try.prog 41 #[rowv a, rowv b] w fun e w' => e = .returned (.int .i64 (cmpT a.tw b.tw)) ∧ ∃ q os', w' = grow (w.drewN q) os' := by
  obtain ⟨w1, hw1⟩ : ∃ w1, w.alloc (.cells a.cells.toArray 36) = w1 := ⟨_, rfl⟩
  obtain ⟨w2, hw2⟩ : ∃ w2, w1.alloc (.cells b.cells.toArray 36) = w2 := ⟨_, rfl⟩
  have hx1 : w1.heap[w.heap.size]? = some (.cells a.cells.toArray 36 (0, 0)) := by rw [← hw1]; exact heap_alloc_new _ _
  have hx2 : w2.heap[w1.heap.size]? = some (.cells b.cells.toArray 36 (0, 0)) := by rw [← hw2]; exact heap_alloc_new _ _
  have hb2 : Below w1.heap.size w1 w2 := hw2 ▸ (Below.refl _ _).alloc (Nat.le_refl _) _
  have hx1 := (hb2.block _ (Array.getElem?_eq_some_iff.1 hx1).1).trans hx1
  have r1 := range_block hx1
  have r2 := range_block hx2
  have c1 := (row_mid r1).1
  have c2 := (row_mid r2).1
  rw [Nat.zero_add] at c1 c2
  have H1 := Lib.hid (row_id r1)
  have H2 := Lib.hid (row_id r2)
  have hg : w2 = grow w #[.cells a.cells.toArray 36, .cells b.cells.toArray 36] := by
    rw [← hw2, ← hw1, alloc_eq_grow, alloc_eq_grow, grow_grow]
    rfl
  have HG := Lib.hid hg


  obtain ⟨da, hda⟩ : ∃ d, a.date = d := ⟨_, rfl⟩
  obtain ⟨db, hdb⟩ : ∃ d, b.date = d := ⟨_, rfl⟩
  obtain ⟨C, hC⟩ : ∃ C, cmpT a.tw b.tw = C := ⟨_, rfl⟩
  have hC' : cmpT a.tw b.tw = (if da = db then cmpB a.id b.id else if da < db then -1 else 1) := by rw [← hda, ← hdb]; rfl
  rw [hC] at hC' ⊢
  rw [hda] at c1
  rw [hdb] at c2
  have HC := Lib.hid hC'
  unfold rowv
  clear hx1 hx2 hb2 r1 r2 hg hda hdb hC hC'
  by_cases hd : da = db
  · have hne : (da != db) = false := by simpa using hd
    have HE := Lib.hid (HC.out.trans (if_pos hd))
    clear hd HC
    go_enter Try.func41, Try.ntmps41
    go_wp2_with (with_reducible refine wpList_load_mid rfl 31 (.tmp 15) rfl w.heap.size 0 rfl (bvs a.id.1) _ H1.out Try.underlying31 rfl (sizeId a.id) ?_; refine Stop.on ?_)
    refine Stop.go ?_
    try simp only [Act.put, List.setIfInBounds_toArray, List.set_cons_zero, List.set_cons_succ]
    go_wp2_with (with_reducible refine wpList_load_mid rfl 31 (.tmp 17) rfl w1.heap.size 0 rfl (bvs b.id.1) _ H2.out Try.underlying31 rfl (sizeId b.id) ?_; refine Stop.on ?_)
    refine Stop.go ?_
    try simp only [Act.put, List.setIfInBounds_toArray, List.set_cons_zero, List.set_cons_succ]
    go_wp2_with fail
    refine (cmpId a.id b.id w2).mono ?_
    rintro e w3 ⟨rfl, q, os, rfl⟩
    go_wp2_with fail
    exact bodyPost_ret (v := .int .i64 (cmpB a.id b.id)) (by simp [results, Try.results41, go_sem]) rfl ⟨by rw [HE.out], q, #[.cells a.cells.toArray 36, .cells b.cells.toArray 36] ++ os, by rw [HG.out, grow_drewN', grow_grow]⟩
  · have hne : (da != db) = true := by simpa using hd
    have HE := Lib.hid (HC.out.trans (if_neg hd))
    clear HC
    by_cases hlt : da < db
    · have HE2 := Lib.hid (HE.out.trans (if_pos hlt))
      clear hd HE
      go_enter Try.func41, Try.ntmps41
      go_wp2_with fail
      exact bodyPost_ret (v := .int .i64 (-1)) (by simp [results, Try.results41, go_sem]) rfl ⟨by rw [HE2.out], 0, _, HG.out⟩
    · have HE2 := Lib.hid (HE.out.trans (if_neg hlt))
      clear hd HE
      go_enter Try.func41, Try.ntmps41
      go_wp2_with fail
      exact bodyPost_ret (v := .int .i64 1) (by simp [results, Try.results41, go_sem]) rfl ⟨by rw [HE2.out], 0, _, HG.out⟩
end Go.Proofs.Ytjjanjhoaiannaa

namespace Go.Proofs.Ytjjanjhoaiannaa
open Go.Shelf Go.RowKit Go.Lib Go.Sort
set_option linter.unusedVariables false
set_option linter.unusedSimpArgs false

theorem cb_same : ∀ (k : Nat) (a b : List UInt8), a.take k = b.take k → a.length = b.length → compareBytes a b = compareBytes (a.drop k) (b.drop k)
  | 0, a, b, _, _ => rfl
  | k + 1, [], b, _, hl => by
    have : b = [] := List.eq_nil_of_length_eq_zero hl.symm
    subst this
    rfl
  | k + 1, x :: a, [], _, hl => by cases hl
  | k + 1, x :: a, y :: b, h, hl => by
    simp only [List.take_succ_cons, List.cons.injEq] at h
    obtain ⟨rfl, h⟩ := h
    rw [List.drop_succ_cons, List.drop_succ_cons, ← cb_same k a b h (by simpa [bv] using hl)]
    show (if x < x then (-1 : Int) else if x < x then 1 else compareBytes a b) = _
    rw [if_neg (UInt8.lt_irrefl x), if_neg (UInt8.lt_irrefl x)]
theorem cmpB_at {a b : IdB} {k : Nat} (h : a.1.take k = b.1.take k) (hk : k < 32) : cmpB a b = if a.1[k]'(by rw [a.2]; exact hk) < b.1[k]'(by rw [b.2]; exact hk) then -1 else if b.1[k]'(by rw [b.2]; exact hk) < a.1[k]'(by rw [a.2]; exact hk) then 1 else compareBytes (a.1.drop (k + 1)) (b.1.drop (k + 1)) := by
  have h1 := cb_same k a.1 b.1 h (by rw [a.2, b.2])
  have ea : a.1.drop k = _ := List.drop_eq_getElem_cons (l := a.1) (i := k) (by rw [a.2]; exact hk)
  have eb : b.1.drop k = _ := List.drop_eq_getElem_cons (l := b.1) (i := k) (by rw [b.2]; exact hk)
  rw [ea, eb] at h1
  exact h1
end Go.Proofs.Ytjjanjhoaiannaa

namespace Go.Proofs.Ytjjanjhoaiannaa
open Go.Shelf Go.RowKit Go.Lib Go.Sort
set_option linter.unusedVariables false
set_option linter.unusedSimpArgs false
def Try.sortInt_ren : Go.Shelf.Ren := ⟨fun | 6 => 39 | 15 => 45 | 14 => 47 | 28 => 58 | 29 => 59 | 20 => 60 | 21 => 61 | 22 => 62 | 23 => 63 | 24 => 64 | 25 => 65 | 26 => 66 | 27 => 67 | 46 => 73 | 47 => 69 | 48 => 70 | 49 => 74 | 50 => 75 | 57 => 77 | n => n, fun | 22 => 73 | 24 => 3 | 25 => 91 | 3 => 3 | 39 => 94 | 0 => 0 | 53 => 104 | 55 => 106 | 4 => 4 | 46 => 98 | 45 => 97 | 50 => 79 | 5 => 5 | 9 => 9 | 66 => 112 | 70 => 116 | 76 => 120 | 77 => 121 | n => n, fun | n => n⟩
theorem Try.sortInt : Go.Proofs.SlLaysF.n6 Try.prog Try.sortInt_ren := {
  mixed := by kernel_rfl
  f6 := ⟨Try.f39.name, by decide, Try.func39.trans (congrArg some (by kernel_rfl))⟩
  f14 := ⟨Try.f47.name, by decide, Try.func47.trans (congrArg some (by kernel_rfl))⟩
  f15 := Try.func45.trans (congrArg some (by kernel_rfl))
  f20 := ⟨Try.f60.name, by decide, Try.func60.trans (congrArg some (by kernel_rfl))⟩
  f21 := ⟨Try.f61.name, by decide, Try.func61.trans (congrArg some (by kernel_rfl))⟩
  f22 := ⟨Try.f62.name, by decide, Try.func62.trans (congrArg some (by kernel_rfl))⟩
  f23 := ⟨Try.f63.name, by decide, Try.func63.trans (congrArg some (by kernel_rfl))⟩
  f24 := ⟨Try.f64.name, by decide, Try.func64.trans (congrArg some (by kernel_rfl))⟩
  f25 := ⟨Try.f65.name, by decide, Try.func65.trans (congrArg some (by kernel_rfl))⟩
  f26 := ⟨Try.f66.name, by decide, Try.func66.trans (congrArg some (by kernel_rfl))⟩
  f27 := ⟨Try.f67.name, by decide, Try.func67.trans (congrArg some (by kernel_rfl))⟩
  f28 := Try.func58.trans (congrArg some (by kernel_rfl))
  f29 := Try.func59.trans (congrArg some (by kernel_rfl))
  f46 := ⟨Try.f73.name, by decide, Try.func73.trans (congrArg some (by kernel_rfl))⟩
  f47 := Try.func69.trans (congrArg some (by kernel_rfl))
  f48 := Try.func70.trans (congrArg some (by kernel_rfl))
  f49 := ⟨Try.f74.name, by decide, Try.func74.trans (congrArg some (by kernel_rfl))⟩
  f50 := ⟨Try.f75.name, by decide, Try.func75.trans (congrArg some (by kernel_rfl))⟩
  f57 := ⟨Try.f77.name, by decide, Try.func77.trans (congrArg some (by kernel_rfl))⟩
  t0 := Try.underlying0
  a0 := Try.isAgg0
  z0 := Try.sizeOf0
  v0 := Try.zeroValue0
  t3 := Try.underlying3
  a3 := Try.isAgg3
  z3 := Try.sizeOf3
  v3 := Try.zeroValue3
  t4 := Try.underlying4
  a4 := Try.isAgg4
  z4 := Try.sizeOf4
  v4 := Try.zeroValue4
  t5 := Try.underlying5
  a5 := Try.isAgg5
  z5 := Try.sizeOf5
  v5 := Try.zeroValue5
  t9 := Try.underlying9
  a9 := Try.isAgg9
  z9 := Try.sizeOf9
  v9 := Try.zeroValue9
  t22 := Try.underlying73
  a22 := Try.isAgg73
  z22 := Try.sizeOf73
  v22 := Try.zeroValue73
  a24 := Try.isAgg3
  z24 := Try.sizeOf3
  t25 := Try.underlying91
  a25 := Try.isAgg91
  z25 := Try.sizeOf91
  v25 := Try.zeroValue91
  t39 := Try.underlying94
  a39 := Try.isAgg94
  z39 := Try.sizeOf94
  v39 := Try.zeroValue94
  t45 := Try.underlying97
  a45 := Try.isAgg97
  z45 := Try.sizeOf97
  v45 := Try.zeroValue97
  t46 := Try.underlying98
  a46 := Try.isAgg98
  z46 := Try.sizeOf98
  v46 := Try.zeroValue98
  t50 := Try.underlying79
  a50 := Try.isAgg79
  z50 := Try.sizeOf79
  v50 := Try.zeroValue79
  t53 := Try.underlying104
  a53 := Try.isAgg104
  z53 := Try.sizeOf104
  v53 := Try.zeroValue104
  t55 := Try.underlying106
  a55 := Try.isAgg106
  z55 := Try.sizeOf106
  v55 := Try.zeroValue106
  t66 := Try.underlying112
  a66 := Try.isAgg112
  z66 := Try.sizeOf112
  v66 := Try.zeroValue112
  t70 := Try.underlying116
  a70 := Try.isAgg116
  z70 := Try.sizeOf116
  v70 := Try.zeroValue116
  t76 := Try.underlying120
  a76 := Try.isAgg120
  z76 := Try.sizeOf120
  v76 := Try.zeroValue120
  t77 := Try.underlying121
  a77 := Try.isAgg121
  z77 := Try.sizeOf121
  v77 := Try.zeroValue121 }
def Try.sortInt0_ren : Go.Shelf.Ren := ⟨fun | 6 => 39 | 15 => 45 | 14 => 47 | 28 => 58 | 29 => 59 | 20 => 60 | 21 => 61 | 22 => 62 | 23 => 63 | 24 => 64 | 25 => 65 | 26 => 66 | 27 => 67 | 46 => 73 | 47 => 69 | 48 => 70 | 49 => 74 | 50 => 75 | 57 => 77 | n => n, fun | 22 => 73 | 24 => 3 | 25 => 91 | 3 => 3 | 39 => 94 | 0 => 0 | 53 => 104 | 55 => 106 | 4 => 4 | 46 => 98 | 45 => 97 | 50 => 79 | 5 => 5 | 9 => 9 | 66 => 112 | 70 => 116 | 76 => 120 | 77 => 121 | n => n, fun | n => n⟩
theorem Try.sortInt0 : Go.Proofs.SlLaysF0.n6 Try.prog Try.sortInt0_ren := {
  mixed := by kernel_rfl
  f6 := ⟨Try.f39.name, by decide, Try.func39.trans (congrArg some (by kernel_rfl))⟩
  f14 := ⟨Try.f47.name, by decide, Try.func47.trans (congrArg some (by kernel_rfl))⟩
  f15 := Try.func45.trans (congrArg some (by kernel_rfl))
  f20 := ⟨Try.f60.name, by decide, Try.func60.trans (congrArg some (by kernel_rfl))⟩
  f21 := ⟨Try.f61.name, by decide, Try.func61.trans (congrArg some (by kernel_rfl))⟩
  f22 := ⟨Try.f62.name, by decide, Try.func62.trans (congrArg some (by kernel_rfl))⟩
  f23 := ⟨Try.f63.name, by decide, Try.func63.trans (congrArg some (by kernel_rfl))⟩
  f24 := ⟨Try.f64.name, by decide, Try.func64.trans (congrArg some (by kernel_rfl))⟩
  f25 := ⟨Try.f65.name, by decide, Try.func65.trans (congrArg some (by kernel_rfl))⟩
  f26 := ⟨Try.f66.name, by decide, Try.func66.trans (congrArg some (by kernel_rfl))⟩
  f27 := ⟨Try.f67.name, by decide, Try.func67.trans (congrArg some (by kernel_rfl))⟩
  f28 := Try.func58.trans (congrArg some (by kernel_rfl))
  f29 := Try.func59.trans (congrArg some (by kernel_rfl))
  f46 := ⟨Try.f73.name, by decide, Try.func73.trans (congrArg some (by kernel_rfl))⟩
  f47 := Try.func69.trans (congrArg some (by kernel_rfl))
  f48 := Try.func70.trans (congrArg some (by kernel_rfl))
  f49 := ⟨Try.f74.name, by decide, Try.func74.trans (congrArg some (by kernel_rfl))⟩
  f50 := ⟨Try.f75.name, by decide, Try.func75.trans (congrArg some (by kernel_rfl))⟩
  f57 := ⟨Try.f77.name, by decide, Try.func77.trans (congrArg some (by kernel_rfl))⟩
  t0 := Try.underlying0
  a0 := Try.isAgg0
  z0 := Try.sizeOf0
  v0 := Try.zeroValue0
  t3 := Try.underlying3
  a3 := Try.isAgg3
  z3 := Try.sizeOf3
  v3 := Try.zeroValue3
  t4 := Try.underlying4
  a4 := Try.isAgg4
  z4 := Try.sizeOf4
  v4 := Try.zeroValue4
  t5 := Try.underlying5
  a5 := Try.isAgg5
  z5 := Try.sizeOf5
  v5 := Try.zeroValue5
  t9 := Try.underlying9
  a9 := Try.isAgg9
  z9 := Try.sizeOf9
  v9 := Try.zeroValue9
  t22 := Try.underlying73
  a22 := Try.isAgg73
  z22 := Try.sizeOf73
  v22 := Try.zeroValue73
  t25 := Try.underlying91
  a25 := Try.isAgg91
  z25 := Try.sizeOf91
  v25 := Try.zeroValue91
  t39 := Try.underlying94
  a39 := Try.isAgg94
  z39 := Try.sizeOf94
  v39 := Try.zeroValue94
  t45 := Try.underlying97
  a45 := Try.isAgg97
  z45 := Try.sizeOf97
  v45 := Try.zeroValue97
  t46 := Try.underlying98
  a46 := Try.isAgg98
  z46 := Try.sizeOf98
  v46 := Try.zeroValue98
  t50 := Try.underlying79
  a50 := Try.isAgg79
  z50 := Try.sizeOf79
  v50 := Try.zeroValue79
  t53 := Try.underlying104
  a53 := Try.isAgg104
  z53 := Try.sizeOf104
  v53 := Try.zeroValue104
  t55 := Try.underlying106
  a55 := Try.isAgg106
  z55 := Try.sizeOf106
  v55 := Try.zeroValue106
  t66 := Try.underlying112
  a66 := Try.isAgg112
  z66 := Try.sizeOf112
  v66 := Try.zeroValue112
  t70 := Try.underlying116
  a70 := Try.isAgg116
  z70 := Try.sizeOf116
  v70 := Try.zeroValue116
  t76 := Try.underlying120
  a76 := Try.isAgg120
  z76 := Try.sizeOf120
  v76 := Try.zeroValue120
  t77 := Try.underlying121
  a77 := Try.isAgg121
  z77 := Try.sizeOf121
  v77 := Try.zeroValue121 }

theorem grow_below (w : World) (q : Nat) (os : Array Obj) : Below w.heap.size w (grow (w.drewN q) os) := by
  refine ⟨rfl, rfl, rfl, ?_, fun k hk => ?_⟩
  · show w.heap.size ≤ (w.heap ++ os).size
    rw [Array.size_append]; omega
  · show (w.heap ++ os)[k]? = _
    rw [Array.getElem?_append_left hk]
set_option maxRecDepth 100000 in
set_option maxHeartbeats 2000000 in
theorem cmpArr {w : World} {bx : Nat} {v : Value} {L : List RowV} (hbx : w.heap[bx]? = some (.cells #[v] 22 (0, 0))) (hv : RowsAt w v L) (hl : L.length < 1000000) (x y : Fin L.length) :
    Calls Try.prog 40 #[.int .i64 (x.val : Int), .int .i64 (y.val : Int), .pointer (some ⟨bx, 0, none⟩)] w fun e w' => e = .returned (.int .i64 (cmpT L[x].tw L[y].tw)) ∧ ∃ q os', w' = grow (w.drewN q) os' := by
  obtain ⟨va, vc, rfl⟩ := hv.l.form
  obtain ⟨g, off, rfl, hg, _⟩ := hv.l.get x.isLt
  have HC := Lib.hid (show ∀ w', (∃ q os, w' = grow (w.drewN q) os) → w'.cell? ⟨bx, 0, none⟩ = some (.slice (some ⟨g, off, none⟩) L.length vc) from fun w' ⟨q, os, hw⟩ => by
    have hb := grow_below w q os
    rw [← hw] at hb
    rw [cell_of_row _ _ _ _ _ _ ((hb.block _ (Array.getElem?_eq_some_iff.1 hbx).1).trans hbx)]
    rfl)
  have HR := Lib.hid (show ∀ w', (∃ q os, w' = grow (w.drewN q) os) → ∀ z : Fin L.length, w'.rangeAt g (off + z.val * 83) L[z].cells from fun w' ⟨q, os, hw⟩ z => by
    have hb := grow_below w q os
    rw [← hw] at hb
    obtain ⟨g', off', e, hg', hr⟩ := hv.l.get z.isLt
    cases e
    exact range_below hr hg hb)
  obtain ⟨N, hN⟩ : ∃ N, L.length = N := ⟨_, rfl⟩
  have hxI : (x.val : Int) < (L.length : Int) := by have := x.isLt; omega
  have hyI : (y.val : Int) < (L.length : Int) := by have := y.isLt; omega
  have hx0 : (0 : Int) ≤ (x.val : Int) := by omega
  have hy0 : (0 : Int) ≤ (y.val : Int) := by omega
  clear hbx hv hg hN
  go_enter Try.func40, Try.ntmps40
  go_wp2_with fail
  refine wp_region_noPanic ?_
  refine wp_region_H (fun wx => ∃ q os, wx = grow (w.drewN q) os) (by kernel_rfl) ?_
  have hS0 : (fun wx => ∃ q os, wx = grow (w.drewN q) os) w.drew := ⟨1, #[], by rw [grow_empty]; rfl⟩
  refine wpAnyH_takeI (i := 0) (v := ?v1) rfl (by kernel_rfl) (by kernel_rfl) (by kernel_rfl) (fun _ _ _ h => h) (yieldsIf_run rfl (fun w' hw' => ?y1)) hS0 ?_
  case y1 => (have hc0 := HC.out w' hw'; clear hw'; first | (go_simp; rfl) | (go_simp; done))
  simp only [Act.put, List.setIfInBounds_toArray, List.set_cons_zero, List.set_cons_succ]
  refine wpAnyH_takeI (i := 1) (v := ?v2) rfl (by kernel_rfl) (by kernel_rfl) (by kernel_rfl) (fun _ _ _ h => h) (yieldsIf_run rfl (fun w' hw' => ?y2)) hS0 ?_
  case y2 => first | (go_simp; rfl) | (go_simp; done) | rfl
  simp only [Act.put, List.setIfInBounds_toArray, List.set_cons_zero, List.set_cons_succ]
  refine wpAnyH_takeI (i := 2) (v := ?v3) rfl (by kernel_rfl) (by kernel_rfl) (by kernel_rfl) (fun _ _ _ h => h) (yieldsIf_run rfl (fun w' hw' => ?y3)) hS0 ?_
  case y3 => first | (go_simp; rfl) | (go_simp; done) | rfl
  simp only [Act.put, List.setIfInBounds_toArray, List.set_cons_zero, List.set_cons_succ]
  refine wpAnyH_takeI (i := 3) (v := .agg L[x].cells.toArray) rfl (by kernel_rfl) (by kernel_rfl) (by kernel_rfl) (fun _ _ _ h => h) (yieldsIf_load_mid rfl 36 (.tmp 8) rfl g (off + x.val * 83) rfl L[x].cells _ (fun w' hw' => HR.out w' hw' x) Try.underlying36 rfl (sizeRow L[x])) hS0 ?_
  simp only [Act.put, List.setIfInBounds_toArray, List.set_cons_zero, List.set_cons_succ]
  refine wpAnyH_takeI (i := 4) (v := ?v4) rfl (by kernel_rfl) (by kernel_rfl) (by kernel_rfl) (fun _ _ _ h => h) (yieldsIf_run rfl (fun w' hw' => ?y4)) hS0 ?_
  case y4 => (have hc0 := HC.out w' hw'; clear hw'; first | (go_simp; rfl) | (go_simp; done))
  simp only [Act.put, List.setIfInBounds_toArray, List.set_cons_zero, List.set_cons_succ]
  refine wpAnyH_takeI (i := 5) (v := ?v5) rfl (by kernel_rfl) (by kernel_rfl) (by kernel_rfl) (fun _ _ _ h => h) (yieldsIf_run rfl (fun w' hw' => ?y5)) hS0 ?_
  case y5 => first | (go_simp; rfl) | (go_simp; done) | rfl
  simp only [Act.put, List.setIfInBounds_toArray, List.set_cons_zero, List.set_cons_succ]
  refine wpAnyH_takeI (i := 6) (v := ?v6) rfl (by kernel_rfl) (by kernel_rfl) (by kernel_rfl) (fun _ _ _ h => h) (yieldsIf_run rfl (fun w' hw' => ?y6)) hS0 ?_
  case y6 => first | (go_simp; rfl) | (go_simp; done) | rfl
  simp only [Act.put, List.setIfInBounds_toArray, List.set_cons_zero, List.set_cons_succ]
  refine wpAnyH_takeI (i := 7) (v := .agg L[y].cells.toArray) rfl (by kernel_rfl) (by kernel_rfl) (by kernel_rfl) (fun _ _ _ h => h) (yieldsIf_load_mid rfl 36 (.tmp 12) rfl g (off + y.val * 83) rfl L[y].cells _ (fun w' hw' => HR.out w' hw' y) Try.underlying36 rfl (sizeRow L[y])) hS0 ?_
  simp only [Act.put, List.setIfInBounds_toArray, List.set_cons_zero, List.set_cons_succ]
  refine wpAnyH_do (i := 8) (by kernel_rfl) rfl rfl (fun K hK => ?_)
  go_simp
  go_at_call 41
  refine (cmpRow L[x] L[y] _).mono ?_
  rintro e wc ⟨rfl, q', os', rfl⟩
  have hS8 : (fun wx => ∃ q os, wx = grow (w.drewN q) os) (grow (w.drew.drewN q') os') := by
    obtain ⟨q0, os0, hq0⟩ := hS0
    exact ⟨q0 + q', os0 ++ os', by rw [hq0, grow_drewN', World.drewN_drewN, grow_grow]⟩
  refine hK _ _ (hS8) ?_
  clear hK K
  try simp only [Act.put, List.setIfInBounds_toArray, List.set_cons_zero, List.set_cons_succ]
  refine wpAnyH_takeI (i := 9) (v := ?v7) rfl (by kernel_rfl) (by kernel_rfl) (by kernel_rfl) (fun _ _ _ h => h) (yieldsIf_run rfl (fun w' hw' => ?y7)) hS8 ?_
  case y7 => first | (go_simp; rfl) | (go_simp; done) | rfl
  simp only [Act.put, List.setIfInBounds_toArray, List.set_cons_zero, List.set_cons_succ]
  refine wpAnyH_done (by kernel_rfl) ?_ _
  refine NoPanic.normal ?_
  go_wp2_with fail
  exact bodyPost_ret (v := .int .i64 (cmpT L[x].tw L[y].tw)) (by simp [results, Try.results40, go_sem]) rfl ⟨rfl, _, _, rfl⟩
/-- Lists of numbers. -/
def natE : ElemTy Try.prog 73 3 Nat where
  enc n := [.int .i64 (n : Int)]
  k := 1
  hu := Try.underlying73
  hi := ⟨.int .i64 0, 8, by kernel_rfl, by kernel_rfl, by decide⟩
  hk := by decide
  len _ := rfl
  one n := fun v hv => by obtain rfl := List.mem_singleton.1 hv; rfl
theorem natE_flat : ∀ M : List Nat, M.flatMap natE.enc = M.map (fun n : Nat => Value.int .i64 (n : Int))
  | [] => rfl
  | n :: M => by rw [List.flatMap_cons, natE_flat M]; rfl
theorem sw1_below {α : Type} [Inhabited α] {enc : α → Value} {w : World} {B g m : Nat} {dk : Array α} {os : Array Obj} (hg : B ≤ g) (hB : B ≤ w.heap.size) : Below B w (sortWorld enc w g 0 m dk os) := by
  have hbp := Lib.below_putRow (B := B) (q := m) (d := dk) (enc := enc) (Below.refl B w) hg
  have hsz : (putRow enc (Sort.ahead w m) g 0 dk).heap.size = w.heap.size := by rw [size_putRow]; rfl
  refine ⟨hbp.os, hbp.tape, hbp.output, ?_, fun k hk => ?_⟩
  · show w.heap.size ≤ ((putRow enc (Sort.ahead w m) g 0 dk).heap ++ os).size
    rw [Array.size_append, hsz]; omega
  · show ((putRow enc (Sort.ahead w m) g 0 dk).heap ++ os)[k]? = _
    rw [Array.getElem?_append_left (by rw [hsz]; omega)]
    exact hbp.block k hk
theorem sw1_chg {α : Type} [Inhabited α] {enc : α → Value} {w : World} {g m n cap : Nat} {dk : Array α} {os : Array Obj} : Chg (fun k => (Value.slice (some ⟨g, 0, none⟩) n cap).ownBlock = some k) w (sortWorld enc w g 0 m dk os) := by
  have hsz : (putRow enc (Sort.ahead w m) g 0 dk).heap.size = w.heap.size := by rw [size_putRow]; rfl
  refine ⟨rfl, rfl, rfl, ?_, fun k hk hne => ?_⟩
  · show w.heap.size ≤ ((putRow enc (Sort.ahead w m) g 0 dk).heap ++ os).size
    rw [Array.size_append, hsz]; omega
  · show ((putRow enc (Sort.ahead w m) g 0 dk).heap ++ os)[k]? = _
    rw [Array.getElem?_append_left (by rw [hsz]; omega)]
    have hkg : g ≠ k := fun e => hne (by rw [e]; rfl)
    simp [putRow, mapBlock, Sort.ahead, Array.getElem?_modify, hkg]
/-- The articles' comparison by their indices. -/
def cfF (L : List RowV) (x y : Fin L.length) : Int := cmpT L[x].tw L[y].tw
theorem swoF (L : List RowV) : SWO (ltOf (cfF L)) where
  irrefl x := swoT'.irrefl L[x].tw
  trans x y z h1 h2 := swoT'.trans L[x].tw L[y].tw L[z].tw h1 h2
  ntrans x y z h1 h2 := swoT'.ntrans L[x].tw L[y].tw L[z].tw h1 h2
def srtF (L : List RowV) (M : List (Fin L.length)) : List (Fin L.length) := M.mergeSort fun x y => !(ltOf (cfF L) y x)
theorem fin_eq {L : List RowV} (hn : (L.map (·.id)).Nodup) (x y : Fin L.length) (h1 : ltOf (cfF L) x y = false) (h2 : ltOf (cfF L) y x = false) : x = y := by
  unfold ltOf cfF at h1 h2
  simp only [decide_eq_false_iff_not] at h1 h2
  have hs := cmpT_swap L[x].tw L[y].tw
  have he := (cmpT_eq (a := L[x].tw) (b := L[y].tw) (by omega)).2
  rw [List.nodup_iff_pairwise_ne, List.pairwise_map, List.pairwise_iff_getElem] at hn
  rcases Nat.lt_trichotomy x.val y.val with h | h | h
  · exact absurd he (hn x.val y.val x.isLt y.isLt h)
  · exact Fin.ext h
  · exact absurd he.symm (hn y.val x.val y.isLt x.isLt h)
theorem sortOrd_any {w0 w : World} {B bx : Nat} {rv v : Value} {L : List RowV} (hbx : w0.heap[bx]? = some (.cells #[rv] 22 (0, 0))) (hv : RowsAt w0 rv L) (hb : Below w0.heap.size w0 w) (h0 : w0.heap.size ≤ B) (hB : B ≤ w.heap.size) (hl : L.length < 1000000) (hn : (L.map (·.id)).Nodup) (M : List (Fin L.length)) (h : OwnL natE w B v (M.map (·.val))) (hM : M.length < 1000000) :
    Calls Try.prog 39 #[v, .func (.func 40) #[] #[.pointer (some ⟨bx, 0, none⟩)]] w fun e w' => e = .returned (.tuple #[]) ∧ OwnL natE w' B v ((srtF L M).map (·.val)) ∧ Below B w w' ∧ Chg (fun k => v.ownBlock = some k) w w' := by
  have hh : w.ownsRow B 3 1 v (M.map (·.val)).length ((M.map (·.val)).flatMap natE.enc) := h
  by_cases hne : M = []
  · subst hne
    rcases hh.2 with ⟨rfl, _⟩ | ⟨g, cap, cur, rfl, _⟩
    · exact (AnyF.slices_SortFunc_none Try.sortInt0 none 0 _ w).mono fun e w' ⟨he, hw⟩ => ⟨he, by rw [hw, show srtF L [] = [] from by simp [srtF]]; exact h, hw ▸ Below.refl _ _, hw ▸ Chg.refl _ _⟩
    · exact (AnyF.slices_SortFunc_none Try.sortInt0 (some ⟨g, 0, none⟩) cap _ w).mono fun e w' ⟨he, hw⟩ => ⟨he, by rw [hw, show srtF L [] = [] from by simp [srtF]]; exact h, hw ▸ Below.refl _ _, hw ▸ Chg.refl _ _⟩
  · haveI : Inhabited (Fin L.length) := ⟨M.head hne⟩
    have hmap : (M.map (·.val)).flatMap natE.enc = M.map (fun i : Fin L.length => Value.int .i64 (i.val : Int)) := by rw [natE_flat, List.map_map]; rfl
    have hlen : (M.map (·.val)).length = M.length := List.length_map _
    rw [hmap, hlen] at hh
    have hv0 : v ≠ .slice none 0 0 := fun e => by
      rcases hh.2 with ⟨_, h1⟩ | ⟨g, cap, cur, e1, _⟩
      · exact hne (List.eq_nil_of_length_eq_zero h1)
      · rw [e1] at e; cases e
    obtain ⟨g, cap, rfl, hgB, hgw, hnc, hcm, _, hH⟩ := Lib.holds_of_ownsRow hh hv0
    have hcmp : CmpLays1 Try.prog 40 #[.pointer (some ⟨bx, 0, none⟩)] (fun i : Fin L.length => Value.int .i64 (i.val : Int)) (cfF L) g 0 M.toArray.size w := fun m os dk _ x y => by
      have hbw : Below w0.heap.size w0 (sortWorld (fun i : Fin L.length => Value.int .i64 (i.val : Int)) w g 0 m dk os) := hb.trans ((sw1_below (m := m) (dk := dk) (os := os) hgB hB).mono h0)
      exact cmpArr ((hbw.block _ (Array.getElem?_eq_some_iff.1 hbx).1).trans hbx) (hv.below hbw) hl x y
    have eg : ∀ args w, (callFunc 40 args).run Try.prog w = .ok (.enter 40 args) w := enters_of Try.func40 (by kernel_rfl) rfl
    have hcon := Any.slices_SortFunc_total Try.sortInt (fun i : Fin L.length => Value.int .i64 (i.val : Int)) (fun _ => rfl) (cfF L) (swoF L) 40 #[.pointer (some ⟨bx, 0, none⟩)] g 0 cap M.toArray w eg hcmp hH hgw (by rw [List.size_toArray]; omega) (fin_eq hn)
    rw [List.size_toArray] at hcon
    refine hcon.mono ?_
    rintro e w' ⟨rfl, m, os, rfl⟩
    have hsl : (srtF L M).length = M.length := List.length_mergeSort _
    refine ⟨rfl, ?_, sw1_below hgB hB, sw1_chg⟩
    have hown := Lib.ownsRow_putRow (q := m) (k := M.length) (ys := srtF L M) hh hsl (Nat.le_refl _)
    rw [List.take_of_length_le (by rw [hsl]; exact Nat.le_refl _)] at hown
    have hmap2 : ((srtF L M).map (·.val)).flatMap natE.enc = (srtF L M).map (fun i : Fin L.length => Value.int .i64 (i.val : Int)) := by rw [natE_flat, List.map_map]; rfl
    show World.ownsRow _ B 3 1 _ ((srtF L M).map (·.val)).length _
    rw [hmap2, List.length_map, hsl]
    exact own_kept hown (grow_below _ 0 os)
end Go.Proofs.Ytjjanjhoaiannaa
