/- thread.Compare; the model's order. -/
import Derived.Test.YthfinofmbnfijaaTh1
import Derived.Test.YthfinofmbnfijaaSteps
namespace Go.Proofs.Ythfinofmbnfijaa
open Go.Shelf Go.RowKit Go.Lib Go.Sort
set_option linter.unusedVariables false
set_option linter.unusedSimpArgs false

theorem grow_drewN' (w : World) (os : Array Obj) (q : Nat) : (grow w os).drewN q = grow (w.drewN q) os := rfl
def RowV.tw (R : RowV) : Tw := ⟨R.id, R.date, R.refs⟩
set_option maxRecDepth 100000 in
set_option maxHeartbeats 2000000 in
theorem cmpRow (a b : RowV) (w : World) : Calls Try.prog 25 #[rowv a, rowv b] w fun e w' => e = .returned (.int .i64 (cmpT a.tw b.tw)) ∧ ∃ q os', w' = grow (w.drewN q) os' := by
  obtain ⟨w1, hw1⟩ : ∃ w1, w.alloc (.cells a.cells.toArray 43) = w1 := ⟨_, rfl⟩
  obtain ⟨w2, hw2⟩ : ∃ w2, w1.alloc (.cells b.cells.toArray 43) = w2 := ⟨_, rfl⟩
  have hx1 : w1.heap[w.heap.size]? = some (.cells a.cells.toArray 43 (0, 0)) := by rw [← hw1]; exact heap_alloc_new _ _
  have hx2 : w2.heap[w1.heap.size]? = some (.cells b.cells.toArray 43 (0, 0)) := by rw [← hw2]; exact heap_alloc_new _ _
  have hb2 : Below w1.heap.size w1 w2 := hw2 ▸ (Below.refl _ _).alloc (Nat.le_refl _) _
  have hx1 := (hb2.block _ (Array.getElem?_eq_some_iff.1 hx1).1).trans hx1
  have r1 := range_block hx1
  have r2 := range_block hx2
  have c1 := (row_mid r1).1
  have c2 := (row_mid r2).1
  rw [Nat.zero_add] at c1 c2
  have H1 := Lib.hid (row_id r1)
  have H2 := Lib.hid (row_id r2)
  have hg : w2 = grow w #[.cells a.cells.toArray 43, .cells b.cells.toArray 43] := by
    rw [← hw2, ← hw1, alloc_eq_grow, alloc_eq_grow, grow_grow]
    rfl
  have HG := Lib.hid hg


  obtain ⟨da, hda⟩ : ∃ d, a.date = d := ⟨_, rfl⟩
  obtain ⟨db, hdb⟩ : ∃ d, b.date = d := ⟨_, rfl⟩
  obtain ⟨C, hC⟩ : ∃ C, cmpT a.tw b.tw = C := ⟨_, rfl⟩
  have hC' : cmpT a.tw b.tw = (if da = db then cmpB a.id b.id else if da < db then -1 else 1) := by rw [← hda, ← hdb]; rfl
  rw [hC] at hC' ⊢
  rw [hda] at c1
  rw [hdb] at c2
  have HC := Lib.hid hC'
  unfold rowv
  clear hx1 hx2 hb2 r1 r2 hg hda hdb hC hC'
  by_cases hd : da = db
  · have hne : (da != db) = false := by simpa using hd
    have HE := Lib.hid (HC.out.trans (if_pos hd))
    clear hd HC
    go_enter Try.func25, Try.ntmps25
    go_wp2_with (with_reducible refine wpList_load_mid rfl 35 (.tmp 15) rfl w.heap.size 0 rfl (bvs a.id.1) _ H1.out Try.underlying35 rfl (sizeId a.id) ?_; refine Stop.on ?_)
    refine Stop.go ?_
    try simp only [Act.put, List.setIfInBounds_toArray, List.set_cons_zero, List.set_cons_succ]
    go_wp2_with (with_reducible refine wpList_load_mid rfl 35 (.tmp 17) rfl w1.heap.size 0 rfl (bvs b.id.1) _ H2.out Try.underlying35 rfl (sizeId b.id) ?_; refine Stop.on ?_)
    refine Stop.go ?_
    try simp only [Act.put, List.setIfInBounds_toArray, List.set_cons_zero, List.set_cons_succ]
    go_wp2_with fail
    refine (cmpId a.id b.id w2).mono ?_
    rintro e w3 ⟨rfl, q, os, rfl⟩
    go_wp2_with fail
    exact bodyPost_ret (v := .int .i64 (cmpB a.id b.id)) (by simp [results, Try.results25, go_sem]) rfl ⟨by rw [HE.out], q, #[.cells a.cells.toArray 43, .cells b.cells.toArray 43] ++ os, by rw [HG.out, grow_drewN', grow_grow]⟩
  · have hne : (da != db) = true := by simpa using hd
    have HE := Lib.hid (HC.out.trans (if_neg hd))
    clear HC
    by_cases hlt : da < db
    · have HE2 := Lib.hid (HE.out.trans (if_pos hlt))
      clear hd HE
      go_enter Try.func25, Try.ntmps25
      go_wp2_with fail
      exact bodyPost_ret (v := .int .i64 (-1)) (by simp [results, Try.results25, go_sem]) rfl ⟨by rw [HE2.out], 0, _, HG.out⟩
    · have HE2 := Lib.hid (HE.out.trans (if_neg hlt))
      clear hd HE
      go_enter Try.func25, Try.ntmps25
      go_wp2_with fail
      exact bodyPost_ret (v := .int .i64 1) (by simp [results, Try.results25, go_sem]) rfl ⟨by rw [HE2.out], 0, _, HG.out⟩
end Go.Proofs.Ythfinofmbnfijaa
