/- The reference's Sparse where the power has failed. -/
import Derived.Test.YtkklbmnbjmicnaaRef13
namespace Go.Proofs.Ytkklbmnbjmicnaa
open Go.RowKit Go.Shelf
set_option linter.unusedVariables false
set_option linter.unusedSimpArgs false

set_option maxRecDepth 100000 in
set_option maxHeartbeats 2000000 in
theorem ref_sparse_down {w : World} {G : Nat → Prop} {S : DS} {v : Value} (h : RefAt w G S v) (hdn : S.down = true) :
    Calls Try.prog 34 #[v] w fun e w' => e = .returned (.slice none 0 0) ∧ Below w.heap.size w w' := by
  obtain ⟨da, dc, wa, wc, rfl⟩ := h.form
  unfold refV
  rw [hdn]
  obtain ⟨w1, hw1⟩ : ∃ w1, w.alloc (.cells #[.slice da S.dur.length dc, .slice wa S.pend.length wc, .int .i64 (limI S), .bool true, .int .i64 (S.ops : Int)] 45) = w1 := ⟨_, rfl⟩
  have n1 : w1.heap[w.heap.size]? = some (.cells #[.slice da S.dur.length dc, .slice wa S.pend.length wc, .int .i64 (limI S), .bool true, .int .i64 (S.ops : Int)] 45 (0, 0)) := by rw [← hw1]; exact heap_alloc_new w _
  have hb1 : Below w.heap.size w w1 := hw1 ▸ (Below.refl _ _).alloc (Nat.le_refl _) _
  obtain ⟨c0, c1, c2, c3, c4, cf⟩ := cells5 n1
  clear h n1
  go_enter Try.func34, Try.ntmps34
  go_wp2_with fail
  try rw [hw1]
  clear hw1
  go_loopw [3, 4] (fun ov i wr => i = .int .i64 0 ∧ ov = .slice none 0 0 ∧ wr = w1) (fun _ _ _ => 0)
  case atStart => exact ⟨rfl, rfl, rfl⟩
  case round =>
    obtain ⟨rfl, rfl, rfl⟩ := hrel
    by_cases h0 : (0 : Int) < (S.dur.length : Int)
    · go_wp2_with fail
      go_ret
      exact ⟨rfl, hb1⟩
    · go_wp2_with fail
      go_ret
      exact ⟨rfl, hb1⟩

end Go.Proofs.Ytkklbmnbjmicnaa
