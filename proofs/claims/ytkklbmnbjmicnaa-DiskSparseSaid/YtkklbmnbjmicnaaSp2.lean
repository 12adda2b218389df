/- The iterator's word; Sparse itself. -/
import Derived.Test.YtkklbmnbjmicnaaSp1
namespace Go.Proofs.Ytkklbmnbjmicnaa
open Go.RowKit Go.Shelf
set_option linter.unusedVariables false
set_option linter.unusedSimpArgs false

theorem sparse_stops (g n₀ : Nat) (bv : Value) (l : List Nat) (hl : l.length < 1000000) (w : World) (hg : g < w.heap.size) (hn : n₀ ≤ w.heap.size) (hc : w.cell? ⟨g, 0, none⟩ = some bv)
    (hs : ∀ W, Below w.heap.size w W → Calls Try.prog 56 #[bv] W fun e W' => ∃ v, e = .returned v ∧ W'.ownsRow W.heap.size 3 1 v l.length (spV l) ∧ Below W.heap.size W W') :
    SeqStopsK Fence.wide 3 Try.prog 55 #[.pointer (some ⟨g, 0, none⟩)] encN (CellsKept n₀) (fun ys => ys = l) (fun pre => pre <+: l) l.length w := fun lp J Jx W hW hJ _ hY h0 =>
  sparse1_in lp g n₀ bv l hl J Jx hY W (Nat.le_trans hn hW.size) ((hW.cell (p := ⟨g, 0, none⟩) hg).trans hc) hJ (hs W hW) h0

set_option maxRecDepth 100000 in
theorem Sparse_any {w : World} (b : Option Addr) : Calls Try.prog 35 #[.pointer b] w fun e w' => e = .returned (.func (.func 55) #[] #[.pointer (some ⟨w.heap.size, 0, none⟩)]) ∧ w' = w.alloc (.cells #[.pointer b] 23) := by
  go_enter Try.func35, Try.ntmps35
  go_wp2_with fail
  go_ret
  exact ⟨rfl, rfl⟩

/-- Where the power has failed, nothing. -/
theorem sparse_down {w : World} {F : Nat → Prop} {b : Nat} {S : DS} (h : DiskAt w F b S) (hdn : S.down = true) :
    Calls Try.prog 56 #[.pointer (some ⟨b, 0, none⟩)] w fun e w' => e = .returned (.slice none 0 0) ∧ w' = w := by
  obtain ⟨hok, m, pv, hx⟩ := h
  obtain ⟨c0, c1, c2, c3, c4, c5, c6, f⟩ := hx.cells
  rw [hdn] at c6
  clear hx
  go_enter Try.func56, Try.ntmps56
  go_wp2_with fail
  go_ret
  exact ⟨rfl, rfl⟩

end Go.Proofs.Ytkklbmnbjmicnaa
