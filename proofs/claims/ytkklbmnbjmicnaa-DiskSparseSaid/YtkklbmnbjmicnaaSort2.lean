/- slices.Sort on a row of numbers of the call's own. -/
import Derived.Test.YtkklbmnbjmicnaaSort
import Derived.Sort.OwnSortedInts
import Derived.Lib.OwnBridge
namespace Go.Proofs.Ytkklbmnbjmicnaa
open Go.RowKit Go.Shelf Go.Sort
set_option linter.unusedVariables false
set_option linter.unusedSimpArgs false

def sortN (l : List Nat) : List Nat := l.mergeSort (fun a b => decide (a ≤ b))
theorem sortN_int (l : List Nat) : (l.map (fun n : Nat => (n : Int))).mergeSort (fun a b => decide (a ≤ b)) = (sortN l).map (fun n : Nat => (n : Int)) := by
  unfold sortN
  refine (List.map_mergeSort (fun a _ b _ => ?_)).symm
  simp
theorem sortN_length (l : List Nat) : (sortN l).length = l.length := List.length_mergeSort _
theorem spV_int (l : List Nat) : spV l = (l.map (fun n : Nat => (n : Int))).map (Value.int .i64) := by simp [spV]

theorem sort_row {w : World} {B n g cap : Nat} (xs : List Nat) (h : w.ownsRow B 3 1 (.slice (some ⟨g, 0, none⟩) n cap) n (spV xs)) (hn : n < 1000000000) :
    Calls Try.prog 60 #[.slice (some ⟨g, 0, none⟩) n cap] w fun e w' =>
      e = .returned (.tuple #[]) ∧ w'.ownsRow B 3 1 (.slice (some ⟨g, 0, none⟩) n cap) n (spV (sortN xs)) ∧ Below B w w' := by
  rw [spV_int] at h
  obtain ⟨g0, cap0, e0, hB, hg, hncap, hcap, hl, hH⟩ := Lib.holds_of_ownsRow h (by simp)
  simp only [Value.slice.injEq, Option.some.injEq, Addr.mk.injEq, and_true, true_and] at e0
  obtain ⟨rfl, rfl⟩ := e0
  have hl' : (xs.map (fun n : Nat => (n : Int))).length = n := hl
  have hs := sort_any g 0 cap (xs.map (fun n : Nat => (n : Int))) w hH hg (by omega)
  rw [hl'] at hs
  refine hs.mono ?_
  rintro e w' ⟨he, m, os, rfl⟩
  have hown := Lib.ownsRow_putRow (q := m) (k := n) (ys := (xs.map (fun n : Nat => (n : Int))).mergeSort (fun a b => decide (a ≤ b))) h (by rw [List.length_mergeSort]; exact hl') (Nat.le_refl _)
  refine ⟨he, ?_, ?_⟩
  · rcases h.2 with ⟨e1, _⟩ | ⟨g', cap', cur, e1, hb, hg', h1, h2, h3, _⟩
    · cases e1
    · simp only [Value.slice.injEq, Option.some.injEq, Addr.mk.injEq, and_true, true_and] at e1
      obtain ⟨rfl, rfl⟩ := e1
      have := ownsRow_sortedI (w := w) (base := B) (n := m) (os := os) (ss := xs.map (fun n : Nat => (n : Int))) (ts := (xs.map (fun n : Nat => (n : Int))).mergeSort (fun a b => decide (a ≤ b))) (by rw [List.length_mergeSort]) hB hg' (by rw [hl']; exact h1) h2 h3
      rw [hl', sortN_int, ← spV_int] at this
      rw [sortN_int]
      exact this
  · have hbp := Lib.below_putRow (B := B) (q := m) (d := ((xs.map (fun n : Nat => (n : Int))).mergeSort (fun a b => decide (a ≤ b))).toArray) (enc := Value.int .i64) (Below.refl B w) hB
    refine hbp.trans ⟨rfl, rfl, rfl, by simp [grow], fun k hk => ?_⟩
    have hz : k < (putRow (Value.int .i64) (Sort.ahead w m) g 0 ((xs.map (fun n : Nat => (n : Int))).mergeSort (fun a b => decide (a ≤ b))).toArray).heap.size := by rw [size_putRow]; show k < w.heap.size; omega
    show (_ ++ os)[k]? = _
    rw [Array.getElem?_append_left hz]

end Go.Proofs.Ytkklbmnbjmicnaa
