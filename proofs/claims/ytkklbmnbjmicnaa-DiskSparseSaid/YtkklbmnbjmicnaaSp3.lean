/- Whatever the order in which a map hands its keys out: sorted, they are the ascending numbers. -/
import Derived.Test.YtkklbmnbjmicnaaSp2
namespace Go.Proofs.Ytkklbmnbjmicnaa
set_option linter.unusedVariables false
set_option linter.unusedSimpArgs false

theorem spK_sorted (S : DS) (k : Nat) : (spK S k).Pairwise (· ≤ ·) := by
  unfold spK
  exact (List.pairwise_lt_range.imp (fun h => Nat.le_of_lt h)).filter _

theorem sortN_spK {S : DS} {k : Nat} {l : List Nat} (h : l.Perm (spK S k)) : sortN l = spK S k := by
  have h1 : (sortN l).Perm (spK S k) := (List.mergeSort_perm l _).trans h
  have h2 : (sortN l).Pairwise (fun a b => decide (a ≤ b) = true) := List.pairwise_mergeSort (fun a b c h1 h2 => by simp at *; omega) (fun a b => by simp; omega) l
  have h3 : (sortN l).Pairwise (· ≤ ·) := h2.imp (fun h => by simpa using h)
  exact h1.eq_of_pairwise (fun a b _ _ h1 h2 => Nat.le_antisymm h1 h2) h3 (spK_sorted S k)

theorem spK_length (S : DS) (k : Nat) : (spK S k).length ≤ k := by
  unfold spK
  have := List.length_filter_le (fun i => !(S.visible i).all (· == 0)) (List.range k)
  simpa using this

end Go.Proofs.Ytkklbmnbjmicnaa
