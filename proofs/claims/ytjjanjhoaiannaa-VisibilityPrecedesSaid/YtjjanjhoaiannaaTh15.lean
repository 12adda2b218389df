/- The law's identities; index. -/
import Derived.Test.YtjjanjhoaiannaaTh14
namespace Go.Proofs.Ytjjanjhoaiannaa
open Go.Shelf Go.RowKit Go.Lib Go.Sort
set_option linter.unusedVariables false
set_option linter.unusedSimpArgs false

def idOf (n : UInt8) : IdB := ⟨(n % 3) :: (List.replicate 30 0 ++ [n % 24]), by simp⟩
def idC (N : Nat) : List Value := .int .u8 ((N : Int) % 3) :: (List.replicate 30 (.int .u8 0) ++ [.int .u8 ((N : Int) % 24)])
theorem idC_eq (n : UInt8) : bvs (idOf n).1 = idC n.toNat := by
  unfold bvs idOf idC bv
  simp

theorem idxL_first {L : List RowV} {x : IdB} {i : Nat} (hi : i < L.length) (hp : ∀ j (hj : j < i), (L[j]'(Nat.lt_trans hj hi)).id ≠ x) (h : L[i].id = x) : idxL L x = (i : Int) := by
  unfold idxL
  rw [show L.findIdx? (fun r => decide (r.id = x)) = some i from List.findIdx?_eq_some_iff_getElem.2 ⟨hi, decide_eq_true h, fun j hj e => hp j hj (of_decide_eq_true e)⟩]
theorem idxL_none2 {L : List RowV} {x : IdB} (hp : ∀ r ∈ L, r.id ≠ x) : idxL L x = -1 := by
  unfold idxL
  rw [List.findIdx?_eq_none_iff.2 (fun r hr => decide_eq_false (hp r hr))]
end Go.Proofs.Ytjjanjhoaiannaa
