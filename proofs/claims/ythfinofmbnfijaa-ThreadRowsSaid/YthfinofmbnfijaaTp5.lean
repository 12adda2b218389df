/- Threads, plainly: the identities that occur. -/
import Derived.Test.YthfinofmbnfijaaTp4
namespace Go.Proofs.Ythfinofmbnfijaa
open Go.Shelf Go.RowKit Go.Lib Go.Sort
set_option linter.unusedVariables false
set_option linter.unusedSimpArgs false

def univ (S : List Tw) : List IdB := S.map (·.id) ++ S.flatMap (·.refs)
theorem univ_id {S : List Tw} {k : Nat} (h : k < S.length) : S[k].id ∈ univ S := List.mem_append_left _ (List.mem_map_of_mem (List.getElem_mem h))
theorem pM_univ {A : IdB → Bool} {S : List Tw} {x y : IdB} (h : pM A S x = some y) : y ∈ univ S := by
  unfold pM at h
  split at h
  · cases hf : S.find? (fun r => decide (r.id = x)) with
    | none => rw [hf] at h; cases h
    | some r =>
      rw [hf] at h
      have h2 : r.refs.getLast? = some y := h
      exact List.mem_append_right _ (List.mem_flatMap.2 ⟨r, List.mem_of_find?_eq_some hf, List.mem_of_getLast? h2⟩)
  · cases hf : S.find? (fun r => decide (r.refs.getLast? = some x)) with
    | none => rw [hf] at h; cases h
    | some r =>
      rw [hf] at h
      have h2 : r.refs.dropLast.reverse.find? A = some y := h
      have h3 := List.mem_of_find?_eq_some h2
      exact List.mem_append_right _ (List.mem_flatMap.2 ⟨r, List.mem_of_find?_eq_some hf, List.dropLast_subset _ (List.mem_reverse.1 h3)⟩)
/-- The walk from the k-th article. -/
theorem walk_cut {S : List Tw} {par : Par} {wk : Wk} {k : Nat} (h : CutInv (pM (isArt S) S) S k par wk) (hk : k < S.length) {n : Nat} (hn : (univ S).length < n) : WalkRes par k wk S[k].id (walkGo par k n wk S[k].id) :=
  walk_any h.lt h.pre (U := univ S) (fun x y e => pM_univ (h.le e)) (univ_id hk) hn
theorem wk_int_inj {a b : Nat} (h : (a : Int) = (b : Int)) : a = b := by omega
end Go.Proofs.Ythfinofmbnfijaa
