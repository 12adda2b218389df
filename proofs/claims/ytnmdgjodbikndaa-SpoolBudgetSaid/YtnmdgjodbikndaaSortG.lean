/- A row of its own that a sort has turned. -/
import Derived.Test.YtnmdgjodbikndaaElems
import Derived.Shelf.SlSortCmp.NoneTotal
import Derived.Shelf.Lay
import Derived.Shelf.SlGeneric
namespace Go.Proofs.Ytnmdgjodbikndaa
open Go.Shelf Go.RowKit Go.Lib Go.Sort
set_option linter.unusedVariables false
set_option linter.unusedSimpArgs false

section
variable {P : Program} {sT T : TypeId} {α : Type} [Inhabited α] (E : ElemTy P sT T α)
theorem flatK_list (L : List α) : (flatK E.enc E.k L.toArray).toList = L.flatMap E.enc := by
  apply List.ext_getElem?
  intro t
  by_cases ht : t < L.length * E.k
  · have hi : t / E.k < L.length := Nat.div_lt_of_lt_mul (by rw [Nat.mul_comm]; exact ht)
    have hj : t % E.k < E.k := Nat.mod_lt _ E.hk
    have h := flat_get E hi hj
    rw [Nat.div_add_mod'] at h
    have hjl : t % E.k < (E.enc L[t / E.k]).length := by rw [E.len]; exact hj
    rw [h, List.getElem?_eq_getElem hjl]
    simp only [flatK, Array.toList_map, List.getElem?_map, Array.toList_range, List.size_toArray]
    rw [List.getElem?_range ht, Option.map_some]
    congr 1
    rw [getElem!_pos L.toArray (t / E.k) (by simpa using hi)]
    exact getElem!_pos (E.enc L[t / E.k]) (t % E.k) hjl
  · rw [List.getElem?_eq_none (by simp; omega), List.getElem?_eq_none (by rw [flat_length]; omega)]
theorem holdsK_of {w : World} {g : Nat} {cur : Array Value} (L : List α) (hg : w.heap[g]? = some (.cells cur T (0, 0))) (ht : cur.toList.take (L.length * E.k) = L.flatMap E.enc) : HoldsK E.enc E.k w g 0 L.toArray := by
  intro j hj
  rw [size_flatK, List.size_toArray] at hj
  refine ⟨?_, frozen_of_row _ _ _ _ _ hg⟩
  have h1 : (L.flatMap E.enc)[j]? = cur[j]? := by rw [← ht, List.getElem?_take, if_pos hj, Array.getElem?_toList]
  have h2 : (flatK E.enc E.k L.toArray)[j]? = (L.flatMap E.enc)[j]? := by rw [← flatK_list E L, Array.getElem?_toList]
  have hs : j < (flatK E.enc E.k L.toArray).size := by rw [size_flatK, List.size_toArray]; exact hj
  have h3 : (flatK E.enc E.k L.toArray)[j]? = some (flatK E.enc E.k L.toArray)[j]! := by rw [getElem!_pos (flatK E.enc E.k L.toArray) j hs, Array.getElem?_eq_getElem hs]
  show w.cell? ⟨g, 0 + j, none⟩ = some ((flatK E.enc E.k L.toArray)[j]!)
  rw [← h3, h2, h1, Nat.zero_add]
  simp [World.cell?, hg]
theorem own_sorted {w : World} {B g cap n : Nat} {cur : Array Value} {os : Array Obj} (L M : List α) (hlen : M.length = L.length) (hB : B ≤ g) (hg : w.heap[g]? = some (.cells cur T (0, 0))) (hc : L.length ≤ cap) (hm : cap ≤ maxLen) (hs : cur.size = cap * E.k) :
    OwnL E (sortWorldK E.enc E.k w g 0 n M.toArray os) B (.slice (some ⟨g, 0, none⟩) L.length cap) M ∧ Below B w (sortWorldK E.enc E.k w g 0 n M.toArray os) := by
  have hgl := (Array.getElem?_eq_some_iff.1 hg).1
  have hsz : (putRowK E.enc E.k (Sort.ahead w n) g 0 M.toArray).heap.size = w.heap.size := by simp [putRowK, putRow, mapBlock, Sort.ahead]
  have hgg : (sortWorldK E.enc E.k w g 0 n M.toArray os).heap[g]? = some (.cells (putCells id 0 (flatK E.enc E.k M.toArray) cur) T (0, 0)) := by
    unfold sortWorldK grow
    show ((putRowK E.enc E.k (Sort.ahead w n) g 0 M.toArray).heap ++ os)[g]? = _
    rw [Array.getElem?_append_left (by rw [hsz]; exact hgl)]
    show ((Sort.ahead w n).heap.modify g _)[g]? = _
    rw [Array.getElem?_modify, if_pos rfl]
    show w.heap[g]?.map _ = _
    rw [hg]
    rfl
  constructor
  · refine ⟨flat_length E M, .inr ⟨g, cap, _, by rw [hlen], hB, hgg, by omega, hm, by simp [putCells, hs], ?_⟩⟩
    have hmul : M.length * E.k ≤ cap * E.k := Nat.mul_le_mul_right _ (by omega)
    rw [← flatK_list E M]
    apply List.ext_getElem?
    intro t
    rw [List.getElem?_take]
    by_cases ht : t < M.length * E.k
    · have hts : t < (flatK E.enc E.k M.toArray).size := by rw [size_flatK, List.size_toArray]; exact ht
      rw [if_pos ht, Array.getElem?_toList, Array.getElem?_toList]
      unfold putCells
      rw [Array.getElem?_mapIdx, Array.getElem?_eq_getElem (by omega), Array.getElem?_eq_getElem hts, Option.map_some, if_pos ⟨Nat.zero_le _, by omega⟩, Nat.sub_zero, getElem!_pos (flatK E.enc E.k M.toArray) t hts]
      rfl
    · rw [if_neg ht, List.getElem?_eq_none (by rw [Array.length_toList, size_flatK, List.size_toArray]; omega)]
  · refine ⟨rfl, rfl, rfl, ?_, fun k hk => ?_⟩
    · show w.heap.size ≤ ((putRowK E.enc E.k (Sort.ahead w n) g 0 M.toArray).heap ++ os).size
      rw [Array.size_append, hsz]
      omega
    · show ((putRowK E.enc E.k (Sort.ahead w n) g 0 M.toArray).heap ++ os)[k]? = _
      rw [Array.getElem?_append_left (by rw [hsz]; omega)]
      show ((Sort.ahead w n).heap.modify g _)[k]? = _
      rw [Array.getElem?_modify, if_neg (by omega)]
      rfl
end
section
variable {α : Type} [Inhabited α]
theorem sw_block {enc : α → List Value} {k : Nat} {w : World} {g n : Nat} {d : Array α} {os : Array Obj} {i : Nat} (hi : i < w.heap.size) (hg : i ≠ g) : (sortWorldK enc k w g 0 n d os).heap[i]? = w.heap[i]? := by
  have hsz : (putRowK enc k (Sort.ahead w n) g 0 d).heap.size = w.heap.size := by simp [putRowK, putRow, mapBlock, Sort.ahead]
  show ((putRowK enc k (Sort.ahead w n) g 0 d).heap ++ os)[i]? = _
  rw [Array.getElem?_append_left (by rw [hsz]; omega)]
  show ((Sort.ahead w n).heap.modify g _)[i]? = _
  rw [Array.getElem?_modify, if_neg (by omega)]
  rfl
end
end Go.Proofs.Ytnmdgjodbikndaa
