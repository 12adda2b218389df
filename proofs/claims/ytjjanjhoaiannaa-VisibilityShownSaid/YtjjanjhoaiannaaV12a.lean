/- Visibility: slice literals, rows that are written out. -/
import Derived.Test.YtjjanjhoaiannaaLit
import Derived.Test.YtjjanjhoaiannaaRowm
namespace Go.Proofs.Ytjjanjhoaiannaa
open Go.RowKit
set_option linter.unusedVariables false
set_option linter.unusedSimpArgs false

section
variable {P : Program} {sT T : TypeId} {α : Type} (E : ElemTy P sT T α)
/-- []T{x, y, ..}: a block of the elements side by side. -/
theorem run_lits (M : List α) (h0 : 0 < M.length) (h1 : M.length * E.k ≤ 2 ^ 24) (w : World) :
    (Instr.buildSlice sT M.length ((M.map fun x => Value.agg (E.enc x).toArray).zipIdx.map fun x => (x.2, x.1)).toArray).run P w = .ok (.slice (some ⟨w.heap.size, 0, none⟩) M.length M.length) (w.alloc (.cells (M.flatMap E.enc).toArray T)) := by
  obtain ⟨z, bytes, hinfo, hz, hb⟩ := E.hi
  obtain ⟨i0, hi, hz0, hz1, hz2⟩ := info_parts hinfo
  have hf := Great.fill_whole (s := E.k) E.hk (M.map fun x => Value.agg (E.enc x).toArray) ((Array.range (M.length * i0.size)).map (z.cells[· % z.cells.size]!)) (by
    intro v hv
    obtain ⟨x, _, rfl⟩ := List.mem_map.1 hv
    show (E.enc x).toArray.size = E.k
    rw [List.size_toArray, E.len]) (by rw [List.length_map, Array.size_map, Array.size_range, hz1])
  have he : ((M.map fun x => Value.agg (E.enc x).toArray).flatMap fun v => v.cells.toList) = M.flatMap E.enc := by
    rw [List.flatMap_map]
    rfl
  rw [he] at hf
  have hp := E.hk
  have hpos : 0 < M.length * E.k := Nat.mul_pos h0 hp
  exact run_buildSlice w sT T M.length _ _ i0 z E.hu hi hz0 (by rw [hz1]; omega) (by rw [hz1]; omega) (by rw [hz1] at hf ⊢; exact hf)
theorem list_of_block {w : World} {b : Nat} {M : List α} (h : w.heap[b]? = some (.cells (M.flatMap E.enc).toArray T (0, 0))) (hm : M.length ≤ maxLen) : ListAt E w (.slice (some ⟨b, 0, none⟩) M.length M.length) M := by
  refine ⟨_, _, rfl, Nat.le_refl _, hm, (fun e => by cases e), fun _ => ⟨b, 0, rfl, (Array.getElem?_eq_some_iff.1 h).1, fun i hi j u hu => ?_⟩⟩
  rw [cell_of_row _ _ _ _ _ _ h]
  have hj : j < E.k := by have := (List.getElem?_eq_some_iff.1 hu).1; rw [E.len] at this; exact this
  have := flat_get E hi hj
  rw [Nat.zero_add]
  rw [hu] at this
  simpa using this
end

end Go.Proofs.Ytjjanjhoaiannaa
