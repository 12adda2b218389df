/- Visibility: slice literals, rows that are written out; Steps of a walk: a new variable, its first value, a literal; the new world is named by what it keeps. -/
import Derived.Test.YtjjanjhoaiannaaLit
import Derived.Test.YtjjanjhoaiannaaVp1
import Derived.Laws.Tables
import Derived.Laws.CopyOwn
namespace Go.Proofs.Ytjjanjhoaiannaa
open Go.RowKit
set_option linter.unusedVariables false
set_option linter.unusedSimpArgs false

section
variable {P : Program} {sT T : TypeId} {α : Type} (E : ElemTy P sT T α)
/-- []T{x, y, ..}: a block of the elements side by side. -/
theorem vrun_lits (M : List α) (h0 : 0 < M.length) (h1 : M.length * E.k ≤ 2 ^ 24) (w : World) :
    (Instr.buildSlice sT M.length ((M.map fun x => Value.agg (E.enc x).toArray).zipIdx.map fun x => (x.2, x.1)).toArray).run P w = .ok (.slice (some ⟨w.heap.size, 0, none⟩) M.length M.length) (w.alloc (.cells (M.flatMap E.enc).toArray T)) := by
  obtain ⟨z, bytes, hinfo, hz, hb⟩ := E.hi
  obtain ⟨i0, hi, hz0, hz1, hz2⟩ := info_parts hinfo
  have hf := Great.fill_whole (s := E.k) E.hk (M.map fun x => Value.agg (E.enc x).toArray) ((Array.range (M.length * i0.size)).map (z.cells[· % z.cells.size]!)) (by
    intro v hv
    obtain ⟨x, _, rfl⟩ := List.mem_map.1 hv
    show (E.enc x).toArray.size = E.k
    rw [List.size_toArray, E.len]) (by rw [List.length_map, Array.size_map, Array.size_range, hz1])
  have he : ((M.map fun x => Value.agg (E.enc x).toArray).flatMap fun v => v.cells.toList) = M.flatMap E.enc := by
    rw [List.flatMap_map]
    rfl
  rw [he] at hf
  have hp := E.hk
  have hpos : 0 < M.length * E.k := Nat.mul_pos h0 hp
  exact run_buildSlice w sT T M.length _ _ i0 z E.hu hi hz0 (by rw [hz1]; omega) (by rw [hz1]; omega) (by rw [hz1] at hf ⊢; exact hf)
theorem vlist_of_block {w : World} {b : Nat} {M : List α} (h : w.heap[b]? = some (.cells (M.flatMap E.enc).toArray T (0, 0))) (hm : M.length ≤ maxLen) : ListAt E w (.slice (some ⟨b, 0, none⟩) M.length M.length) M := by
  refine ⟨_, _, rfl, Nat.le_refl _, hm, (fun e => by cases e), fun _ => ⟨b, 0, rfl, (Array.getElem?_eq_some_iff.1 h).1, fun i hi j u hu => ?_⟩⟩
  rw [cell_of_row _ _ _ _ _ _ h]
  have hj : j < E.k := by have := (List.getElem?_eq_some_iff.1 hu).1; rw [E.len] at this; exact this
  have := flat_get E hi hj
  rw [Nat.zero_add]
  rw [hu] at this
  simpa using this
end

end Go.Proofs.Ytjjanjhoaiannaa

namespace Go.Proofs.Ytjjanjhoaiannaa
open Go.RowKit
set_option linter.unusedVariables false
set_option linter.unusedSimpArgs false

theorem vall_oneCell_cells {P : Program} {sT T : TypeId} {α : Type} (E : ElemTy P sT T α) (x : α) : (E.enc x).toArray.all (·.oneCell') = true := all_oneCell_toArray (E.one x)
section
variable {P : Program} {sT T : TypeId} {α : Type} {ops : Array Oper} {rest : List Oper} {o : Oper} {a : Act} {w : World} {Q : Exit → Act → World → Prop}
theorem vwpList_runI (hg : o.guard = none) (dst : Option Tmp) (hdst : o.dst = dst) (v : Value) (w' : World) (hrun : (execOp a.eval o).run P w = .ok (.value v) w') (h : wpList P ops Q rest (a.put dst v) w') : wpList P ops Q (o :: rest) a w := by
  subst hdst
  refine wpList_plain hg fun K hK => ?_
  unfold Oper.wp
  rw [hrun, Oper.upon_value]
  exact hK _ _ h
theorem vexec_build {ρ : Operand → Value} {t : TypeId} {parts : Array (Nat × Operand)} (ho : o.op = .build t parts) {ps : Array (Nat × Value)} (hps : (parts.map fun (i, x) => (i, ρ x)) = ps) {v : Value} {w' : World}
    (h : (Instr.build t ps).run P w = .ok v w') : (execOp ρ o).run P w = .ok (.value v) w' := by
  unfold execOp
  simp only [ho, hps, Sem.run_bind, h, Result.andThen_ok]
  rfl
theorem vexec_buildSlice {ρ : Operand → Value} {t : TypeId} {n : Nat} {parts : Array (Nat × Operand)} (ho : o.op = .buildSlice t n parts) {ps : Array (Nat × Value)} (hps : (parts.map fun (i, x) => (i, ρ x)) = ps) {v : Value} {w' : World}
    (h : (Instr.buildSlice t n ps).run P w = .ok v w') : (execOp ρ o).run P w = .ok (.value v) w' := by
  unfold execOp
  simp only [ho, hps, Sem.run_bind, h, Result.andThen_ok]
  rfl
/-- A build whose value is known. -/
theorem vwpList_buildV (hg : o.guard = none) (dst : Option Tmp) (hdst : o.dst = dst) (t : TypeId) (parts : Array (Nat × Operand)) (ho : o.op = .build t parts) (ps : List (Nat × Value)) (hps : (parts.toList.map fun (i, x) => (i, a.eval x)) = ps) (v : Value)
    (hrun : (Instr.build t ps.toArray).run P w = .ok v w) (h : wpList P ops Q rest (a.put dst v) w) : wpList P ops Q (o :: rest) a w :=
  vwpList_runI hg dst hdst v w (vexec_build ho (by rw [← hps, ← List.map_toArray]) hrun) h
/-- A slice literal: a new block. -/
theorem vwpList_litsV (E : ElemTy P sT T α) (hg : o.guard = none) (dst : Option Tmp) (hdst : o.dst = dst) (n : Nat) (parts : Array (Nat × Operand)) (ho : o.op = .buildSlice sT n parts) (M : List α) (hn : M.length = n)
    (hps : (parts.toList.map fun (i, x) => (i, a.eval x)) = (M.map fun x => Value.agg (E.enc x).toArray).zipIdx.map fun x => (x.2, x.1)) (h0 : 0 < n) (h1 : n * E.k ≤ 2 ^ 24)
    (h : ∀ w', w'.heap[w.heap.size]? = some (.cells (M.flatMap E.enc).toArray T (0, 0)) → Below w.heap.size w w' → w'.heap.size = w.heap.size + 1 → wpList P ops Q rest (a.put dst (.slice (some ⟨w.heap.size, 0, none⟩) n n)) w') : wpList P ops Q (o :: rest) a w := by
  subst hn
  have hp : (parts.map fun (i, x) => (i, a.eval x)) = ((M.map fun x => Value.agg (E.enc x).toArray).zipIdx.map fun x => (x.2, x.1)).toArray := by rw [← hps, ← List.map_toArray]
  have hr := vexec_buildSlice (w := w) ho hp (vrun_lits E M h0 h1 w)
  have hk : (w.alloc (.cells (M.flatMap E.enc).toArray T)).heap[w.heap.size]? = some (.cells (M.flatMap E.enc).toArray T (0, 0)) := heap_alloc_new _ _
  exact vwpList_runI hg dst hdst _ _ hr (h _ hk ((Below.refl _ _).alloc (Nat.le_refl _) _) (by simp))
/-- A new variable: a block of zero cells. -/
theorem vwpList_newV (hg : o.guard = none) (dst : Option Tmp) (hdst : o.dst = dst) (t : TypeId) (ho : o.op = .alloc t) (zs : Array Value) (sz : Nat) (hi : (P.info? t).map (fun i => (i.zero, i.size)) = some (some (.agg zs), sz))
    (h : ∀ w', w'.heap[w.heap.size]? = some (.cells zs t (0, 0)) → Below w.heap.size w w' → w'.heap.size = w.heap.size + 1 → wpList P ops Q rest (a.put dst (.pointer (some ⟨w.heap.size, 0, none⟩))) w') : wpList P ops Q (o :: rest) a w := by
  refine vwpList_runI hg dst hdst _ (w.alloc (.cells zs t)) ?_ (h _ (heap_alloc_new _ _) ((Below.refl _ _).alloc (Nat.le_refl _) _) (by simp))
  cases hq : P.info? t with
  | none => simp [hq] at hi
  | some i =>
    simp only [hq, Option.map_some, Option.some.injEq, Prod.mk.injEq] at hi
    unfold execOp
    simp [ho, Instr.alloc, zeroValue, typeInfo, hq, hi.1, newVar, newRow, newObj, go_sem, Value.cells]
    rfl
/-- A store of a whole row. -/
theorem vwpList_putV (hgd : o.guard = none) (hdst : o.dst = none) (ty : TypeId) (x y : Operand) (ho : o.op = .store ty x y)
    (g : Nat) (cells : Array Value) (hx : a.eval x = .pointer (some ⟨g, 0, none⟩)) (hy : a.eval y = .agg cells)
    (t : TypeId) (old : Array Value) (hg : w.heap[g]? = some (.cells old t (0, 0))) (hi : (P.info? ty).map (·.size) = some cells.size)
    (hold : old.size = cells.size) (h1 : cells.all (·.oneCell') = true)
    (h : ∀ w', w'.heap[g]? = some (.cells cells t (0, 0)) → Chg (fun k => k = g) w w' → w'.heap.size = w.heap.size → wpList P ops Q rest a w') : wpList P ops Q (o :: rest) a w := by
  refine wpList_store_row hgd ty x y ho g cells hx hy t old hg hi hold h1 ?_
  rw [hdst]
  exact h _ (setRow_heap _ _ _ _ _ _ hg) ⟨rfl, rfl, rfl, by simp [World.setRow], fun k _ hk => setRow_other _ _ _ _ hk⟩ (by simp [World.setRow])
end
end Go.Proofs.Ytjjanjhoaiannaa
