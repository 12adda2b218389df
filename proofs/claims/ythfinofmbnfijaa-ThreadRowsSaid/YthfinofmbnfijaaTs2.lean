/- A store into one cell of a block. -/
import Derived.Test.YthfinofmbnfijaaTs
namespace Go.Proofs.Ythfinofmbnfijaa
open Go.RowKit
set_option linter.unusedVariables false
set_option linter.unusedSimpArgs false
section
variable {P : Program} {w : World}
theorem run_storeC {g i : Nat} {cs : Array Value} {T ty : TypeId} {v : Value} (hg : w.heap[g]? = some (.cells cs T (0, 0))) (hi : i < cs.size) (hv : v.oneCell' = true) (hsz : (P.info? ty).map (·.size) = some 1) : (Instr.storeAt ty (.pointer (some ⟨g, i, none⟩)) v).run P w = .ok () (w.setCell ⟨g, i, none⟩ v) := by
  have hc : w.cell? ⟨g, i, none⟩ = some cs[i] := by rw [cell_of_row _ _ _ _ _ _ hg, Array.getElem?_eq_getElem hi]
  have hf := frozen_of_row w g i cs T hg
  cases hq : P.info? ty with
  | none => simp [hq] at hsz
  | some t =>
    simp only [hq, Option.map_some, Option.some.injEq] at hsz
    cases v <;> simp_all [Value.oneCell', Instr.storeAt, Instr.sureAddr, storeVar, sizeOf, typeInfo, program, store, storeCells, Sem.run, Value.cells, Addr.add]
end
theorem wpList_putC {P : Program} {ops : Array Oper} {rest : List Oper} {o : Oper} {a : Act} {w : World} {Q : Exit → Act → World → Prop} (hgd : o.guard = none) (hdst : o.dst = none) (ty : TypeId) (x y : Operand) (ho : o.op = .store ty x y)
    (g i : Nat) (v : Value) (hx : a.eval x = .pointer (some ⟨g, i, none⟩)) (hy : a.eval y = v) {T : TypeId} {cs : Array Value} (hg : w.heap[g]? = some (.cells cs T (0, 0))) (hi : i < cs.size) (hv : v.oneCell' = true) (hsz : (P.info? ty).map (·.size) = some 1)
    (h : ∀ w', w'.heap[g]? = some (.cells (cs.setIfInBounds i v) T (0, 0)) → Chg (fun k => k = g) w w' → w'.heap.size = w.heap.size → wpList P ops Q rest a w') : wpList P ops Q (o :: rest) a w := by
  refine wpList_plain hgd fun K hK => ?_
  unfold Oper.wp execOp
  simp only [ho, hx, hy, Sem.run_bind, run_storeC hg hi hv hsz, Result.andThen_ok, Sem.run_pure, Oper.upon_skip, hdst]
  exact hK _ _ (h _ (heap_setCell_same _ _ _ _ _ _ hg) (Chg.setCell _ _ rfl) (by simp [World.setCell]))
end Go.Proofs.Ythfinofmbnfijaa
