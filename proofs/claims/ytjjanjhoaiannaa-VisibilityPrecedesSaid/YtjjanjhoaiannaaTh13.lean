/- Nodes are compared; lists of nodes are. -/
import Derived.Test.YtjjanjhoaiannaaTh12
import Derived.Test.YtjjanjhoaiannaaTp7
namespace Go.Proofs.Ytjjanjhoaiannaa
open Go.Shelf Go.RowKit Go.Lib Go.Sort Go.ChangeShapes Go.Maps
set_option linter.unusedVariables false
set_option linter.unusedSimpArgs false

theorem keyLits_i64 (d : Nat) {n : Int} (h : -9223372036854775808 ≤ n ∧ n ≤ 9223372036854775807) : Try.prog.keyLits (d + 1) 3 [.int .i64 n] = some [.int .i64 n] := by
  have hw : (Lit.int .i64 n).wf = true := by
    simp [Lit.wf, IntKind.min, IntKind.max, IntKind.signed, IntKind.bits]
    omega
  simp [Program.keyLits, Try.underlying3, hw]
theorem cellsOf_int : Try.prog.cellsOf 3 = 1 := by kernel_rfl
theorem cellsOf_Node : Try.prog.cellsOf 57 = 35 := by kernel_rfl
/-- Its numbers are small. -/
def NSm (n : NodeV) : Prop := (-1000000000 ≤ n.row ∧ n.row ≤ 1000000000) ∧ (-1000000000 ≤ n.parent ∧ n.parent ≤ 1000000000) ∧ (-1000000000 ≤ n.depth ∧ n.depth ≤ 1000000000)
theorem keyLits_Node {x : NodeV} (h : NSm x) : Try.prog.keyLits 3 57 x.cells = some (x.id.1.map bl ++ [.int .i64 x.row, .int .i64 x.parent, .int .i64 x.depth]) := by
  have h0 : (bvs x.id.1).length = 32 := by rw [bvs_length, x.id.2]
  have e0 : (x.cells.drop 0).take 32 = bvs x.id.1 := by unfold NodeV.cells; rw [List.drop_zero, List.take_left' h0]
  have e1 : (x.cells.drop 32).take 1 = [.int .i64 x.row] := by unfold NodeV.cells; rw [List.drop_left' h0]; rfl
  have e2 : (x.cells.drop 33).take 1 = [.int .i64 x.parent] := by
    unfold NodeV.cells
    rw [show 33 = 32 + 1 from rfl, ← List.drop_drop, List.drop_left' h0]
    rfl
  have e3 : (x.cells.drop 34).take 1 = [.int .i64 x.depth] := by
    unfold NodeV.cells
    rw [show 34 = 32 + 2 from rfl, ← List.drop_drop, List.drop_left' h0]
    rfl
  have b1 : -9223372036854775808 ≤ x.row ∧ x.row ≤ 9223372036854775807 := by have := h.1; omega
  have b2 : -9223372036854775808 ≤ x.parent ∧ x.parent ≤ 9223372036854775807 := by have := h.2.1; omega
  have b3 : -9223372036854775808 ≤ x.depth ∧ x.depth ≤ 9223372036854775807 := by have := h.2.2; omega
  unfold Program.keyLits
  rw [Try.underlying57]
  simp only [NodeV.cells_length, cellsOf_Node]
  rw [if_pos ⟨trivial, by decide +kernel⟩]
  simp only [List.mapM_cons, List.mapM_nil, cellsOf_Id, cellsOf_int, e0, e1, e2, e3, keyLits_Id 0 x.id.2, keyLits_i64 1 b1, keyLits_i64 1 b2, keyLits_i64 1 b3]
  rfl
theorem keyType_Node : Try.prog.keyTypeAt 5 57 = true := by kernel_rfl
theorem deep_Node : EqAt Try.prog 10000 57 := by
  have := run_equalIn_deep 9995 5 57 keyType_Node
  simpa only [Nat.reduceAdd] using this
theorem formed_Node (x : NodeV) : (Value.agg x.cells.toArray).formed Try.prog 57 = true := by
  unfold Value.formed
  rw [Try.underlying57]
  simp [cellsOf_Node, x.cells_length]
instance : DecidableEq NodeV := fun a b => if h : a.id = b.id ∧ a.row = b.row ∧ a.parent = b.parent ∧ a.depth = b.depth then isTrue (by
    obtain ⟨h1, h2, h3, h4⟩ := h
    cases a
    cases b
    simp only at h1 h2 h3 h4
    rw [h1, h2, h3, h4]) else isFalse (fun e => h (by rw [e]; exact ⟨rfl, rfl, rfl, rfl⟩))
theorem app_inj2 {a b : List UInt8} (ha : a.length = 32) (hb : b.length = 32) {p q : List Lit} (h : a.map bl ++ p = b.map bl ++ q) : a = b ∧ p = q := by
  have h2 := List.append_inj h (by rw [List.length_map, List.length_map, ha, hb])
  exact ⟨bl_inj h2.1, h2.2⟩
theorem neq_Node {x y : NodeV} (hx : NSm x) (hy : NSm y) (w : World) : (binOp .neq 57 (.agg x.cells.toArray) (.agg y.cells.toArray)).run Try.prog w = .ok (.bool (!decide (x = y))) w := by
  rw [run_neq_struct (P := Try.prog) w 57 x.cells.toArray y.cells.toArray]
  obtain ⟨r, h1, h2⟩ := deep_Node w 3 3 (.agg x.cells.toArray) (.agg y.cells.toArray) _ _ (formed_Node x) (formed_Node y) (keyLits_Node hx) (keyLits_Node hy)
  have e : r = decide (x = y) := by
    rw [Bool.eq_iff_iff, h2, decide_eq_true_iff]
    constructor
    · intro h
      obtain ⟨h3, h4⟩ := app_inj2 x.id.2 y.id.2 h
      simp only [List.cons.injEq, Lit.int.injEq, true_and, and_true] at h4
      cases x
      cases y
      simp only at h3 h4
      obtain ⟨r1, r2, r3⟩ := h4
      have h5 := Subtype.ext h3
      subst r1
      subst r2
      subst r3
      rw [NodeV.mk.injEq]
      exact ⟨h5, rfl, rfl, rfl⟩
    · intro h; rw [h]
  rw [h1, e]
  rfl
theorem guard_Node : Try.prog.eqGuardType Try.prog.depth 57 = false := by kernel_rfl
end Go.Proofs.Ytjjanjhoaiannaa
