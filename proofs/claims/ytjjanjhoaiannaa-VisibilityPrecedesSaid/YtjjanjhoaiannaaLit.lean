/- A slice literal of one element of more cells than one; the append behind it. -/
import Derived.Test.YtjjanjhoaiannaaElems
import Derived.Great.BuildSlice
import Derived.Laws.MakeOwn
namespace Go.Proofs.Ytjjanjhoaiannaa
open Go.RowKit
set_option linter.unusedVariables false
set_option linter.unusedSimpArgs false

theorem wpList_lit1 {P : Program} {ops : Array Oper} {rest : List Oper} {o : Oper} {a : Act} {w : World} {Q : Exit → Act → World → Prop} (hg : o.guard = none) (s e : TypeId) (y : Operand) (ho : o.op = .buildSlice s 1 #[(0, y)])
    (c : Array Value) (hy : a.eval y = .agg c) {we : World} (hwe : w.alloc (.cells c e) = we)
    (hu : P.underlying s = some (.slice e)) (hsz : (P.info? e).map (·.size) = some c.size) (hz : ((P.info? e).bind (·.zero)).isSome = true) (hpos : 0 < c.size) (hsmall : c.size ≤ 2 ^ 24)
    (h : wpList P ops Q rest (a.put o.dst (.slice (some ⟨w.heap.size, 0, none⟩) 1 1)) we) : wpList P ops Q (o :: rest) a w := by
  cases hie : P.info? e with
  | none => simp [hie] at hsz
  | some ie =>
    simp only [hie, Option.map_some, Option.some.injEq, Option.bind_some] at hsz hz
    obtain ⟨z, hzz⟩ := Option.isSome_iff_exists.1 hz
    have hf := Great.fill_whole (s := ie.size) (by rw [hsz]; exact hpos) [.agg c] ((Array.range (1 * ie.size)).map (z.cells[· % z.cells.size]!)) (by
      intro v hv
      simp only [List.mem_singleton] at hv
      subst hv
      exact hsz.symm) (by simp)
    refine wpList_buildSlice hg s e 1 _ ho c ie z hu hie hzz (by omega) (by omega) ?_ (hwe ▸ h)
    rw [show (Array.map (fun x : Nat × Operand => match x with | (i, x) => (i, a.eval x)) #[(0, y)]).toList = [(0, Value.agg c)] from by simp [hy]]
    simpa [Value.cells] using hf

/-- make([]T, 0, c): a row of its own, empty. -/
theorem run_mkL {P : Program} {sT T : TypeId} {α : Type} (E : ElemTy P sT T α) (w : World) {B : Nat} (c : Nat) (hc : c ≤ 1000000000) (hB : B ≤ w.heap.size) :
    ∃ w', (Instr.makeSlice sT (.int .i64 0) (.int .i64 (c : Int))).run P w = .ok (.slice (some ⟨w.heap.size, 0, none⟩) 0 c) w' ∧ OwnL E w' B (.slice (some ⟨w.heap.size, 0, none⟩) 0 c) [] ∧ Below w.heap.size w w' := by
  obtain ⟨z, bytes, hinfo, hz, hb⟩ := E.hi
  obtain ⟨i0, hi, hz0, hz1, hz2⟩ := info_parts hinfo
  have h1 : i0.bytes * c ≤ 100000 * 1000000000 := Nat.mul_le_mul (by omega) hc
  obtain ⟨w', hr, ho, hg⟩ := run_make_own (P := P) w B sT T i0 z E.k E.hu hi hz0 hz1 .i64 .i64 c (by omega) (by unfold maxLen; omega) hB
  exact ⟨w', hr, ho, (Below.refl _ _).grown hg (Nat.le_refl _) (fun k h => by cases h)⟩

end Go.Proofs.Ytjjanjhoaiannaa
