/- How an argument's reading opens: slices of bools. -/
import Derived.Test.YtkklbmnbjmicnaaDisk2
import Derived.ProofKit
import Derived.OpenShut
import Derived.Deep.Slices
namespace Go.Proofs.Ytkklbmnbjmicnaa
open Go.RowKit Go.ChangeShapes Go.WideShapes Go.ChangeAt Go.Deep
set_option linter.unusedVariables false
set_option linter.unusedSimpArgs false

/-- The slice value v has n elements that lie in w as the cells cs. -/
def SliceAt (w : World) (F : Nat → Prop) (v : Value) (n : Nat) (cs : List Value) : Prop :=
  ∃ a cap, v = .slice a n cap ∧ n ≤ cap ∧ (n ≠ 0 → ∃ g off, a = some ⟨g, off, none⟩ ∧ F g ∧ g < w.heap.size ∧ w.rangeAt g off cs)

theorem cellsOf_bool : Try.prog.cellsOf 4 = 1 := by kernel_rfl

theorem open_bools {H : Type} {enc : TypeId × Value → H} {w : World} {base : Nat} {sp : Nat → Bool} {held : Bool} {a : Option Addr} {len cap : Nat} {d : DataW H} {ps : List MemPlace}
    (h : DataW.Trod enc Try.prog w base sp held 34 (.slice a len cap) d ps) : ∃ ks : List Bool, ks.length = len ∧ SliceAt w (fun _ => True) (.slice a len cap) len (ks.map Value.bool) := by
  obtain ⟨fuel, hf⟩ := h
  rcases open_slice1 Try.underlying34 cellsOf_bool hf with ⟨hcs, _⟩ | ⟨a', len', cap', m, n, V, D, Pl, hcs, _, hl, _, hm, _, hx⟩
  · simp [Value.cells] at hcs
    obtain ⟨rfl, rfl, rfl⟩ := hcs
    exact ⟨[], rfl, none, 0, rfl, Nat.le_refl _, fun h => absurd rfl h⟩
  · simp [Value.cells] at hcs
    obtain ⟨rfl, rfl, rfl⟩ := hcs
    have hml : len ≤ m := by rw [hm]; split <;> omega
    have hb : ∀ i, i < len → ∃ b, V i = .bool b := by
      intro i hi
      have h2 := (hx i (Nat.lt_of_lt_of_le hi hml)).2
      cases n with
      | zero => simp [DataW.trod] at h2
      | succ n =>
        unfold DataW.trod at h2
        rw [Try.underlying4] at h2
        cases hV : V i <;> rw [hV] at h2 <;> simp at h2
        exact ⟨_, rfl⟩
    refine ⟨(List.range len).map (fun i => match V i with | .bool b => b | _ => false), by simp, some a', cap, rfl, hl, fun hne => ?_⟩
    obtain ⟨g, off, spot⟩ := a'
    have h0 := (hx 0 (by omega)).1
    have hspot : spot = none := by simpa [Addr.add] using World.cell?_spot h0
    subst hspot
    refine ⟨g, off, rfl, trivial, ?_, ?_⟩
    · have := World.block_lt_of_cell? w _ h0
      simpa [Addr.add] using this
    · intro j v hj
      have hjl : j < len := by have := (List.getElem?_eq_some_iff.1 hj).1; simpa using this
      have h1 := (hx j (Nat.lt_of_lt_of_le hjl hml)).1
      obtain ⟨b, hb⟩ := hb j hjl
      simp only [List.getElem?_map, List.getElem?_range hjl, Option.map_some, hb, Option.some.injEq] at hj
      subst hj
      rw [hb] at h1
      have hadd : (⟨g, off, none⟩ : Addr).add j = ⟨g, off + j, none⟩ := by unfold Addr.add; split <;> simp_all
      rw [hadd] at h1
      exact h1

end Go.Proofs.Ytkklbmnbjmicnaa
