/- An argument of type [3]uint8. -/
import Derived.Test.YthfinofmbnfijaaTArgs
import Derived.Laws.IdiomArrays
namespace Go.Proofs.Ythfinofmbnfijaa
open Go.ChangeShapes Go.WideShapes Go.ChangeAt Go.RowKit
set_option linter.unusedVariables false
set_option linter.unusedSimpArgs false

theorem cellsOf_a3 : Try.prog.cellsOf 48 = 3 := by kernel_rfl
set_option maxRecDepth 100000 in
theorem okWide_a3 {w : World} {r : Go.Reach} {base : Nat} {v : Value} (h : Value.okWide Try.prog w r base 48 v) : ∃ c0 c1 c2, v = .agg #[c0, c1, c2] := by
  unfold Value.okWide at h
  rw [Try.underlying48] at h
  obtain ⟨cs, rfl, hs, _⟩ := h
  rw [cellsOf_a3] at hs
  obtain ⟨c0, c1, c2, e⟩ := len3 (l := cs.toList) (by simpa using hs)
  exact ⟨c0, c1, c2, by congr 1; exact Array.ext' e⟩
theorem trod_a3 {H : Type} {enc : TypeId × Value → H} {w : World} {base : Nat} {sp : Nat → Bool} {held : Bool} {fuel : Nat} {c0 c1 c2 : Value} {x : DataW H × List MemPlace}
    (h : DataW.trod enc Try.prog w base sp held fuel 48 [c0, c1, c2] = some x) : ∃ s0 s1 s2 : Nat, (s0 < 256 ∧ s1 < 256 ∧ s2 < 256) ∧ c0 = .int .u8 (s0 : Int) ∧ c1 = .int .u8 (s1 : Int) ∧ c2 = .int .u8 (s2 : Int) := by
  obtain ⟨y0, y1, y2, n, _, h0, h1, h2⟩ := trod_array3 Try.underlying48 cellsOf_u8' h
  obtain ⟨b0, rfl⟩ := trod_u8 h0
  obtain ⟨b1, rfl⟩ := trod_u8 h1
  obtain ⟨b2, rfl⟩ := trod_u8 h2
  exact ⟨b0.toNat, b1.toNat, b2.toNat, ⟨b0.toNat_lt, b1.toNat_lt, b2.toNat_lt⟩, rfl, rfl, rfl⟩
end Go.Proofs.Ythfinofmbnfijaa
