/- How an argument's reading opens: the argument of DiskFlushed. -/
import Derived.Test.YtkklbmnbjmicnaaLaw4b
namespace Go.Proofs.Ytkklbmnbjmicnaa
open Go.RowKit Go.ChangeShapes Go.WideShapes Go.ChangeAt Go.Deep
set_option linter.unusedVariables false
set_option linter.unusedSimpArgs false

theorem cellsOf_Crash : Try.prog.cellsOf 57 = 4 := by kernel_rfl
theorem cellsOf_ops : Try.prog.cellsOf 40 = 1 := by kernel_rfl

theorem trod_crash {H : Type} {enc : TypeId × Value → H} {w : World} {base : Nat} {sp : Nat → Bool} {held : Bool} {fuel : Nat} {cs : List Value} {x : DataW H × List MemPlace}
    (h : DataW.trod enc Try.prog w base sp held fuel 57 cs = some x) (hlen : cs.length = 4) :
    ∃ (sd : Nat) (lv lv' cv : Value) (l l' : List OpD) (c : List UInt8), cs = [.int .u8 (sd : Int), lv, lv', cv] ∧ sd < 256 ∧ OpsAt w (fun _ => True) lv l ∧ OpsAt w (fun _ => True) lv' l' ∧ BytesAt w (fun _ => True) cv c ∧
      (∀ o ∈ l, o.a ≤ 9223372036854775807 ∧ o.cs.length ≤ 9223372036854775807) ∧ (∀ o ∈ l', o.a ≤ 9223372036854775807 ∧ o.cs.length ≤ 9223372036854775807) ∧ c.length ≤ 9223372036854775807 := by
  match cs, hlen with
  | [v0, v1, v2, v3], _ =>
    obtain ⟨xs, k, hk, hxy, _, hxl, hf⟩ := DataW.trod_struct Try.underlying57 h
    have hxl4 : xs.length = 4 := hxl
    match xs, hxl4 with
    | [y0, y1, y2, y3], _ =>
      have g0 := hf 0 _ rfl
      have g1 := hf 1 _ rfl
      have g2 := hf 2 _ rfl
      have g3 := hf 3 _ rfl
      simp [cellsOf_u8, cellsOf_ops, cellsOf_bytes] at g0 g1 g2 g3
      obtain ⟨b, rfl⟩ := trod_u8 g0
      obtain ⟨l, h1, _, h2⟩ := trod_ops g1
      obtain ⟨l', h3, _, h4⟩ := trod_ops g2
      obtain ⟨c, h5, h6⟩ := trod_bytes g3
      exact ⟨b.toNat, v1, v2, v3, l, l', c, rfl, b.toNat_lt, h1, h3, h6, h2, h4, by unfold maxLen at h5; omega⟩

end Go.Proofs.Ytkklbmnbjmicnaa
