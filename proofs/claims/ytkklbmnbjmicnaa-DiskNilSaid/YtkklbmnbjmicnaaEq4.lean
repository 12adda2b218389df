/- The reference's same and Same. -/
import Derived.Test.YtkklbmnbjmicnaaEq3
import Derived.Test.YtkklbmnbjmicnaaRef12
namespace Go.Proofs.Ytkklbmnbjmicnaa
open Go.RowKit Go.Shelf
set_option linter.unusedVariables false
set_option linter.unusedSimpArgs false

set_option maxHeartbeats 1000000 in
theorem ref_same1 {w : World} {G G' : Nat → Prop} {u v : Value} {la lb : List UInt8} (h : BytesAt w G u la) (h' : BytesAt w G' v lb) :
    Calls Try.prog 54 #[u, v] w fun e w' => e = .returned (.bool (decide (la = lb))) ∧ w' = w := by
  have s1 := h.str
  have s2 := h'.str
  obtain ⟨a, c, rfl, _⟩ := h
  obtain ⟨a', c', rfl, _⟩ := h'
  go_enter Try.func54, Try.ntmps54
  go_wp2_with fail
  go_ret
  refine ⟨?_, rfl⟩
  by_cases e : la = lb
  · subst e
    simp
  · have : ¬ (⟨la.toArray⟩ : ByteArray) = ⟨lb.toArray⟩ := fun h => e (by simpa using congrArg ByteArray.data h)
    simp [e, this]

theorem ref_same2 {w : World} {G G' : Nat → Prop} {u v : Value} {la lb : List UInt8} {r : Bool} (h : BytesAt w G u la) (h' : BytesAt w G' v lb) (hr : decide (la = lb) = r) :
    Calls Try.prog 54 #[u, v] w fun e w' => e = .returned (.bool r) ∧ w' = w := hr ▸ ref_same1 h h'

end Go.Proofs.Ytkklbmnbjmicnaa
