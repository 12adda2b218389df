/- DiskClone, all cases. -/
import Derived.Test.YtkklbmnbjmicnaaLaw5
namespace Go.Proofs.Ytkklbmnbjmicnaa
open Go.RowKit Go.Shelf
set_option linter.unusedVariables false
set_option linter.unusedSimpArgs false

set_option maxRecDepth 100000 in
set_option maxHeartbeats 2000000 in
theorem DiskClone_any (sd : Nat) (hsd : sd < 256) (l m : List OpD) (lv mv : Value) (w : World) (h : OpsAt w (fun k => k < w.heap.size) lv l) (h' : OpsAt w (fun k => k < w.heap.size) mv m) (ha : ∀ o ∈ l, o.a ≤ 9223372036854775807 ∧ o.cs.length ≤ 9223372036854775807) (ha' : ∀ o ∈ m, o.a ≤ 9223372036854775807 ∧ o.cs.length ≤ 9223372036854775807) :
    Calls Try.prog 9 #[.int .u8 (sd : Int), lv, mv] w fun e w' => e = .returned (.bool true) ∧ Below w.heap.size w w' := by
  by_cases hl : l.length ≤ 40
  · by_cases hl' : m.length ≤ 40
    · exact DiskClone_yes sd hsd l m lv mv w h h' ha ha' hl hl'
    · obtain ⟨la, lc, rfl, _⟩ := h
      obtain ⟨ma, mc, rfl, _⟩ := h'
      go_enter Try.func9, Try.ntmps9
      go_wp2_with fail
      refine (known_any _).mono ?_
      rintro e w1 ⟨rfl, hb1⟩
      go_wp2_with fail
      refine (small_yes _ _ _ hl).mono ?_
      rintro e w2 ⟨rfl, rfl⟩
      go_wp2_with fail
      refine (small_no _ _ _ (by omega)).mono ?_
      rintro e w2 ⟨rfl, rfl⟩
      go_wp2_with fail
      refine (known_any _).mono ?_
      rintro e w3 ⟨rfl, hb3⟩
      go_wp2_with fail
      go_ret
      exact ⟨rfl, hb1.trans (hb3.mono hb1.size)⟩
  · obtain ⟨la, lc, rfl, _⟩ := h
    obtain ⟨ma, mc, rfl, _⟩ := h'
    go_enter Try.func9, Try.ntmps9
    go_wp2_with fail
    refine (known_any _).mono ?_
    rintro e w1 ⟨rfl, hb1⟩
    go_wp2_with fail
    refine (small_no _ _ _ (by omega)).mono ?_
    rintro e w2 ⟨rfl, rfl⟩
    go_wp2_with fail
    refine (known_any _).mono ?_
    rintro e w3 ⟨rfl, hb3⟩
    go_wp2_with fail
    go_ret
    exact ⟨rfl, hb1.trans (hb3.mono hb1.size)⟩

end Go.Proofs.Ytkklbmnbjmicnaa
