/- The reference's Same: states that differ in their sizes or switches. -/
import Derived.Test.YtkklbmnbjmicnaaEq4
namespace Go.Proofs.Ytkklbmnbjmicnaa
open Go.RowKit Go.Shelf
set_option linter.unusedVariables false
set_option linter.unusedSimpArgs false

set_option maxRecDepth 100000 in
set_option maxHeartbeats 2000000 in
theorem Same_head {w : World} (a1 a2 a3 a4 : Option Addr) (n n' p p' r1 r2 r3 r4 : Nat) (i i' j j' : Int) (d d' : Bool) (hne : ¬ ((n : Int) = (n' : Int) ∧ (p : Int) = (p' : Int) ∧ d = d' ∧ i = i')) :
    Calls Try.prog 33 #[.agg #[.slice a1 n r1, .slice a2 p r2, .int .i64 i, .bool d, .int .i64 j], .agg #[.slice a3 n' r3, .slice a4 p' r4, .int .i64 i', .bool d', .int .i64 j']] w fun e w' => e = .returned (.bool false) ∧ Below w.heap.size w w' := by
  by_cases h1 : (n : Int) = (n' : Int)
  · by_cases h2 : (p : Int) = (p' : Int)
    · by_cases h3 : d = d'
      · subst h3
        have h4 : ¬ i = i' := fun e => hne ⟨h1, h2, rfl, e⟩
        have h5 : (i != i') = true := by simpa using h4
        have h6 : ((n : Int) != (n' : Int)) = false := by simpa using h1
        have h7 : ((p : Int) != (p' : Int)) = false := by simpa using h2
        clear hne
        go_enter Try.func33, Try.ntmps33
        go_wp2_with fail
        go_ret
        exact ⟨rfl, ((Below.refl _ _).alloc (Nat.le_refl _) _).alloc (by simp) _⟩
      · have h6 : ((n : Int) != (n' : Int)) = false := by simpa using h1
        have h7 : ((p : Int) != (p' : Int)) = false := by simpa using h2
        clear hne
        obtain ⟨rfl, rfl⟩ | ⟨rfl, rfl⟩ : (d = true ∧ d' = false) ∨ (d = false ∧ d' = true) := by cases d <;> cases d' <;> simp_all
        · go_enter Try.func33, Try.ntmps33
          go_wp2_with fail
          go_ret
          exact ⟨rfl, ((Below.refl _ _).alloc (Nat.le_refl _) _).alloc (by simp) _⟩
        · go_enter Try.func33, Try.ntmps33
          go_wp2_with fail
          go_ret
          exact ⟨rfl, ((Below.refl _ _).alloc (Nat.le_refl _) _).alloc (by simp) _⟩
    · have h5 : ((p : Int) != (p' : Int)) = true := by simpa using h2
      have h6 : ((n : Int) != (n' : Int)) = false := by simpa using h1
      clear hne
      go_enter Try.func33, Try.ntmps33
      go_wp2_with fail
      go_ret
      exact ⟨rfl, ((Below.refl _ _).alloc (Nat.le_refl _) _).alloc (by simp) _⟩
  · have h5 : ((n : Int) != (n' : Int)) = true := by simpa using h1
    clear hne
    go_enter Try.func33, Try.ntmps33
    go_wp2_with fail
    go_ret
    exact ⟨rfl, ((Below.refl _ _).alloc (Nat.le_refl _) _).alloc (by simp) _⟩

end Go.Proofs.Ytkklbmnbjmicnaa
