/- Drawn regions: two or three operations that may come next. -/
import Derived.Test.YtnmdgjodbikndaaRegion3
namespace Go.Proofs.Ytnmdgjodbikndaa
open Go
set_option linter.unusedVariables false
set_option linter.unusedSimpArgs false

section
variable {P : Program} {ops : Array Oper} {Q : Exit → Act → World → Prop} {md : Region.Mode} {S : World → Prop}
theorem wpAnyH_some {rs : List Nat} {fuel : Nat} {listed : Array Bool} {a : Act} {w : World} (hr : Region.ready md ops listed = rs) (hne : rs ≠ [])
    (h : ∀ i ∈ rs, ∃ oi, ops.toList[i]? = some oi ∧ oi.guard = none ∧ ∀ K : Act → World → Prop, (∀ a' w', S w' → wpAnyH P md ops Q S fuel (listed.setIfInBounds i true) a' w' → K a' w') → oi.wp P a w K Q) : wpAnyH P md ops Q S (fuel + 1) listed a w := by
  refine wpAnyH_all hr hne fun j hj => ?_
  obtain ⟨oj, hj', hg, h⟩ := h j hj
  have hj2 : ops[j]? = some oj := by simpa using hj'
  unfold wpOp
  simp only [hj2]
  rw [if_pos (by simp [Region.wanted, hg])]
  exact .inl (h _ (fun a' w' h1 h2 => ⟨h1, h2⟩))
theorem wpAnyH_two {i j : Nat} {oi oj : Oper} {fuel : Nat} {listed : Array Bool} {a : Act} {w : World} (hr : Region.ready md ops listed = [i, j]) (hi' : ops.toList[i]? = some oi) (hj' : ops.toList[j]? = some oj) (hg : oi.guard = none) (hg2 : oj.guard = none)
    (h1 : ∀ K : Act → World → Prop, (∀ a' w', S w' → wpAnyH P md ops Q S fuel (listed.setIfInBounds i true) a' w' → K a' w') → oi.wp P a w K Q)
    (h2 : ∀ K : Act → World → Prop, (∀ a' w', S w' → wpAnyH P md ops Q S fuel (listed.setIfInBounds j true) a' w' → K a' w') → oj.wp P a w K Q) :
    wpAnyH P md ops Q S (fuel + 1) listed a w :=
  wpAnyH_some hr (by simp) fun x hx => by
    rcases List.mem_cons.1 hx with rfl | hx
    · exact ⟨oi, hi', hg, h1⟩
    · obtain rfl := List.mem_singleton.1 hx
      exact ⟨oj, hj', hg2, h2⟩
theorem wpAnyH_three {i j l : Nat} {oi oj ol : Oper} {fuel : Nat} {listed : Array Bool} {a : Act} {w : World} (hr : Region.ready md ops listed = [i, j, l]) (hi' : ops.toList[i]? = some oi) (hj' : ops.toList[j]? = some oj) (hl' : ops.toList[l]? = some ol) (hg : oi.guard = none) (hg2 : oj.guard = none) (hg3 : ol.guard = none)
    (h1 : ∀ K : Act → World → Prop, (∀ a' w', S w' → wpAnyH P md ops Q S fuel (listed.setIfInBounds i true) a' w' → K a' w') → oi.wp P a w K Q)
    (h2 : ∀ K : Act → World → Prop, (∀ a' w', S w' → wpAnyH P md ops Q S fuel (listed.setIfInBounds j true) a' w' → K a' w') → oj.wp P a w K Q)
    (h3 : ∀ K : Act → World → Prop, (∀ a' w', S w' → wpAnyH P md ops Q S fuel (listed.setIfInBounds l true) a' w' → K a' w') → ol.wp P a w K Q) :
    wpAnyH P md ops Q S (fuel + 1) listed a w :=
  wpAnyH_some hr (by simp) fun x hx => by
    rcases List.mem_cons.1 hx with rfl | hx
    · exact ⟨oi, hi', hg, h1⟩
    · rcases List.mem_cons.1 hx with rfl | hx
      · exact ⟨oj, hj', hg2, h2⟩
      · obtain rfl := List.mem_singleton.1 hx
        exact ⟨ol, hl', hg3, h3⟩
end

end Go.Proofs.Ytnmdgjodbikndaa
