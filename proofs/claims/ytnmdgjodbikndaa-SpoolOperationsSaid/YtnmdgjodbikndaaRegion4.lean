/- A region that draws its order: an operation whose guard is met (the kit's wpAnyH). No program in sight. -/
import Derived.Test.YtnmdgjodbikndaaRegion3
import Derived.Test.YtnmdgjodbikndaaRegion2
namespace Go.Proofs.Ytnmdgjodbikndaa
open Go
set_option linter.unusedVariables false
set_option linter.unusedSimpArgs false

section
variable {P : Program} {ops : Array Oper} {Q : Exit → Act → World → Prop} {md : Region.Mode} {S : World → Prop}
theorem wpAnyH_want {i : Nat} {oi : Oper} {fuel : Nat} {listed : Array Bool} {a : Act} {w : World} (hr : Region.ready md ops listed = [i]) (hi' : ops.toList[i]? = some oi) (hw : Region.wanted oi (yielded ops a.tmps) = true)
    (h : ∀ K : Act → World → Prop, (∀ a' w', S w' → wpAnyH P md ops Q S fuel (listed.setIfInBounds i true) a' w' → K a' w') → oi.wp P a w K Q) : wpAnyH P md ops Q S (fuel + 1) listed a w := by
  have hi : ops[i]? = some oi := by simpa using hi'
  refine wpAnyH_all hr (by simp) fun j hj => ?_
  obtain rfl := List.mem_singleton.1 hj
  unfold wpOp
  simp only [hi]
  rw [if_pos hw]
  exact .inl (h _ (fun a' w' h1 h2 => ⟨h1, h2⟩))
end

end Go.Proofs.Ytnmdgjodbikndaa
