/-
  No cell of these rows narrows 'for every input' (looked for: loops, veiled, ifaces, maps, wideKeys, modest, calm, conditions, laid).
  DERIVED. THE GIVEN ROWS OF THIS SEAT. 8 by the template 'for every input the law returns true; each argument reads behind the call as it read before'; 0 by the template 'total and deterministic' (their statements: YtjjanjhoaiannaaTotals.lean).
  GIVEN WITH THE SEED: the statements are not yours to turn. If you find one false, say at which input.
  Laid BY PROGRAM, IN A SANDBOX (cutbox-rows.mjs): the forced cells as the released guide's own fill.sh prints them over the translation c22faadcb66b5b40… (all of the seat's roots in one cut). By AI agents, Wed Nov 11 2026. No macro, syntax, notation, axiom, sorry.
-/
import Derived.Test.YtjjanjhoaiannaaChecked
import GoSem.Claim
import GoSem.ClaimJoined
import GoSem.ClaimMapViews
import Derived.JoinedTies
import Derived.KernelRfl
namespace Go.Proofs.Ytjjanjhoaiannaa
/- THE CELL 'sum', in the pinned program and in every row, IS THE sha256 OF THE DUMP (.gsa) THAT YtjjanjhoaiannaaProg.lean LOADS. Nothing in Lean hashes anything: it is a label: what it is worth is what the hold of that sum in a sandbox is worth. -/
noncomputable def Try.pinned : Pinned := { name := "ytjjanjhoaiannaa", sum := "c22faadcb66b5b40233af7a5a1b81ae604ea62ad1d71b57c39686ac78237a864", checked := Try.checked }
namespace Rows
def none {H : Type} : Left H := { results := [], args := [] }

/-- 'bulletinlaw44.VisibilityClosed': WHATEVER THE INPUT: true; the input reads as it did. -/
def visibilityClosedSpec : ChangeSpec := { name := "visibilityClosed", fn := fun _ => fun
  | [d1, d2, d3] => { results := [.lit (.bool true)], args := [d1, d2, d3] }
  | _ => none }
def visibilityClosedRow : OpenClaim := { program := "ytjjanjhoaiannaa", sum := "c22faadcb66b5b40233af7a5a1b81ae604ea62ad1d71b57c39686ac78237a864", func := "bulletin/bulletinlaw44.VisibilityClosed", spec := "visibilityClosed", inPlace := ["internal/bytealg.Compare"], unfollowed := true, recurses := true, plainKeys := false, apart := false }
def VisibilityClosedSaid : Prop := visibilityClosedRow.holds Try.pinned (OpenSpec.ofChange visibilityClosedSpec)

/-- ITS FALSE NEIGHBOUR: 'it returns false'. Refute it at one input. -/
def visibilityClosedWrong : ChangeSpec := { name := "visibilityClosed", fn := fun _ => fun
  | [d1, d2, d3] => { results := [.lit (.bool false)], args := [d1, d2, d3] }
  | _ => none }
def VisibilityClosedWrongFalsely : Prop := visibilityClosedRow.holds Try.pinned (OpenSpec.ofChange visibilityClosedWrong)

/-- 'bulletinlaw44.VisibilityMonotone': WHATEVER THE INPUT: true; the input reads as it did. -/
def visibilityMonotoneSpec : ChangeSpec := { name := "visibilityMonotone", fn := fun _ => fun
  | [d1, d2, d3, d4, d5] => { results := [.lit (.bool true)], args := [d1, d2, d3, d4, d5] }
  | _ => none }
def visibilityMonotoneRow : OpenClaim := { program := "ytjjanjhoaiannaa", sum := "c22faadcb66b5b40233af7a5a1b81ae604ea62ad1d71b57c39686ac78237a864", func := "bulletin/bulletinlaw44.VisibilityMonotone", spec := "visibilityMonotone", inPlace := ["internal/bytealg.Compare"], unfollowed := true, recurses := true, plainKeys := false, apart := false }
def VisibilityMonotoneSaid : Prop := visibilityMonotoneRow.holds Try.pinned (OpenSpec.ofChange visibilityMonotoneSpec)

/-- ITS FALSE NEIGHBOUR: 'it returns false'. Refute it at one input. -/
def visibilityMonotoneWrong : ChangeSpec := { name := "visibilityMonotone", fn := fun _ => fun
  | [d1, d2, d3, d4, d5] => { results := [.lit (.bool false)], args := [d1, d2, d3, d4, d5] }
  | _ => none }
def VisibilityMonotoneWrongFalsely : Prop := visibilityMonotoneRow.holds Try.pinned (OpenSpec.ofChange visibilityMonotoneWrong)

/-- 'bulletinlaw44.VisibilityHole': WHATEVER THE INPUT: true; the input reads as it did. -/
def visibilityHoleSpec : ChangeSpec := { name := "visibilityHole", fn := fun _ => fun
  | [d1, d2, d3, d4] => { results := [.lit (.bool true)], args := [d1, d2, d3, d4] }
  | _ => none }
def visibilityHoleRow : OpenClaim := { program := "ytjjanjhoaiannaa", sum := "c22faadcb66b5b40233af7a5a1b81ae604ea62ad1d71b57c39686ac78237a864", func := "bulletin/bulletinlaw44.VisibilityHole", spec := "visibilityHole", inPlace := ["internal/bytealg.Compare"], unfollowed := true, recurses := true, plainKeys := false, apart := false }
def VisibilityHoleSaid : Prop := visibilityHoleRow.holds Try.pinned (OpenSpec.ofChange visibilityHoleSpec)

/-- ITS FALSE NEIGHBOUR: 'it returns false'. Refute it at one input. -/
def visibilityHoleWrong : ChangeSpec := { name := "visibilityHole", fn := fun _ => fun
  | [d1, d2, d3, d4] => { results := [.lit (.bool false)], args := [d1, d2, d3, d4] }
  | _ => none }
def VisibilityHoleWrongFalsely : Prop := visibilityHoleRow.holds Try.pinned (OpenSpec.ofChange visibilityHoleWrong)

/-- 'bulletinlaw44.VisibilityNext': WHATEVER THE INPUT: true; the input reads as it did. -/
def visibilityNextSpec : ChangeSpec := { name := "visibilityNext", fn := fun _ => fun
  | [d1, d2, d3] => { results := [.lit (.bool true)], args := [d1, d2, d3] }
  | _ => none }
def visibilityNextRow : OpenClaim := { program := "ytjjanjhoaiannaa", sum := "c22faadcb66b5b40233af7a5a1b81ae604ea62ad1d71b57c39686ac78237a864", func := "bulletin/bulletinlaw44.VisibilityNext", spec := "visibilityNext", inPlace := ["internal/bytealg.Compare"], unfollowed := true, recurses := true, plainKeys := false, apart := false }
def VisibilityNextSaid : Prop := visibilityNextRow.holds Try.pinned (OpenSpec.ofChange visibilityNextSpec)

/-- ITS FALSE NEIGHBOUR: 'it returns false'. Refute it at one input. -/
def visibilityNextWrong : ChangeSpec := { name := "visibilityNext", fn := fun _ => fun
  | [d1, d2, d3] => { results := [.lit (.bool false)], args := [d1, d2, d3] }
  | _ => none }
def VisibilityNextWrongFalsely : Prop := visibilityNextRow.holds Try.pinned (OpenSpec.ofChange visibilityNextWrong)

/-- 'bulletinlaw44.VisibilityListing': WHATEVER THE INPUT: true; the input reads as it did. -/
def visibilityListingSpec : ChangeSpec := { name := "visibilityListing", fn := fun _ => fun
  | [d1, d2, d3] => { results := [.lit (.bool true)], args := [d1, d2, d3] }
  | _ => none }
def visibilityListingRow : OpenClaim := { program := "ytjjanjhoaiannaa", sum := "c22faadcb66b5b40233af7a5a1b81ae604ea62ad1d71b57c39686ac78237a864", func := "bulletin/bulletinlaw44.VisibilityListing", spec := "visibilityListing", inPlace := ["internal/bytealg.Compare"], unfollowed := true, recurses := true, plainKeys := false, apart := false }
def VisibilityListingSaid : Prop := visibilityListingRow.holds Try.pinned (OpenSpec.ofChange visibilityListingSpec)

/-- ITS FALSE NEIGHBOUR: 'it returns false'. Refute it at one input. -/
def visibilityListingWrong : ChangeSpec := { name := "visibilityListing", fn := fun _ => fun
  | [d1, d2, d3] => { results := [.lit (.bool false)], args := [d1, d2, d3] }
  | _ => none }
def VisibilityListingWrongFalsely : Prop := visibilityListingRow.holds Try.pinned (OpenSpec.ofChange visibilityListingWrong)

/-- 'bulletinlaw44.VisibilityPrecedes': WHATEVER THE INPUT: true; the input reads as it did. -/
def visibilityPrecedesSpec : ChangeSpec := { name := "visibilityPrecedes", fn := fun _ => fun
  | [d1, d2, d3] => { results := [.lit (.bool true)], args := [d1, d2, d3] }
  | _ => none }
def visibilityPrecedesRow : OpenClaim := { program := "ytjjanjhoaiannaa", sum := "c22faadcb66b5b40233af7a5a1b81ae604ea62ad1d71b57c39686ac78237a864", func := "bulletin/bulletinlaw44.VisibilityPrecedes", spec := "visibilityPrecedes", inPlace := ["internal/bytealg.Compare"], unfollowed := true, recurses := true, plainKeys := false, apart := false }
def VisibilityPrecedesSaid : Prop := visibilityPrecedesRow.holds Try.pinned (OpenSpec.ofChange visibilityPrecedesSpec)

/-- ITS FALSE NEIGHBOUR: 'it returns false'. Refute it at one input. -/
def visibilityPrecedesWrong : ChangeSpec := { name := "visibilityPrecedes", fn := fun _ => fun
  | [d1, d2, d3] => { results := [.lit (.bool false)], args := [d1, d2, d3] }
  | _ => none }
def VisibilityPrecedesWrongFalsely : Prop := visibilityPrecedesRow.holds Try.pinned (OpenSpec.ofChange visibilityPrecedesWrong)

/-- 'bulletinlaw44.VisibilityOrder': WHATEVER THE INPUT: true; the input reads as it did. -/
def visibilityOrderSpec : ChangeSpec := { name := "visibilityOrder", fn := fun _ => fun
  | [d1, d2, d3, d4] => { results := [.lit (.bool true)], args := [d1, d2, d3, d4] }
  | _ => none }
def visibilityOrderRow : OpenClaim := { program := "ytjjanjhoaiannaa", sum := "c22faadcb66b5b40233af7a5a1b81ae604ea62ad1d71b57c39686ac78237a864", func := "bulletin/bulletinlaw44.VisibilityOrder", spec := "visibilityOrder", inPlace := ["internal/bytealg.Compare"], unfollowed := true, recurses := true, plainKeys := false, apart := false }
def VisibilityOrderSaid : Prop := visibilityOrderRow.holds Try.pinned (OpenSpec.ofChange visibilityOrderSpec)

/-- ITS FALSE NEIGHBOUR: 'it returns false'. Refute it at one input. -/
def visibilityOrderWrong : ChangeSpec := { name := "visibilityOrder", fn := fun _ => fun
  | [d1, d2, d3, d4] => { results := [.lit (.bool false)], args := [d1, d2, d3, d4] }
  | _ => none }
def VisibilityOrderWrongFalsely : Prop := visibilityOrderRow.holds Try.pinned (OpenSpec.ofChange visibilityOrderWrong)

/-- 'bulletinlaw44.VisibilityShown': WHATEVER THE INPUT: true; the input reads as it did. -/
def visibilityShownSpec : ChangeSpec := { name := "visibilityShown", fn := fun _ => fun
  | [d1, d2, d3] => { results := [.lit (.bool true)], args := [d1, d2, d3] }
  | _ => none }
def visibilityShownRow : OpenClaim := { program := "ytjjanjhoaiannaa", sum := "c22faadcb66b5b40233af7a5a1b81ae604ea62ad1d71b57c39686ac78237a864", func := "bulletin/bulletinlaw44.VisibilityShown", spec := "visibilityShown", inPlace := ["internal/bytealg.Compare"], unfollowed := true, recurses := true, plainKeys := false, apart := false }
def VisibilityShownSaid : Prop := visibilityShownRow.holds Try.pinned (OpenSpec.ofChange visibilityShownSpec)

/-- ITS FALSE NEIGHBOUR: 'it returns false'. Refute it at one input. -/
def visibilityShownWrong : ChangeSpec := { name := "visibilityShown", fn := fun _ => fun
  | [d1, d2, d3] => { results := [.lit (.bool false)], args := [d1, d2, d3] }
  | _ => none }
def VisibilityShownWrongFalsely : Prop := visibilityShownRow.holds Try.pinned (OpenSpec.ofChange visibilityShownWrong)

/- THE SECOND FORM. 'bulk': how many values and letters a reading holds, each counted each time it is reached (what is shared counts as often as it is met; a slice's spare places count too). A statement '..UptoSaid' is the law's where the arguments, and the package variables that the reading takes, are together of bulk at most 1048576: NARROWER than '..Said'. Prove '..Said' where nothing that the law and all that it calls make is longer than what came in: it says more and counts as full. Else prove '..UptoSaid'. A law counts once. -/
mutual
def uptoBulk {H : Type} : DataW H → Nat
  | .lit (.string bytes) => bytes.length + 1
  | .lit _ => 1
  | .nil => 1
  | .ptr d => uptoBulk d + 1
  | .slice elems spare => uptoBulkAll elems + uptoBulkAll spare + 1
  | .agg parts => uptoBulkAll parts + 1
  | .iface _ d => uptoBulk d + 1
  | .map entries => uptoBulkEntries entries + 1
  | .held _ => 1
def uptoBulkAll {H : Type} : List (DataW H) → Nat
  | [] => 0
  | d :: r => uptoBulk d + uptoBulkAll r
def uptoBulkEntries {H : Type} : List (Lit × DataW H) → Nat
  | [] => 0
  | x :: r => uptoBulkEntry x + uptoBulkEntries r
def uptoBulkEntry {H : Type} : Lit × DataW H → Nat
  | (.string bytes, d) => bytes.length + uptoBulk d + 1
  | (_, d) => uptoBulk d + 1
 end
def uptoSmall : (H : Type) → List (DataW H) → Bool := fun _ ds => decide (uptoBulkAll ds ≤ 1048576)
def OpenSpec.upto (s : _root_.Go.ChangeSpec) : _root_.Go.OpenSpec := { _root_.Go.OpenSpec.ofChange s with cond := some uptoSmall }

/-- 'bulletinlaw44.VisibilityClosed', WHERE WHAT IT READS IS OF BULK AT MOST 1048576: true; the input reads as it did. -/
def visibilityClosedUptoRow : OpenClaim := { program := "ytjjanjhoaiannaa", sum := "c22faadcb66b5b40233af7a5a1b81ae604ea62ad1d71b57c39686ac78237a864", func := "bulletin/bulletinlaw44.VisibilityClosed", spec := "visibilityClosed", inPlace := ["internal/bytealg.Compare"], unfollowed := true, recurses := true, plainKeys := false, apart := false, narrowed := true }
def VisibilityClosedUptoSaid : Prop := visibilityClosedUptoRow.holds Try.pinned (OpenSpec.upto visibilityClosedSpec)

/-- 'bulletinlaw44.VisibilityMonotone', WHERE WHAT IT READS IS OF BULK AT MOST 1048576: true; the input reads as it did. -/
def visibilityMonotoneUptoRow : OpenClaim := { program := "ytjjanjhoaiannaa", sum := "c22faadcb66b5b40233af7a5a1b81ae604ea62ad1d71b57c39686ac78237a864", func := "bulletin/bulletinlaw44.VisibilityMonotone", spec := "visibilityMonotone", inPlace := ["internal/bytealg.Compare"], unfollowed := true, recurses := true, plainKeys := false, apart := false, narrowed := true }
def VisibilityMonotoneUptoSaid : Prop := visibilityMonotoneUptoRow.holds Try.pinned (OpenSpec.upto visibilityMonotoneSpec)

/-- 'bulletinlaw44.VisibilityHole', WHERE WHAT IT READS IS OF BULK AT MOST 1048576: true; the input reads as it did. -/
def visibilityHoleUptoRow : OpenClaim := { program := "ytjjanjhoaiannaa", sum := "c22faadcb66b5b40233af7a5a1b81ae604ea62ad1d71b57c39686ac78237a864", func := "bulletin/bulletinlaw44.VisibilityHole", spec := "visibilityHole", inPlace := ["internal/bytealg.Compare"], unfollowed := true, recurses := true, plainKeys := false, apart := false, narrowed := true }
def VisibilityHoleUptoSaid : Prop := visibilityHoleUptoRow.holds Try.pinned (OpenSpec.upto visibilityHoleSpec)

/-- 'bulletinlaw44.VisibilityNext', WHERE WHAT IT READS IS OF BULK AT MOST 1048576: true; the input reads as it did. -/
def visibilityNextUptoRow : OpenClaim := { program := "ytjjanjhoaiannaa", sum := "c22faadcb66b5b40233af7a5a1b81ae604ea62ad1d71b57c39686ac78237a864", func := "bulletin/bulletinlaw44.VisibilityNext", spec := "visibilityNext", inPlace := ["internal/bytealg.Compare"], unfollowed := true, recurses := true, plainKeys := false, apart := false, narrowed := true }
def VisibilityNextUptoSaid : Prop := visibilityNextUptoRow.holds Try.pinned (OpenSpec.upto visibilityNextSpec)

/-- 'bulletinlaw44.VisibilityListing', WHERE WHAT IT READS IS OF BULK AT MOST 1048576: true; the input reads as it did. -/
def visibilityListingUptoRow : OpenClaim := { program := "ytjjanjhoaiannaa", sum := "c22faadcb66b5b40233af7a5a1b81ae604ea62ad1d71b57c39686ac78237a864", func := "bulletin/bulletinlaw44.VisibilityListing", spec := "visibilityListing", inPlace := ["internal/bytealg.Compare"], unfollowed := true, recurses := true, plainKeys := false, apart := false, narrowed := true }
def VisibilityListingUptoSaid : Prop := visibilityListingUptoRow.holds Try.pinned (OpenSpec.upto visibilityListingSpec)

/-- 'bulletinlaw44.VisibilityPrecedes', WHERE WHAT IT READS IS OF BULK AT MOST 1048576: true; the input reads as it did. -/
def visibilityPrecedesUptoRow : OpenClaim := { program := "ytjjanjhoaiannaa", sum := "c22faadcb66b5b40233af7a5a1b81ae604ea62ad1d71b57c39686ac78237a864", func := "bulletin/bulletinlaw44.VisibilityPrecedes", spec := "visibilityPrecedes", inPlace := ["internal/bytealg.Compare"], unfollowed := true, recurses := true, plainKeys := false, apart := false, narrowed := true }
def VisibilityPrecedesUptoSaid : Prop := visibilityPrecedesUptoRow.holds Try.pinned (OpenSpec.upto visibilityPrecedesSpec)

/-- 'bulletinlaw44.VisibilityOrder', WHERE WHAT IT READS IS OF BULK AT MOST 1048576: true; the input reads as it did. -/
def visibilityOrderUptoRow : OpenClaim := { program := "ytjjanjhoaiannaa", sum := "c22faadcb66b5b40233af7a5a1b81ae604ea62ad1d71b57c39686ac78237a864", func := "bulletin/bulletinlaw44.VisibilityOrder", spec := "visibilityOrder", inPlace := ["internal/bytealg.Compare"], unfollowed := true, recurses := true, plainKeys := false, apart := false, narrowed := true }
def VisibilityOrderUptoSaid : Prop := visibilityOrderUptoRow.holds Try.pinned (OpenSpec.upto visibilityOrderSpec)

/-- 'bulletinlaw44.VisibilityShown', WHERE WHAT IT READS IS OF BULK AT MOST 1048576: true; the input reads as it did. -/
def visibilityShownUptoRow : OpenClaim := { program := "ytjjanjhoaiannaa", sum := "c22faadcb66b5b40233af7a5a1b81ae604ea62ad1d71b57c39686ac78237a864", func := "bulletin/bulletinlaw44.VisibilityShown", spec := "visibilityShown", inPlace := ["internal/bytealg.Compare"], unfollowed := true, recurses := true, plainKeys := false, apart := false, narrowed := true }
def VisibilityShownUptoSaid : Prop := visibilityShownUptoRow.holds Try.pinned (OpenSpec.upto visibilityShownSpec)

end Rows
end Go.Proofs.Ytjjanjhoaiannaa
