/-
  No cell of these rows narrows 'for every input' (looked for: loops, veiled, ifaces, maps, wideKeys, modest, calm, conditions, laid).
  DERIVED. THE GIVEN ROWS OF THIS SEAT. 13 by the template 'for every input the law returns true; each argument reads behind the call as it read before'; 0 by the template 'total and deterministic' (their statements: YthfinofmbnfijaaTotals.lean).
  GIVEN WITH THE SEED: the statements are not yours to turn. If you find one false, say at which input.
  Laid BY PROGRAM, IN A SANDBOX (cutbox-rows.mjs): the forced cells as the released guide's own fill.sh prints them over the translation 07dc9ef9756a8561… (all of the seat's roots in one cut). By AI agents, Wed Nov 11 2026. No macro, syntax, notation, axiom, sorry.
-/
import Derived.Test.YthfinofmbnfijaaChecked
import GoSem.Claim
import GoSem.ClaimJoined
import GoSem.ClaimMapViews
import Derived.JoinedTies
import Derived.KernelRfl
namespace Go.Proofs.Ythfinofmbnfijaa
/- THE CELL 'sum', in the pinned program and in every row, IS THE sha256 OF THE DUMP (.gsa) THAT YthfinofmbnfijaaProg.lean LOADS. Nothing in Lean hashes anything: it is a label: what it is worth is what the hold of that sum in a sandbox is worth. -/
noncomputable def Try.pinned : Pinned := { name := "ythfinofmbnfijaa", sum := "07dc9ef9756a85619519563ebd1ccf90b2222179beb33345435f8f6fa608fc65", checked := Try.checked }
namespace Rows
def none {H : Type} : Left H := { results := [], args := [] }

/-- 'bulletinlaw43.ThreadBuilds': WHATEVER THE INPUT: true; the input reads as it did. -/
def threadBuildsSpec : ChangeSpec := { name := "threadBuilds", fn := fun _ => fun
  | [d] => { results := [.lit (.bool true)], args := [d] }
  | _ => none }
def threadBuildsRow : OpenClaim := { program := "ythfinofmbnfijaa", sum := "07dc9ef9756a85619519563ebd1ccf90b2222179beb33345435f8f6fa608fc65", func := "bulletin/bulletinlaw43.ThreadBuilds", spec := "threadBuilds", inPlace := ["internal/bytealg.Compare"], unfollowed := true, recurses := true, plainKeys := false, apart := false }
def ThreadBuildsSaid : Prop := threadBuildsRow.holds Try.pinned (OpenSpec.ofChange threadBuildsSpec)

/-- ITS FALSE NEIGHBOUR: 'it returns false'. Refute it at one input. -/
def threadBuildsWrong : ChangeSpec := { name := "threadBuilds", fn := fun _ => fun
  | [d] => { results := [.lit (.bool false)], args := [d] }
  | _ => none }
def ThreadBuildsWrongFalsely : Prop := threadBuildsRow.holds Try.pinned (OpenSpec.ofChange threadBuildsWrong)

/-- 'bulletinlaw43.ThreadRows': WHATEVER THE INPUT: true; the input reads as it did. -/
def threadRowsSpec : ChangeSpec := { name := "threadRows", fn := fun _ => fun
  | [d] => { results := [.lit (.bool true)], args := [d] }
  | _ => none }
def threadRowsRow : OpenClaim := { program := "ythfinofmbnfijaa", sum := "07dc9ef9756a85619519563ebd1ccf90b2222179beb33345435f8f6fa608fc65", func := "bulletin/bulletinlaw43.ThreadRows", spec := "threadRows", inPlace := ["internal/bytealg.Compare"], unfollowed := true, recurses := true, plainKeys := false, apart := false }
def ThreadRowsSaid : Prop := threadRowsRow.holds Try.pinned (OpenSpec.ofChange threadRowsSpec)

/-- ITS FALSE NEIGHBOUR: 'it returns false'. Refute it at one input. -/
def threadRowsWrong : ChangeSpec := { name := "threadRows", fn := fun _ => fun
  | [d] => { results := [.lit (.bool false)], args := [d] }
  | _ => none }
def ThreadRowsWrongFalsely : Prop := threadRowsRow.holds Try.pinned (OpenSpec.ofChange threadRowsWrong)

/-- 'bulletinlaw43.ThreadOrder': WHATEVER THE INPUT: true; the input reads as it did. -/
def threadOrderSpec : ChangeSpec := { name := "threadOrder", fn := fun _ => fun
  | [d1, d2] => { results := [.lit (.bool true)], args := [d1, d2] }
  | _ => none }
def threadOrderRow : OpenClaim := { program := "ythfinofmbnfijaa", sum := "07dc9ef9756a85619519563ebd1ccf90b2222179beb33345435f8f6fa608fc65", func := "bulletin/bulletinlaw43.ThreadOrder", spec := "threadOrder", inPlace := ["internal/bytealg.Compare"], unfollowed := true, recurses := true, plainKeys := false, apart := false }
def ThreadOrderSaid : Prop := threadOrderRow.holds Try.pinned (OpenSpec.ofChange threadOrderSpec)

/-- ITS FALSE NEIGHBOUR: 'it returns false'. Refute it at one input. -/
def threadOrderWrong : ChangeSpec := { name := "threadOrder", fn := fun _ => fun
  | [d1, d2] => { results := [.lit (.bool false)], args := [d1, d2] }
  | _ => none }
def ThreadOrderWrongFalsely : Prop := threadOrderRow.holds Try.pinned (OpenSpec.ofChange threadOrderWrong)

/-- 'bulletinlaw43.ThreadAnswers': WHATEVER THE INPUT: true; the input reads as it did. -/
def threadAnswersSpec : ChangeSpec := { name := "threadAnswers", fn := fun _ => fun
  | [d] => { results := [.lit (.bool true)], args := [d] }
  | _ => none }
def threadAnswersRow : OpenClaim := { program := "ythfinofmbnfijaa", sum := "07dc9ef9756a85619519563ebd1ccf90b2222179beb33345435f8f6fa608fc65", func := "bulletin/bulletinlaw43.ThreadAnswers", spec := "threadAnswers", inPlace := ["internal/bytealg.Compare"], unfollowed := true, recurses := true, plainKeys := false, apart := false }
def ThreadAnswersSaid : Prop := threadAnswersRow.holds Try.pinned (OpenSpec.ofChange threadAnswersSpec)

/-- ITS FALSE NEIGHBOUR: 'it returns false'. Refute it at one input. -/
def threadAnswersWrong : ChangeSpec := { name := "threadAnswers", fn := fun _ => fun
  | [d] => { results := [.lit (.bool false)], args := [d] }
  | _ => none }
def ThreadAnswersWrongFalsely : Prop := threadAnswersRow.holds Try.pinned (OpenSpec.ofChange threadAnswersWrong)

/-- 'bulletinlaw43.ThreadChecks': WHATEVER THE INPUT: true; the input reads as it did. -/
def threadChecksSpec : ChangeSpec := { name := "threadChecks", fn := fun _ => fun
  | [d1, d2] => { results := [.lit (.bool true)], args := [d1, d2] }
  | _ => none }
def threadChecksRow : OpenClaim := { program := "ythfinofmbnfijaa", sum := "07dc9ef9756a85619519563ebd1ccf90b2222179beb33345435f8f6fa608fc65", func := "bulletin/bulletinlaw43.ThreadChecks", spec := "threadChecks", inPlace := ["internal/bytealg.Compare"], unfollowed := true, recurses := true, plainKeys := false, apart := false }
def ThreadChecksSaid : Prop := threadChecksRow.holds Try.pinned (OpenSpec.ofChange threadChecksSpec)

/-- ITS FALSE NEIGHBOUR: 'it returns false'. Refute it at one input. -/
def threadChecksWrong : ChangeSpec := { name := "threadChecks", fn := fun _ => fun
  | [d1, d2] => { results := [.lit (.bool false)], args := [d1, d2] }
  | _ => none }
def ThreadChecksWrongFalsely : Prop := threadChecksRow.holds Try.pinned (OpenSpec.ofChange threadChecksWrong)

/-- 'bulletinlaw43.ThreadCompares': WHATEVER THE INPUT: true; the input reads as it did. -/
def threadComparesSpec : ChangeSpec := { name := "threadCompares", fn := fun _ => fun
  | [d1, d2] => { results := [.lit (.bool true)], args := [d1, d2] }
  | _ => none }
def threadComparesRow : OpenClaim := { program := "ythfinofmbnfijaa", sum := "07dc9ef9756a85619519563ebd1ccf90b2222179beb33345435f8f6fa608fc65", func := "bulletin/bulletinlaw43.ThreadCompares", spec := "threadCompares", inPlace := ["internal/bytealg.Compare"], unfollowed := true, recurses := true, plainKeys := false, apart := false }
def ThreadComparesSaid : Prop := threadComparesRow.holds Try.pinned (OpenSpec.ofChange threadComparesSpec)

/-- ITS FALSE NEIGHBOUR: 'it returns false'. Refute it at one input. -/
def threadComparesWrong : ChangeSpec := { name := "threadCompares", fn := fun _ => fun
  | [d1, d2] => { results := [.lit (.bool false)], args := [d1, d2] }
  | _ => none }
def ThreadComparesWrongFalsely : Prop := threadComparesRow.holds Try.pinned (OpenSpec.ofChange threadComparesWrong)

/-- 'bulletinlaw43.ThreadHoles': WHATEVER THE INPUT: true; the input reads as it did. -/
def threadHolesSpec : ChangeSpec := { name := "threadHoles", fn := fun _ => fun
  | [d1, d2] => { results := [.lit (.bool true)], args := [d1, d2] }
  | _ => none }
def threadHolesRow : OpenClaim := { program := "ythfinofmbnfijaa", sum := "07dc9ef9756a85619519563ebd1ccf90b2222179beb33345435f8f6fa608fc65", func := "bulletin/bulletinlaw43.ThreadHoles", spec := "threadHoles", inPlace := ["internal/bytealg.Compare"], unfollowed := true, recurses := true, plainKeys := false, apart := false }
def ThreadHolesSaid : Prop := threadHolesRow.holds Try.pinned (OpenSpec.ofChange threadHolesSpec)

/-- ITS FALSE NEIGHBOUR: 'it returns false'. Refute it at one input. -/
def threadHolesWrong : ChangeSpec := { name := "threadHoles", fn := fun _ => fun
  | [d1, d2] => { results := [.lit (.bool false)], args := [d1, d2] }
  | _ => none }
def ThreadHolesWrongFalsely : Prop := threadHolesRow.holds Try.pinned (OpenSpec.ofChange threadHolesWrong)

/-- 'bulletinlaw43.ThreadErrors': WHATEVER THE INPUT: true; the input reads as it did. -/
def threadErrorsSpec : ChangeSpec := { name := "threadErrors", fn := fun _ => fun
  | [d1, d2, d3] => { results := [.lit (.bool true)], args := [d1, d2, d3] }
  | _ => none }
def threadErrorsRow : OpenClaim := { program := "ythfinofmbnfijaa", sum := "07dc9ef9756a85619519563ebd1ccf90b2222179beb33345435f8f6fa608fc65", func := "bulletin/bulletinlaw43.ThreadErrors", spec := "threadErrors", inPlace := ["internal/bytealg.Compare"], unfollowed := true, recurses := true, plainKeys := false, apart := false }
def ThreadErrorsSaid : Prop := threadErrorsRow.holds Try.pinned (OpenSpec.ofChange threadErrorsSpec)

/-- ITS FALSE NEIGHBOUR: 'it returns false'. Refute it at one input. -/
def threadErrorsWrong : ChangeSpec := { name := "threadErrors", fn := fun _ => fun
  | [d1, d2, d3] => { results := [.lit (.bool false)], args := [d1, d2, d3] }
  | _ => none }
def ThreadErrorsWrongFalsely : Prop := threadErrorsRow.holds Try.pinned (OpenSpec.ofChange threadErrorsWrong)

/-- 'bulletinlaw43.ThreadParents': WHATEVER THE INPUT: true; the input reads as it did. -/
def threadParentsSpec : ChangeSpec := { name := "threadParents", fn := fun _ => fun
  | [d] => { results := [.lit (.bool true)], args := [d] }
  | _ => none }
def threadParentsRow : OpenClaim := { program := "ythfinofmbnfijaa", sum := "07dc9ef9756a85619519563ebd1ccf90b2222179beb33345435f8f6fa608fc65", func := "bulletin/bulletinlaw43.ThreadParents", spec := "threadParents", inPlace := ["internal/bytealg.Compare"], unfollowed := true, recurses := true, plainKeys := false, apart := false }
def ThreadParentsSaid : Prop := threadParentsRow.holds Try.pinned (OpenSpec.ofChange threadParentsSpec)

/-- ITS FALSE NEIGHBOUR: 'it returns false'. Refute it at one input. -/
def threadParentsWrong : ChangeSpec := { name := "threadParents", fn := fun _ => fun
  | [d] => { results := [.lit (.bool false)], args := [d] }
  | _ => none }
def ThreadParentsWrongFalsely : Prop := threadParentsRow.holds Try.pinned (OpenSpec.ofChange threadParentsWrong)

/-- 'bulletinlaw43.ThreadFinds': WHATEVER THE INPUT: true; the input reads as it did. -/
def threadFindsSpec : ChangeSpec := { name := "threadFinds", fn := fun _ => fun
  | [d1, d2] => { results := [.lit (.bool true)], args := [d1, d2] }
  | _ => none }
def threadFindsRow : OpenClaim := { program := "ythfinofmbnfijaa", sum := "07dc9ef9756a85619519563ebd1ccf90b2222179beb33345435f8f6fa608fc65", func := "bulletin/bulletinlaw43.ThreadFinds", spec := "threadFinds", inPlace := ["internal/bytealg.Compare"], unfollowed := true, recurses := true, plainKeys := false, apart := false }
def ThreadFindsSaid : Prop := threadFindsRow.holds Try.pinned (OpenSpec.ofChange threadFindsSpec)

/-- ITS FALSE NEIGHBOUR: 'it returns false'. Refute it at one input. -/
def threadFindsWrong : ChangeSpec := { name := "threadFinds", fn := fun _ => fun
  | [d1, d2] => { results := [.lit (.bool false)], args := [d1, d2] }
  | _ => none }
def ThreadFindsWrongFalsely : Prop := threadFindsRow.holds Try.pinned (OpenSpec.ofChange threadFindsWrong)

/-- 'bulletinlaw43.ThreadCuts': WHATEVER THE INPUT: true; the input reads as it did. -/
def threadCutsSpec : ChangeSpec := { name := "threadCuts", fn := fun _ => fun
  | [d1, d2] => { results := [.lit (.bool true)], args := [d1, d2] }
  | _ => none }
def threadCutsRow : OpenClaim := { program := "ythfinofmbnfijaa", sum := "07dc9ef9756a85619519563ebd1ccf90b2222179beb33345435f8f6fa608fc65", func := "bulletin/bulletinlaw43.ThreadCuts", spec := "threadCuts", inPlace := ["internal/bytealg.Compare"], unfollowed := true, recurses := true, plainKeys := false, apart := false }
def ThreadCutsSaid : Prop := threadCutsRow.holds Try.pinned (OpenSpec.ofChange threadCutsSpec)

/-- ITS FALSE NEIGHBOUR: 'it returns false'. Refute it at one input. -/
def threadCutsWrong : ChangeSpec := { name := "threadCuts", fn := fun _ => fun
  | [d1, d2] => { results := [.lit (.bool false)], args := [d1, d2] }
  | _ => none }
def ThreadCutsWrongFalsely : Prop := threadCutsRow.holds Try.pinned (OpenSpec.ofChange threadCutsWrong)

/-- 'bulletinlaw43.ThreadWalks': WHATEVER THE INPUT: true; the input reads as it did. -/
def threadWalksSpec : ChangeSpec := { name := "threadWalks", fn := fun _ => fun
  | [d1, d2] => { results := [.lit (.bool true)], args := [d1, d2] }
  | _ => none }
def threadWalksRow : OpenClaim := { program := "ythfinofmbnfijaa", sum := "07dc9ef9756a85619519563ebd1ccf90b2222179beb33345435f8f6fa608fc65", func := "bulletin/bulletinlaw43.ThreadWalks", spec := "threadWalks", inPlace := ["internal/bytealg.Compare"], unfollowed := true, recurses := true, plainKeys := false, apart := false }
def ThreadWalksSaid : Prop := threadWalksRow.holds Try.pinned (OpenSpec.ofChange threadWalksSpec)

/-- ITS FALSE NEIGHBOUR: 'it returns false'. Refute it at one input. -/
def threadWalksWrong : ChangeSpec := { name := "threadWalks", fn := fun _ => fun
  | [d1, d2] => { results := [.lit (.bool false)], args := [d1, d2] }
  | _ => none }
def ThreadWalksWrongFalsely : Prop := threadWalksRow.holds Try.pinned (OpenSpec.ofChange threadWalksWrong)

/-- 'bulletinlaw43.ThreadRecent': WHATEVER THE INPUT: true; the input reads as it did. -/
def threadRecentSpec : ChangeSpec := { name := "threadRecent", fn := fun _ => fun
  | [d1, d2] => { results := [.lit (.bool true)], args := [d1, d2] }
  | _ => none }
def threadRecentRow : OpenClaim := { program := "ythfinofmbnfijaa", sum := "07dc9ef9756a85619519563ebd1ccf90b2222179beb33345435f8f6fa608fc65", func := "bulletin/bulletinlaw43.ThreadRecent", spec := "threadRecent", inPlace := ["internal/bytealg.Compare"], unfollowed := true, recurses := true, plainKeys := false, apart := false }
def ThreadRecentSaid : Prop := threadRecentRow.holds Try.pinned (OpenSpec.ofChange threadRecentSpec)

/-- ITS FALSE NEIGHBOUR: 'it returns false'. Refute it at one input. -/
def threadRecentWrong : ChangeSpec := { name := "threadRecent", fn := fun _ => fun
  | [d1, d2] => { results := [.lit (.bool false)], args := [d1, d2] }
  | _ => none }
def ThreadRecentWrongFalsely : Prop := threadRecentRow.holds Try.pinned (OpenSpec.ofChange threadRecentWrong)

/- THE SECOND FORM. 'bulk': how many values and letters a reading holds, each counted each time it is reached (what is shared counts as often as it is met; a slice's spare places count too). A statement '..UptoSaid' is the law's where the arguments, and the package variables that the reading takes, are together of bulk at most 1048576: NARROWER than '..Said'. Prove '..Said' where nothing that the law and all that it calls make is longer than what came in: it says more and counts as full. Else prove '..UptoSaid'. A law counts once. -/
mutual
def uptoBulk {H : Type} : DataW H → Nat
  | .lit (.string bytes) => bytes.length + 1
  | .lit _ => 1
  | .nil => 1
  | .ptr d => uptoBulk d + 1
  | .slice elems spare => uptoBulkAll elems + uptoBulkAll spare + 1
  | .agg parts => uptoBulkAll parts + 1
  | .iface _ d => uptoBulk d + 1
  | .map entries => uptoBulkEntries entries + 1
  | .held _ => 1
def uptoBulkAll {H : Type} : List (DataW H) → Nat
  | [] => 0
  | d :: r => uptoBulk d + uptoBulkAll r
def uptoBulkEntries {H : Type} : List (Lit × DataW H) → Nat
  | [] => 0
  | x :: r => uptoBulkEntry x + uptoBulkEntries r
def uptoBulkEntry {H : Type} : Lit × DataW H → Nat
  | (.string bytes, d) => bytes.length + uptoBulk d + 1
  | (_, d) => uptoBulk d + 1
 end
def uptoSmall : (H : Type) → List (DataW H) → Bool := fun _ ds => decide (uptoBulkAll ds ≤ 1048576)
def OpenSpec.upto (s : _root_.Go.ChangeSpec) : _root_.Go.OpenSpec := { _root_.Go.OpenSpec.ofChange s with cond := some uptoSmall }

/-- 'bulletinlaw43.ThreadBuilds', WHERE WHAT IT READS IS OF BULK AT MOST 1048576: true; the input reads as it did. -/
def threadBuildsUptoRow : OpenClaim := { program := "ythfinofmbnfijaa", sum := "07dc9ef9756a85619519563ebd1ccf90b2222179beb33345435f8f6fa608fc65", func := "bulletin/bulletinlaw43.ThreadBuilds", spec := "threadBuilds", inPlace := ["internal/bytealg.Compare"], unfollowed := true, recurses := true, plainKeys := false, apart := false, narrowed := true }
def ThreadBuildsUptoSaid : Prop := threadBuildsUptoRow.holds Try.pinned (OpenSpec.upto threadBuildsSpec)

/-- 'bulletinlaw43.ThreadRows', WHERE WHAT IT READS IS OF BULK AT MOST 1048576: true; the input reads as it did. -/
def threadRowsUptoRow : OpenClaim := { program := "ythfinofmbnfijaa", sum := "07dc9ef9756a85619519563ebd1ccf90b2222179beb33345435f8f6fa608fc65", func := "bulletin/bulletinlaw43.ThreadRows", spec := "threadRows", inPlace := ["internal/bytealg.Compare"], unfollowed := true, recurses := true, plainKeys := false, apart := false, narrowed := true }
def ThreadRowsUptoSaid : Prop := threadRowsUptoRow.holds Try.pinned (OpenSpec.upto threadRowsSpec)

/-- 'bulletinlaw43.ThreadOrder', WHERE WHAT IT READS IS OF BULK AT MOST 1048576: true; the input reads as it did. -/
def threadOrderUptoRow : OpenClaim := { program := "ythfinofmbnfijaa", sum := "07dc9ef9756a85619519563ebd1ccf90b2222179beb33345435f8f6fa608fc65", func := "bulletin/bulletinlaw43.ThreadOrder", spec := "threadOrder", inPlace := ["internal/bytealg.Compare"], unfollowed := true, recurses := true, plainKeys := false, apart := false, narrowed := true }
def ThreadOrderUptoSaid : Prop := threadOrderUptoRow.holds Try.pinned (OpenSpec.upto threadOrderSpec)

/-- 'bulletinlaw43.ThreadAnswers', WHERE WHAT IT READS IS OF BULK AT MOST 1048576: true; the input reads as it did. -/
def threadAnswersUptoRow : OpenClaim := { program := "ythfinofmbnfijaa", sum := "07dc9ef9756a85619519563ebd1ccf90b2222179beb33345435f8f6fa608fc65", func := "bulletin/bulletinlaw43.ThreadAnswers", spec := "threadAnswers", inPlace := ["internal/bytealg.Compare"], unfollowed := true, recurses := true, plainKeys := false, apart := false, narrowed := true }
def ThreadAnswersUptoSaid : Prop := threadAnswersUptoRow.holds Try.pinned (OpenSpec.upto threadAnswersSpec)

/-- 'bulletinlaw43.ThreadChecks', WHERE WHAT IT READS IS OF BULK AT MOST 1048576: true; the input reads as it did. -/
def threadChecksUptoRow : OpenClaim := { program := "ythfinofmbnfijaa", sum := "07dc9ef9756a85619519563ebd1ccf90b2222179beb33345435f8f6fa608fc65", func := "bulletin/bulletinlaw43.ThreadChecks", spec := "threadChecks", inPlace := ["internal/bytealg.Compare"], unfollowed := true, recurses := true, plainKeys := false, apart := false, narrowed := true }
def ThreadChecksUptoSaid : Prop := threadChecksUptoRow.holds Try.pinned (OpenSpec.upto threadChecksSpec)

/-- 'bulletinlaw43.ThreadCompares', WHERE WHAT IT READS IS OF BULK AT MOST 1048576: true; the input reads as it did. -/
def threadComparesUptoRow : OpenClaim := { program := "ythfinofmbnfijaa", sum := "07dc9ef9756a85619519563ebd1ccf90b2222179beb33345435f8f6fa608fc65", func := "bulletin/bulletinlaw43.ThreadCompares", spec := "threadCompares", inPlace := ["internal/bytealg.Compare"], unfollowed := true, recurses := true, plainKeys := false, apart := false, narrowed := true }
def ThreadComparesUptoSaid : Prop := threadComparesUptoRow.holds Try.pinned (OpenSpec.upto threadComparesSpec)

/-- 'bulletinlaw43.ThreadHoles', WHERE WHAT IT READS IS OF BULK AT MOST 1048576: true; the input reads as it did. -/
def threadHolesUptoRow : OpenClaim := { program := "ythfinofmbnfijaa", sum := "07dc9ef9756a85619519563ebd1ccf90b2222179beb33345435f8f6fa608fc65", func := "bulletin/bulletinlaw43.ThreadHoles", spec := "threadHoles", inPlace := ["internal/bytealg.Compare"], unfollowed := true, recurses := true, plainKeys := false, apart := false, narrowed := true }
def ThreadHolesUptoSaid : Prop := threadHolesUptoRow.holds Try.pinned (OpenSpec.upto threadHolesSpec)

/-- 'bulletinlaw43.ThreadErrors', WHERE WHAT IT READS IS OF BULK AT MOST 1048576: true; the input reads as it did. -/
def threadErrorsUptoRow : OpenClaim := { program := "ythfinofmbnfijaa", sum := "07dc9ef9756a85619519563ebd1ccf90b2222179beb33345435f8f6fa608fc65", func := "bulletin/bulletinlaw43.ThreadErrors", spec := "threadErrors", inPlace := ["internal/bytealg.Compare"], unfollowed := true, recurses := true, plainKeys := false, apart := false, narrowed := true }
def ThreadErrorsUptoSaid : Prop := threadErrorsUptoRow.holds Try.pinned (OpenSpec.upto threadErrorsSpec)

/-- 'bulletinlaw43.ThreadParents', WHERE WHAT IT READS IS OF BULK AT MOST 1048576: true; the input reads as it did. -/
def threadParentsUptoRow : OpenClaim := { program := "ythfinofmbnfijaa", sum := "07dc9ef9756a85619519563ebd1ccf90b2222179beb33345435f8f6fa608fc65", func := "bulletin/bulletinlaw43.ThreadParents", spec := "threadParents", inPlace := ["internal/bytealg.Compare"], unfollowed := true, recurses := true, plainKeys := false, apart := false, narrowed := true }
def ThreadParentsUptoSaid : Prop := threadParentsUptoRow.holds Try.pinned (OpenSpec.upto threadParentsSpec)

/-- 'bulletinlaw43.ThreadFinds', WHERE WHAT IT READS IS OF BULK AT MOST 1048576: true; the input reads as it did. -/
def threadFindsUptoRow : OpenClaim := { program := "ythfinofmbnfijaa", sum := "07dc9ef9756a85619519563ebd1ccf90b2222179beb33345435f8f6fa608fc65", func := "bulletin/bulletinlaw43.ThreadFinds", spec := "threadFinds", inPlace := ["internal/bytealg.Compare"], unfollowed := true, recurses := true, plainKeys := false, apart := false, narrowed := true }
def ThreadFindsUptoSaid : Prop := threadFindsUptoRow.holds Try.pinned (OpenSpec.upto threadFindsSpec)

/-- 'bulletinlaw43.ThreadCuts', WHERE WHAT IT READS IS OF BULK AT MOST 1048576: true; the input reads as it did. -/
def threadCutsUptoRow : OpenClaim := { program := "ythfinofmbnfijaa", sum := "07dc9ef9756a85619519563ebd1ccf90b2222179beb33345435f8f6fa608fc65", func := "bulletin/bulletinlaw43.ThreadCuts", spec := "threadCuts", inPlace := ["internal/bytealg.Compare"], unfollowed := true, recurses := true, plainKeys := false, apart := false, narrowed := true }
def ThreadCutsUptoSaid : Prop := threadCutsUptoRow.holds Try.pinned (OpenSpec.upto threadCutsSpec)

/-- 'bulletinlaw43.ThreadWalks', WHERE WHAT IT READS IS OF BULK AT MOST 1048576: true; the input reads as it did. -/
def threadWalksUptoRow : OpenClaim := { program := "ythfinofmbnfijaa", sum := "07dc9ef9756a85619519563ebd1ccf90b2222179beb33345435f8f6fa608fc65", func := "bulletin/bulletinlaw43.ThreadWalks", spec := "threadWalks", inPlace := ["internal/bytealg.Compare"], unfollowed := true, recurses := true, plainKeys := false, apart := false, narrowed := true }
def ThreadWalksUptoSaid : Prop := threadWalksUptoRow.holds Try.pinned (OpenSpec.upto threadWalksSpec)

/-- 'bulletinlaw43.ThreadRecent', WHERE WHAT IT READS IS OF BULK AT MOST 1048576: true; the input reads as it did. -/
def threadRecentUptoRow : OpenClaim := { program := "ythfinofmbnfijaa", sum := "07dc9ef9756a85619519563ebd1ccf90b2222179beb33345435f8f6fa608fc65", func := "bulletin/bulletinlaw43.ThreadRecent", spec := "threadRecent", inPlace := ["internal/bytealg.Compare"], unfollowed := true, recurses := true, plainKeys := false, apart := false, narrowed := true }
def ThreadRecentUptoSaid : Prop := threadRecentUptoRow.holds Try.pinned (OpenSpec.upto threadRecentSpec)

end Rows
end Go.Proofs.Ythfinofmbnfijaa
