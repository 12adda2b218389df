/-
  No cell of these rows narrows 'for every input' (looked for: loops, veiled, ifaces, maps, wideKeys, modest, calm, conditions, laid).
  DERIVED. THE GIVEN ROWS OF THIS SEAT. 9 by the template 'for every input the law returns true; each argument reads behind the call as it read before'; 0 by the template 'total and deterministic' (their statements: YtkklbmnbjmicnaaTotals.lean).
  GIVEN WITH THE SEED: the statements are not yours to turn. If you find one false, say at which input.
  Laid BY PROGRAM, IN A SANDBOX (cutbox-rows.mjs): the forced cells as the released guide's own fill.sh prints them over the translation 39665fba3d07b872… (all of the seat's roots in one cut). By AI agents, Wed Nov 11 2026. No macro, syntax, notation, axiom, sorry.
-/
import Derived.Test.YtkklbmnbjmicnaaChecked
import GoSem.Claim
import GoSem.ClaimJoined
import GoSem.ClaimMapViews
import Derived.JoinedTies
import Derived.KernelRfl
namespace Go.Proofs.Ytkklbmnbjmicnaa
/- THE CELL 'sum', in the pinned program and in every row, IS THE sha256 OF THE DUMP (.gsa) THAT YtkklbmnbjmicnaaProg.lean LOADS. Nothing in Lean hashes anything: it is a label: what it is worth is what the hold of that sum in a sandbox is worth. -/
noncomputable def Try.pinned : Pinned := { name := "ytkklbmnbjmicnaa", sum := "39665fba3d07b87216355cea5fe89a841221d5f8c5fdc8287d9f5f1b609d09c9", checked := Try.checked }
namespace Rows
def none {H : Type} : Left H := { results := [], args := [] }

/-- 'bulletinlaw22.DiskNew': WHATEVER THE INPUT: true; the input reads as it did. -/
def diskNewSpec : ChangeSpec := { name := "diskNew", fn := fun _ => fun
  | [d] => { results := [.lit (.bool true)], args := [d] }
  | _ => none }
def diskNewRow : OpenClaim := { program := "ytkklbmnbjmicnaa", sum := "39665fba3d07b87216355cea5fe89a841221d5f8c5fdc8287d9f5f1b609d09c9", func := "bulletin/bulletinlaw22.DiskNew", spec := "diskNew", unfollowed := true, recurses := true, apart := false }
def DiskNewSaid : Prop := diskNewRow.holds Try.pinned (OpenSpec.ofChange diskNewSpec)

/-- ITS FALSE NEIGHBOUR: 'it returns false'. Refute it at one input. -/
def diskNewWrong : ChangeSpec := { name := "diskNew", fn := fun _ => fun
  | [d] => { results := [.lit (.bool false)], args := [d] }
  | _ => none }
def DiskNewWrongFalsely : Prop := diskNewRow.holds Try.pinned (OpenSpec.ofChange diskNewWrong)

/-- 'bulletinlaw22.DiskLimit': WHATEVER THE INPUT: true; the input reads as it did. -/
def diskLimitSpec : ChangeSpec := { name := "diskLimit", fn := fun _ => fun
  | [d1, d2] => { results := [.lit (.bool true)], args := [d1, d2] }
  | _ => none }
def diskLimitRow : OpenClaim := { program := "ytkklbmnbjmicnaa", sum := "39665fba3d07b87216355cea5fe89a841221d5f8c5fdc8287d9f5f1b609d09c9", func := "bulletin/bulletinlaw22.DiskLimit", spec := "diskLimit", unfollowed := true, recurses := true, apart := false }
def DiskLimitSaid : Prop := diskLimitRow.holds Try.pinned (OpenSpec.ofChange diskLimitSpec)

/-- ITS FALSE NEIGHBOUR: 'it returns false'. Refute it at one input. -/
def diskLimitWrong : ChangeSpec := { name := "diskLimit", fn := fun _ => fun
  | [d1, d2] => { results := [.lit (.bool false)], args := [d1, d2] }
  | _ => none }
def DiskLimitWrongFalsely : Prop := diskLimitRow.holds Try.pinned (OpenSpec.ofChange diskLimitWrong)

/-- 'bulletinlaw22.DiskUnits': WHATEVER THE INPUT: true; the input reads as it did. -/
def diskUnitsSpec : ChangeSpec := { name := "diskUnits", fn := fun _ => fun
  | [d1, d2, d3] => { results := [.lit (.bool true)], args := [d1, d2, d3] }
  | _ => none }
def diskUnitsRow : OpenClaim := { program := "ytkklbmnbjmicnaa", sum := "39665fba3d07b87216355cea5fe89a841221d5f8c5fdc8287d9f5f1b609d09c9", func := "bulletin/bulletinlaw22.DiskUnits", spec := "diskUnits", unfollowed := true, recurses := true, apart := false }
def DiskUnitsSaid : Prop := diskUnitsRow.holds Try.pinned (OpenSpec.ofChange diskUnitsSpec)

/-- ITS FALSE NEIGHBOUR: 'it returns false'. Refute it at one input. -/
def diskUnitsWrong : ChangeSpec := { name := "diskUnits", fn := fun _ => fun
  | [d1, d2, d3] => { results := [.lit (.bool false)], args := [d1, d2, d3] }
  | _ => none }
def DiskUnitsWrongFalsely : Prop := diskUnitsRow.holds Try.pinned (OpenSpec.ofChange diskUnitsWrong)

/-- 'bulletinlaw22.DiskExtremes': WHATEVER THE INPUT: true; the input reads as it did. -/
def diskExtremesSpec : ChangeSpec := { name := "diskExtremes", fn := fun _ => fun
  | [d1, d2] => { results := [.lit (.bool true)], args := [d1, d2] }
  | _ => none }
def diskExtremesRow : OpenClaim := { program := "ytkklbmnbjmicnaa", sum := "39665fba3d07b87216355cea5fe89a841221d5f8c5fdc8287d9f5f1b609d09c9", func := "bulletin/bulletinlaw22.DiskExtremes", spec := "diskExtremes", inPlace := ["maps.clone"], unfollowed := true, recurses := true, apart := false }
def DiskExtremesSaid : Prop := diskExtremesRow.holds Try.pinned (OpenSpec.ofChange diskExtremesSpec)

/-- ITS FALSE NEIGHBOUR: 'it returns false'. Refute it at one input. -/
def diskExtremesWrong : ChangeSpec := { name := "diskExtremes", fn := fun _ => fun
  | [d1, d2] => { results := [.lit (.bool false)], args := [d1, d2] }
  | _ => none }
def DiskExtremesWrongFalsely : Prop := diskExtremesRow.holds Try.pinned (OpenSpec.ofChange diskExtremesWrong)

/-- 'bulletinlaw22.DiskOperations': WHATEVER THE INPUT: true; the input reads as it did. -/
def diskOperationsSpec : ChangeSpec := { name := "diskOperations", fn := fun _ => fun
  | [d1, d2] => { results := [.lit (.bool true)], args := [d1, d2] }
  | _ => none }
def diskOperationsRow : OpenClaim := { program := "ytkklbmnbjmicnaa", sum := "39665fba3d07b87216355cea5fe89a841221d5f8c5fdc8287d9f5f1b609d09c9", func := "bulletin/bulletinlaw22.DiskOperations", spec := "diskOperations", unfollowed := true, recurses := true, apart := false }
def DiskOperationsSaid : Prop := diskOperationsRow.holds Try.pinned (OpenSpec.ofChange diskOperationsSpec)

/-- ITS FALSE NEIGHBOUR: 'it returns false'. Refute it at one input. -/
def diskOperationsWrong : ChangeSpec := { name := "diskOperations", fn := fun _ => fun
  | [d1, d2] => { results := [.lit (.bool false)], args := [d1, d2] }
  | _ => none }
def DiskOperationsWrongFalsely : Prop := diskOperationsRow.holds Try.pinned (OpenSpec.ofChange diskOperationsWrong)

/-- 'bulletinlaw22.DiskFlushed': WHATEVER THE INPUT: true; the input reads as it did. -/
def diskFlushedSpec : ChangeSpec := { name := "diskFlushed", fn := fun _ => fun
  | [d] => { results := [.lit (.bool true)], args := [d] }
  | _ => none }
def diskFlushedRow : OpenClaim := { program := "ytkklbmnbjmicnaa", sum := "39665fba3d07b87216355cea5fe89a841221d5f8c5fdc8287d9f5f1b609d09c9", func := "bulletin/bulletinlaw22.DiskFlushed", spec := "diskFlushed", inPlace := ["maps.clone"], unfollowed := true, recurses := true, apart := false }
def DiskFlushedSaid : Prop := diskFlushedRow.holds Try.pinned (OpenSpec.ofChange diskFlushedSpec)

/-- ITS FALSE NEIGHBOUR: 'it returns false'. Refute it at one input. -/
def diskFlushedWrong : ChangeSpec := { name := "diskFlushed", fn := fun _ => fun
  | [d] => { results := [.lit (.bool false)], args := [d] }
  | _ => none }
def DiskFlushedWrongFalsely : Prop := diskFlushedRow.holds Try.pinned (OpenSpec.ofChange diskFlushedWrong)

/-- 'bulletinlaw22.DiskClone': WHATEVER THE INPUT: true; the input reads as it did. -/
def diskCloneSpec : ChangeSpec := { name := "diskClone", fn := fun _ => fun
  | [d1, d2, d3] => { results := [.lit (.bool true)], args := [d1, d2, d3] }
  | _ => none }
def diskCloneRow : OpenClaim := { program := "ytkklbmnbjmicnaa", sum := "39665fba3d07b87216355cea5fe89a841221d5f8c5fdc8287d9f5f1b609d09c9", func := "bulletin/bulletinlaw22.DiskClone", spec := "diskClone", inPlace := ["maps.clone"], unfollowed := true, recurses := true, apart := false }
def DiskCloneSaid : Prop := diskCloneRow.holds Try.pinned (OpenSpec.ofChange diskCloneSpec)

/-- ITS FALSE NEIGHBOUR: 'it returns false'. Refute it at one input. -/
def diskCloneWrong : ChangeSpec := { name := "diskClone", fn := fun _ => fun
  | [d1, d2, d3] => { results := [.lit (.bool false)], args := [d1, d2, d3] }
  | _ => none }
def DiskCloneWrongFalsely : Prop := diskCloneRow.holds Try.pinned (OpenSpec.ofChange diskCloneWrong)

/-- 'bulletinlaw22.DiskSparse': WHATEVER THE INPUT: true; the input reads as it did. -/
def diskSparseSpec : ChangeSpec := { name := "diskSparse", fn := fun _ => fun
  | [d1, d2, d3] => { results := [.lit (.bool true)], args := [d1, d2, d3] }
  | _ => none }
def diskSparseRow : OpenClaim := { program := "ytkklbmnbjmicnaa", sum := "39665fba3d07b87216355cea5fe89a841221d5f8c5fdc8287d9f5f1b609d09c9", func := "bulletin/bulletinlaw22.DiskSparse", spec := "diskSparse", inPlace := ["maps.clone"], unfollowed := true, recurses := true, apart := false }
def DiskSparseSaid : Prop := diskSparseRow.holds Try.pinned (OpenSpec.ofChange diskSparseSpec)

/-- ITS FALSE NEIGHBOUR: 'it returns false'. Refute it at one input. -/
def diskSparseWrong : ChangeSpec := { name := "diskSparse", fn := fun _ => fun
  | [d1, d2, d3] => { results := [.lit (.bool false)], args := [d1, d2, d3] }
  | _ => none }
def DiskSparseWrongFalsely : Prop := diskSparseRow.holds Try.pinned (OpenSpec.ofChange diskSparseWrong)

/-- 'bulletinlaw22.DiskNil': WHATEVER THE INPUT: true; the input reads as it did. -/
def diskNilSpec : ChangeSpec := { name := "diskNil", fn := fun _ => fun
  | [d] => { results := [.lit (.bool true)], args := [d] }
  | _ => none }
def diskNilRow : OpenClaim := { program := "ytkklbmnbjmicnaa", sum := "39665fba3d07b87216355cea5fe89a841221d5f8c5fdc8287d9f5f1b609d09c9", func := "bulletin/bulletinlaw22.DiskNil", spec := "diskNil", inPlace := ["maps.clone"], unfollowed := true, recurses := true, apart := false }
def DiskNilSaid : Prop := diskNilRow.holds Try.pinned (OpenSpec.ofChange diskNilSpec)

/-- ITS FALSE NEIGHBOUR: 'it returns false'. Refute it at one input. -/
def diskNilWrong : ChangeSpec := { name := "diskNil", fn := fun _ => fun
  | [d] => { results := [.lit (.bool false)], args := [d] }
  | _ => none }
def DiskNilWrongFalsely : Prop := diskNilRow.holds Try.pinned (OpenSpec.ofChange diskNilWrong)

/- THE SECOND FORM. 'bulk': how many values and letters a reading holds, each counted each time it is reached (what is shared counts as often as it is met; a slice's spare places count too). A statement '..UptoSaid' is the law's where the arguments, and the package variables that the reading takes, are together of bulk at most 1048576: NARROWER than '..Said'. Prove '..Said' where nothing that the law and all that it calls make is longer than what came in: it says more and counts as full. Else prove '..UptoSaid'. A law counts once. -/
mutual
def uptoBulk {H : Type} : DataW H → Nat
  | .lit (.string bytes) => bytes.length + 1
  | .lit _ => 1
  | .nil => 1
  | .ptr d => uptoBulk d + 1
  | .slice elems spare => uptoBulkAll elems + uptoBulkAll spare + 1
  | .agg parts => uptoBulkAll parts + 1
  | .iface _ d => uptoBulk d + 1
  | .map entries => uptoBulkEntries entries + 1
  | .held _ => 1
def uptoBulkAll {H : Type} : List (DataW H) → Nat
  | [] => 0
  | d :: r => uptoBulk d + uptoBulkAll r
def uptoBulkEntries {H : Type} : List (Lit × DataW H) → Nat
  | [] => 0
  | x :: r => uptoBulkEntry x + uptoBulkEntries r
def uptoBulkEntry {H : Type} : Lit × DataW H → Nat
  | (.string bytes, d) => bytes.length + uptoBulk d + 1
  | (_, d) => uptoBulk d + 1
 end
def uptoSmall : (H : Type) → List (DataW H) → Bool := fun _ ds => decide (uptoBulkAll ds ≤ 1048576)
def OpenSpec.upto (s : _root_.Go.ChangeSpec) : _root_.Go.OpenSpec := { _root_.Go.OpenSpec.ofChange s with cond := some uptoSmall }

/-- 'bulletinlaw22.DiskNew', WHERE WHAT IT READS IS OF BULK AT MOST 1048576: true; the input reads as it did. -/
def diskNewUptoRow : OpenClaim := { program := "ytkklbmnbjmicnaa", sum := "39665fba3d07b87216355cea5fe89a841221d5f8c5fdc8287d9f5f1b609d09c9", func := "bulletin/bulletinlaw22.DiskNew", spec := "diskNew", unfollowed := true, recurses := true, apart := false, narrowed := true }
def DiskNewUptoSaid : Prop := diskNewUptoRow.holds Try.pinned (OpenSpec.upto diskNewSpec)

/-- 'bulletinlaw22.DiskLimit', WHERE WHAT IT READS IS OF BULK AT MOST 1048576: true; the input reads as it did. -/
def diskLimitUptoRow : OpenClaim := { program := "ytkklbmnbjmicnaa", sum := "39665fba3d07b87216355cea5fe89a841221d5f8c5fdc8287d9f5f1b609d09c9", func := "bulletin/bulletinlaw22.DiskLimit", spec := "diskLimit", unfollowed := true, recurses := true, apart := false, narrowed := true }
def DiskLimitUptoSaid : Prop := diskLimitUptoRow.holds Try.pinned (OpenSpec.upto diskLimitSpec)

/-- 'bulletinlaw22.DiskUnits', WHERE WHAT IT READS IS OF BULK AT MOST 1048576: true; the input reads as it did. -/
def diskUnitsUptoRow : OpenClaim := { program := "ytkklbmnbjmicnaa", sum := "39665fba3d07b87216355cea5fe89a841221d5f8c5fdc8287d9f5f1b609d09c9", func := "bulletin/bulletinlaw22.DiskUnits", spec := "diskUnits", unfollowed := true, recurses := true, apart := false, narrowed := true }
def DiskUnitsUptoSaid : Prop := diskUnitsUptoRow.holds Try.pinned (OpenSpec.upto diskUnitsSpec)

/-- 'bulletinlaw22.DiskExtremes', WHERE WHAT IT READS IS OF BULK AT MOST 1048576: true; the input reads as it did. -/
def diskExtremesUptoRow : OpenClaim := { program := "ytkklbmnbjmicnaa", sum := "39665fba3d07b87216355cea5fe89a841221d5f8c5fdc8287d9f5f1b609d09c9", func := "bulletin/bulletinlaw22.DiskExtremes", spec := "diskExtremes", inPlace := ["maps.clone"], unfollowed := true, recurses := true, apart := false, narrowed := true }
def DiskExtremesUptoSaid : Prop := diskExtremesUptoRow.holds Try.pinned (OpenSpec.upto diskExtremesSpec)

/-- 'bulletinlaw22.DiskOperations', WHERE WHAT IT READS IS OF BULK AT MOST 1048576: true; the input reads as it did. -/
def diskOperationsUptoRow : OpenClaim := { program := "ytkklbmnbjmicnaa", sum := "39665fba3d07b87216355cea5fe89a841221d5f8c5fdc8287d9f5f1b609d09c9", func := "bulletin/bulletinlaw22.DiskOperations", spec := "diskOperations", unfollowed := true, recurses := true, apart := false, narrowed := true }
def DiskOperationsUptoSaid : Prop := diskOperationsUptoRow.holds Try.pinned (OpenSpec.upto diskOperationsSpec)

/-- 'bulletinlaw22.DiskFlushed', WHERE WHAT IT READS IS OF BULK AT MOST 1048576: true; the input reads as it did. -/
def diskFlushedUptoRow : OpenClaim := { program := "ytkklbmnbjmicnaa", sum := "39665fba3d07b87216355cea5fe89a841221d5f8c5fdc8287d9f5f1b609d09c9", func := "bulletin/bulletinlaw22.DiskFlushed", spec := "diskFlushed", inPlace := ["maps.clone"], unfollowed := true, recurses := true, apart := false, narrowed := true }
def DiskFlushedUptoSaid : Prop := diskFlushedUptoRow.holds Try.pinned (OpenSpec.upto diskFlushedSpec)

/-- 'bulletinlaw22.DiskClone', WHERE WHAT IT READS IS OF BULK AT MOST 1048576: true; the input reads as it did. -/
def diskCloneUptoRow : OpenClaim := { program := "ytkklbmnbjmicnaa", sum := "39665fba3d07b87216355cea5fe89a841221d5f8c5fdc8287d9f5f1b609d09c9", func := "bulletin/bulletinlaw22.DiskClone", spec := "diskClone", inPlace := ["maps.clone"], unfollowed := true, recurses := true, apart := false, narrowed := true }
def DiskCloneUptoSaid : Prop := diskCloneUptoRow.holds Try.pinned (OpenSpec.upto diskCloneSpec)

/-- 'bulletinlaw22.DiskSparse', WHERE WHAT IT READS IS OF BULK AT MOST 1048576: true; the input reads as it did. -/
def diskSparseUptoRow : OpenClaim := { program := "ytkklbmnbjmicnaa", sum := "39665fba3d07b87216355cea5fe89a841221d5f8c5fdc8287d9f5f1b609d09c9", func := "bulletin/bulletinlaw22.DiskSparse", spec := "diskSparse", inPlace := ["maps.clone"], unfollowed := true, recurses := true, apart := false, narrowed := true }
def DiskSparseUptoSaid : Prop := diskSparseUptoRow.holds Try.pinned (OpenSpec.upto diskSparseSpec)

/-- 'bulletinlaw22.DiskNil', WHERE WHAT IT READS IS OF BULK AT MOST 1048576: true; the input reads as it did. -/
def diskNilUptoRow : OpenClaim := { program := "ytkklbmnbjmicnaa", sum := "39665fba3d07b87216355cea5fe89a841221d5f8c5fdc8287d9f5f1b609d09c9", func := "bulletin/bulletinlaw22.DiskNil", spec := "diskNil", inPlace := ["maps.clone"], unfollowed := true, recurses := true, apart := false, narrowed := true }
def DiskNilUptoSaid : Prop := diskNilUptoRow.holds Try.pinned (OpenSpec.upto diskNilSpec)

end Rows
end Go.Proofs.Ytkklbmnbjmicnaa
