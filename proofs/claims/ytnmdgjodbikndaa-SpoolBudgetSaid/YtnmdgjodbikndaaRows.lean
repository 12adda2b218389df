/-
  No cell of these rows narrows 'for every input' (looked for: loops, veiled, ifaces, maps, wideKeys, modest, calm, conditions, laid).
  DERIVED. THE GIVEN ROWS OF THIS SEAT. 9 by the template 'for every input the law returns true; each argument reads behind the call as it read before'; 0 by the template 'total and deterministic' (their statements: YtnmdgjodbikndaaTotals.lean).
  GIVEN WITH THE SEED: the statements are not yours to turn. If you find one false, say at which input.
  Laid BY PROGRAM, IN A SANDBOX (cutbox-rows.mjs): the forced cells as the released guide's own fill.sh prints them over the translation 1bc63c98d0d34863… (all of the seat's roots in one cut). By AI agents, Wed Nov 11 2026. No macro, syntax, notation, axiom, sorry.
-/
import Derived.Test.YtnmdgjodbikndaaChecked
import GoSem.Claim
import GoSem.ClaimJoined
import GoSem.ClaimMapViews
import Derived.JoinedTies
import Derived.KernelRfl
namespace Go.Proofs.Ytnmdgjodbikndaa
/- THE CELL 'sum', in the pinned program and in every row, IS THE sha256 OF THE DUMP (.gsa) THAT YtnmdgjodbikndaaProg.lean LOADS. Nothing in Lean hashes anything: it is a label: what it is worth is what the hold of that sum in a sandbox is worth. -/
noncomputable def Try.pinned : Pinned := { name := "ytnmdgjodbikndaa", sum := "1bc63c98d0d348633dde8a2a0c6fb5e61aa33b8d304c4380cbfd85b393dadac9", checked := Try.checked }
namespace Rows
def none {H : Type} : Left H := { results := [], args := [] }

/-- 'bulletinlaw26.SpoolRead': WHATEVER THE INPUT: true; the input reads as it did. -/
def spoolReadSpec : ChangeSpec := { name := "spoolRead", fn := fun _ => fun
  | [d1, d2] => { results := [.lit (.bool true)], args := [d1, d2] }
  | _ => none }
def spoolReadRow : OpenClaim := { program := "ytnmdgjodbikndaa", sum := "1bc63c98d0d348633dde8a2a0c6fb5e61aa33b8d304c4380cbfd85b393dadac9", func := "bulletin/bulletinlaw26.SpoolRead", spec := "spoolRead", unfollowed := true, recurses := true, plainKeys := false, apart := false }
def SpoolReadSaid : Prop := spoolReadRow.holds Try.pinned (OpenSpec.ofChange spoolReadSpec)

/-- ITS FALSE NEIGHBOUR: 'it returns false'. Refute it at one input. -/
def spoolReadWrong : ChangeSpec := { name := "spoolRead", fn := fun _ => fun
  | [d1, d2] => { results := [.lit (.bool false)], args := [d1, d2] }
  | _ => none }
def SpoolReadWrongFalsely : Prop := spoolReadRow.holds Try.pinned (OpenSpec.ofChange spoolReadWrong)

/-- 'bulletinlaw26.SpoolBudget': WHATEVER THE INPUT: true; the input reads as it did. -/
def spoolBudgetSpec : ChangeSpec := { name := "spoolBudget", fn := fun _ => fun
  | [d1, d2] => { results := [.lit (.bool true)], args := [d1, d2] }
  | _ => none }
def spoolBudgetRow : OpenClaim := { program := "ytnmdgjodbikndaa", sum := "1bc63c98d0d348633dde8a2a0c6fb5e61aa33b8d304c4380cbfd85b393dadac9", func := "bulletin/bulletinlaw26.SpoolBudget", spec := "spoolBudget", unfollowed := true, recurses := true, plainKeys := false, apart := false }
def SpoolBudgetSaid : Prop := spoolBudgetRow.holds Try.pinned (OpenSpec.ofChange spoolBudgetSpec)

/-- ITS FALSE NEIGHBOUR: 'it returns false'. Refute it at one input. -/
def spoolBudgetWrong : ChangeSpec := { name := "spoolBudget", fn := fun _ => fun
  | [d1, d2] => { results := [.lit (.bool false)], args := [d1, d2] }
  | _ => none }
def SpoolBudgetWrongFalsely : Prop := spoolBudgetRow.holds Try.pinned (OpenSpec.ofChange spoolBudgetWrong)

/-- 'bulletinlaw26.SpoolOperations': WHATEVER THE INPUT: true; the input reads as it did. -/
def spoolOperationsSpec : ChangeSpec := { name := "spoolOperations", fn := fun _ => fun
  | [d1, d2] => { results := [.lit (.bool true)], args := [d1, d2] }
  | _ => none }
def spoolOperationsRow : OpenClaim := { program := "ytnmdgjodbikndaa", sum := "1bc63c98d0d348633dde8a2a0c6fb5e61aa33b8d304c4380cbfd85b393dadac9", func := "bulletin/bulletinlaw26.SpoolOperations", spec := "spoolOperations", unfollowed := true, recurses := true, plainKeys := false, apart := false }
def SpoolOperationsSaid : Prop := spoolOperationsRow.holds Try.pinned (OpenSpec.ofChange spoolOperationsSpec)

/-- ITS FALSE NEIGHBOUR: 'it returns false'. Refute it at one input. -/
def spoolOperationsWrong : ChangeSpec := { name := "spoolOperations", fn := fun _ => fun
  | [d1, d2] => { results := [.lit (.bool false)], args := [d1, d2] }
  | _ => none }
def SpoolOperationsWrongFalsely : Prop := spoolOperationsRow.holds Try.pinned (OpenSpec.ofChange spoolOperationsWrong)

/-- 'bulletinlaw26.SpoolOrder': WHATEVER THE INPUT: true; the input reads as it did. -/
def spoolOrderSpec : ChangeSpec := { name := "spoolOrder", fn := fun _ => fun
  | [d1, d2] => { results := [.lit (.bool true)], args := [d1, d2] }
  | _ => none }
def spoolOrderRow : OpenClaim := { program := "ytnmdgjodbikndaa", sum := "1bc63c98d0d348633dde8a2a0c6fb5e61aa33b8d304c4380cbfd85b393dadac9", func := "bulletin/bulletinlaw26.SpoolOrder", spec := "spoolOrder", unfollowed := true, recurses := true, plainKeys := false, apart := false }
def SpoolOrderSaid : Prop := spoolOrderRow.holds Try.pinned (OpenSpec.ofChange spoolOrderSpec)

/-- ITS FALSE NEIGHBOUR: 'it returns false'. Refute it at one input. -/
def spoolOrderWrong : ChangeSpec := { name := "spoolOrder", fn := fun _ => fun
  | [d1, d2] => { results := [.lit (.bool false)], args := [d1, d2] }
  | _ => none }
def SpoolOrderWrongFalsely : Prop := spoolOrderRow.holds Try.pinned (OpenSpec.ofChange spoolOrderWrong)

/-- 'bulletinlaw26.SpoolOldest': WHATEVER THE INPUT: true; the input reads as it did. -/
def spoolOldestSpec : ChangeSpec := { name := "spoolOldest", fn := fun _ => fun
  | [d1, d2, d3] => { results := [.lit (.bool true)], args := [d1, d2, d3] }
  | _ => none }
def spoolOldestRow : OpenClaim := { program := "ytnmdgjodbikndaa", sum := "1bc63c98d0d348633dde8a2a0c6fb5e61aa33b8d304c4380cbfd85b393dadac9", func := "bulletin/bulletinlaw26.SpoolOldest", spec := "spoolOldest", unfollowed := true, recurses := true, plainKeys := false, apart := false }
def SpoolOldestSaid : Prop := spoolOldestRow.holds Try.pinned (OpenSpec.ofChange spoolOldestSpec)

/-- ITS FALSE NEIGHBOUR: 'it returns false'. Refute it at one input. -/
def spoolOldestWrong : ChangeSpec := { name := "spoolOldest", fn := fun _ => fun
  | [d1, d2, d3] => { results := [.lit (.bool false)], args := [d1, d2, d3] }
  | _ => none }
def SpoolOldestWrongFalsely : Prop := spoolOldestRow.holds Try.pinned (OpenSpec.ofChange spoolOldestWrong)

/-- 'bulletinlaw26.SpoolClone': WHATEVER THE INPUT: true; the input reads as it did. -/
def spoolCloneSpec : ChangeSpec := { name := "spoolClone", fn := fun _ => fun
  | [d1, d2] => { results := [.lit (.bool true)], args := [d1, d2] }
  | _ => none }
def spoolCloneRow : OpenClaim := { program := "ytnmdgjodbikndaa", sum := "1bc63c98d0d348633dde8a2a0c6fb5e61aa33b8d304c4380cbfd85b393dadac9", func := "bulletin/bulletinlaw26.SpoolClone", spec := "spoolClone", inPlace := ["maps.clone"], unfollowed := true, recurses := true, plainKeys := false, apart := false }
def SpoolCloneSaid : Prop := spoolCloneRow.holds Try.pinned (OpenSpec.ofChange spoolCloneSpec)

/-- ITS FALSE NEIGHBOUR: 'it returns false'. Refute it at one input. -/
def spoolCloneWrong : ChangeSpec := { name := "spoolClone", fn := fun _ => fun
  | [d1, d2] => { results := [.lit (.bool false)], args := [d1, d2] }
  | _ => none }
def SpoolCloneWrongFalsely : Prop := spoolCloneRow.holds Try.pinned (OpenSpec.ofChange spoolCloneWrong)

/-- 'bulletinlaw26.SpoolDecode': WHATEVER THE INPUT: true; the input reads as it did. -/
def spoolDecodeSpec : ChangeSpec := { name := "spoolDecode", fn := fun _ => fun
  | [d] => { results := [.lit (.bool true)], args := [d] }
  | _ => none }
def spoolDecodeRow : OpenClaim := { program := "ytnmdgjodbikndaa", sum := "1bc63c98d0d348633dde8a2a0c6fb5e61aa33b8d304c4380cbfd85b393dadac9", func := "bulletin/bulletinlaw26.SpoolDecode", spec := "spoolDecode", unfollowed := true, recurses := true, plainKeys := false, apart := false }
def SpoolDecodeSaid : Prop := spoolDecodeRow.holds Try.pinned (OpenSpec.ofChange spoolDecodeSpec)

/-- ITS FALSE NEIGHBOUR: 'it returns false'. Refute it at one input. -/
def spoolDecodeWrong : ChangeSpec := { name := "spoolDecode", fn := fun _ => fun
  | [d] => { results := [.lit (.bool false)], args := [d] }
  | _ => none }
def SpoolDecodeWrongFalsely : Prop := spoolDecodeRow.holds Try.pinned (OpenSpec.ofChange spoolDecodeWrong)

/-- 'bulletinlaw26.SpoolNil': WHATEVER THE INPUT: true; the input reads as it did. -/
def spoolNilSpec : ChangeSpec := { name := "spoolNil", fn := fun _ => fun
  | [d] => { results := [.lit (.bool true)], args := [d] }
  | _ => none }
def spoolNilRow : OpenClaim := { program := "ytnmdgjodbikndaa", sum := "1bc63c98d0d348633dde8a2a0c6fb5e61aa33b8d304c4380cbfd85b393dadac9", func := "bulletin/bulletinlaw26.SpoolNil", spec := "spoolNil", inPlace := ["maps.clone"], unfollowed := true, recurses := true, plainKeys := false, apart := false }
def SpoolNilSaid : Prop := spoolNilRow.holds Try.pinned (OpenSpec.ofChange spoolNilSpec)

/-- ITS FALSE NEIGHBOUR: 'it returns false'. Refute it at one input. -/
def spoolNilWrong : ChangeSpec := { name := "spoolNil", fn := fun _ => fun
  | [d] => { results := [.lit (.bool false)], args := [d] }
  | _ => none }
def SpoolNilWrongFalsely : Prop := spoolNilRow.holds Try.pinned (OpenSpec.ofChange spoolNilWrong)

/-- 'bulletinlaw26.SpoolEncode': WHATEVER THE INPUT: true; the input reads as it did. -/
def spoolEncodeSpec : ChangeSpec := { name := "spoolEncode", fn := fun _ => fun
  | [d1, d2] => { results := [.lit (.bool true)], args := [d1, d2] }
  | _ => none }
def spoolEncodeRow : OpenClaim := { program := "ytnmdgjodbikndaa", sum := "1bc63c98d0d348633dde8a2a0c6fb5e61aa33b8d304c4380cbfd85b393dadac9", func := "bulletin/bulletinlaw26.SpoolEncode", spec := "spoolEncode", unfollowed := true, recurses := true, plainKeys := false, apart := false }
def SpoolEncodeSaid : Prop := spoolEncodeRow.holds Try.pinned (OpenSpec.ofChange spoolEncodeSpec)

/-- ITS FALSE NEIGHBOUR: 'it returns false'. Refute it at one input. -/
def spoolEncodeWrong : ChangeSpec := { name := "spoolEncode", fn := fun _ => fun
  | [d1, d2] => { results := [.lit (.bool false)], args := [d1, d2] }
  | _ => none }
def SpoolEncodeWrongFalsely : Prop := spoolEncodeRow.holds Try.pinned (OpenSpec.ofChange spoolEncodeWrong)

/- THE SECOND FORM. 'bulk': how many values and letters a reading holds, each counted each time it is reached (what is shared counts as often as it is met; a slice's spare places count too). A statement '..UptoSaid' is the law's where the arguments, and the package variables that the reading takes, are together of bulk at most 1048576: NARROWER than '..Said'. Prove '..Said' where nothing that the law and all that it calls make is longer than what came in: it says more and counts as full. Else prove '..UptoSaid'. A law counts once. -/
mutual
def uptoBulk {H : Type} : DataW H → Nat
  | .lit (.string bytes) => bytes.length + 1
  | .lit _ => 1
  | .nil => 1
  | .ptr d => uptoBulk d + 1
  | .slice elems spare => uptoBulkAll elems + uptoBulkAll spare + 1
  | .agg parts => uptoBulkAll parts + 1
  | .iface _ d => uptoBulk d + 1
  | .map entries => uptoBulkEntries entries + 1
  | .held _ => 1
def uptoBulkAll {H : Type} : List (DataW H) → Nat
  | [] => 0
  | d :: r => uptoBulk d + uptoBulkAll r
def uptoBulkEntries {H : Type} : List (Lit × DataW H) → Nat
  | [] => 0
  | x :: r => uptoBulkEntry x + uptoBulkEntries r
def uptoBulkEntry {H : Type} : Lit × DataW H → Nat
  | (.string bytes, d) => bytes.length + uptoBulk d + 1
  | (_, d) => uptoBulk d + 1
 end
def uptoSmall : (H : Type) → List (DataW H) → Bool := fun _ ds => decide (uptoBulkAll ds ≤ 1048576)
def OpenSpec.upto (s : _root_.Go.ChangeSpec) : _root_.Go.OpenSpec := { _root_.Go.OpenSpec.ofChange s with cond := some uptoSmall }

/-- 'bulletinlaw26.SpoolRead', WHERE WHAT IT READS IS OF BULK AT MOST 1048576: true; the input reads as it did. -/
def spoolReadUptoRow : OpenClaim := { program := "ytnmdgjodbikndaa", sum := "1bc63c98d0d348633dde8a2a0c6fb5e61aa33b8d304c4380cbfd85b393dadac9", func := "bulletin/bulletinlaw26.SpoolRead", spec := "spoolRead", unfollowed := true, recurses := true, plainKeys := false, apart := false, narrowed := true }
def SpoolReadUptoSaid : Prop := spoolReadUptoRow.holds Try.pinned (OpenSpec.upto spoolReadSpec)

/-- 'bulletinlaw26.SpoolBudget', WHERE WHAT IT READS IS OF BULK AT MOST 1048576: true; the input reads as it did. -/
def spoolBudgetUptoRow : OpenClaim := { program := "ytnmdgjodbikndaa", sum := "1bc63c98d0d348633dde8a2a0c6fb5e61aa33b8d304c4380cbfd85b393dadac9", func := "bulletin/bulletinlaw26.SpoolBudget", spec := "spoolBudget", unfollowed := true, recurses := true, plainKeys := false, apart := false, narrowed := true }
def SpoolBudgetUptoSaid : Prop := spoolBudgetUptoRow.holds Try.pinned (OpenSpec.upto spoolBudgetSpec)

/-- 'bulletinlaw26.SpoolOperations', WHERE WHAT IT READS IS OF BULK AT MOST 1048576: true; the input reads as it did. -/
def spoolOperationsUptoRow : OpenClaim := { program := "ytnmdgjodbikndaa", sum := "1bc63c98d0d348633dde8a2a0c6fb5e61aa33b8d304c4380cbfd85b393dadac9", func := "bulletin/bulletinlaw26.SpoolOperations", spec := "spoolOperations", unfollowed := true, recurses := true, plainKeys := false, apart := false, narrowed := true }
def SpoolOperationsUptoSaid : Prop := spoolOperationsUptoRow.holds Try.pinned (OpenSpec.upto spoolOperationsSpec)

/-- 'bulletinlaw26.SpoolOrder', WHERE WHAT IT READS IS OF BULK AT MOST 1048576: true; the input reads as it did. -/
def spoolOrderUptoRow : OpenClaim := { program := "ytnmdgjodbikndaa", sum := "1bc63c98d0d348633dde8a2a0c6fb5e61aa33b8d304c4380cbfd85b393dadac9", func := "bulletin/bulletinlaw26.SpoolOrder", spec := "spoolOrder", unfollowed := true, recurses := true, plainKeys := false, apart := false, narrowed := true }
def SpoolOrderUptoSaid : Prop := spoolOrderUptoRow.holds Try.pinned (OpenSpec.upto spoolOrderSpec)

/-- 'bulletinlaw26.SpoolOldest', WHERE WHAT IT READS IS OF BULK AT MOST 1048576: true; the input reads as it did. -/
def spoolOldestUptoRow : OpenClaim := { program := "ytnmdgjodbikndaa", sum := "1bc63c98d0d348633dde8a2a0c6fb5e61aa33b8d304c4380cbfd85b393dadac9", func := "bulletin/bulletinlaw26.SpoolOldest", spec := "spoolOldest", unfollowed := true, recurses := true, plainKeys := false, apart := false, narrowed := true }
def SpoolOldestUptoSaid : Prop := spoolOldestUptoRow.holds Try.pinned (OpenSpec.upto spoolOldestSpec)

/-- 'bulletinlaw26.SpoolClone', WHERE WHAT IT READS IS OF BULK AT MOST 1048576: true; the input reads as it did. -/
def spoolCloneUptoRow : OpenClaim := { program := "ytnmdgjodbikndaa", sum := "1bc63c98d0d348633dde8a2a0c6fb5e61aa33b8d304c4380cbfd85b393dadac9", func := "bulletin/bulletinlaw26.SpoolClone", spec := "spoolClone", inPlace := ["maps.clone"], unfollowed := true, recurses := true, plainKeys := false, apart := false, narrowed := true }
def SpoolCloneUptoSaid : Prop := spoolCloneUptoRow.holds Try.pinned (OpenSpec.upto spoolCloneSpec)

/-- 'bulletinlaw26.SpoolDecode', WHERE WHAT IT READS IS OF BULK AT MOST 1048576: true; the input reads as it did. -/
def spoolDecodeUptoRow : OpenClaim := { program := "ytnmdgjodbikndaa", sum := "1bc63c98d0d348633dde8a2a0c6fb5e61aa33b8d304c4380cbfd85b393dadac9", func := "bulletin/bulletinlaw26.SpoolDecode", spec := "spoolDecode", unfollowed := true, recurses := true, plainKeys := false, apart := false, narrowed := true }
def SpoolDecodeUptoSaid : Prop := spoolDecodeUptoRow.holds Try.pinned (OpenSpec.upto spoolDecodeSpec)

/-- 'bulletinlaw26.SpoolNil', WHERE WHAT IT READS IS OF BULK AT MOST 1048576: true; the input reads as it did. -/
def spoolNilUptoRow : OpenClaim := { program := "ytnmdgjodbikndaa", sum := "1bc63c98d0d348633dde8a2a0c6fb5e61aa33b8d304c4380cbfd85b393dadac9", func := "bulletin/bulletinlaw26.SpoolNil", spec := "spoolNil", inPlace := ["maps.clone"], unfollowed := true, recurses := true, plainKeys := false, apart := false, narrowed := true }
def SpoolNilUptoSaid : Prop := spoolNilUptoRow.holds Try.pinned (OpenSpec.upto spoolNilSpec)

/-- 'bulletinlaw26.SpoolEncode', WHERE WHAT IT READS IS OF BULK AT MOST 1048576: true; the input reads as it did. -/
def spoolEncodeUptoRow : OpenClaim := { program := "ytnmdgjodbikndaa", sum := "1bc63c98d0d348633dde8a2a0c6fb5e61aa33b8d304c4380cbfd85b393dadac9", func := "bulletin/bulletinlaw26.SpoolEncode", spec := "spoolEncode", unfollowed := true, recurses := true, plainKeys := false, apart := false, narrowed := true }
def SpoolEncodeUptoSaid : Prop := spoolEncodeUptoRow.holds Try.pinned (OpenSpec.upto spoolEncodeSpec)

end Rows
end Go.Proofs.Ytnmdgjodbikndaa
