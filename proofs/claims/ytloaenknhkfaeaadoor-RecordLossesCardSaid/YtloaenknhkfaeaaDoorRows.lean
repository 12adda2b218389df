/-
  NARROWER THAN 'FOR EVERY INPUT', by the rows' own cells (each row's printed sentence says how): RecordParts: laid · RecordDecodes: laid · RecordTampering: laid · RecordTorn: laid · RecordSplits: laid · RecordLimits: laid · RecordJoins: laid · RecordBack: laid · RecordScans: laid · RecordLosses: laid · RecordEquals: laid · RecordSalvages: laid.
  DERIVED. THE GIVEN ROWS OF THIS SEAT. 12 by the template 'for every input the law returns true; each argument reads behind the call as it read before'; 0 by the template 'total and deterministic' (their statements: YtloaenknhkfaeaaDoorTotals.lean).
  GIVEN WITH THE SEED: the statements are not yours to turn. If you find one false, say at which input.
  Laid BY PROGRAM, IN A SANDBOX (cutbox-rows.mjs): the forced cells as the released guide's own fill.sh prints them over the translation 83359231806e68f0… (all of the seat's roots in one cut). By AI agents, Wed Nov 11 2026. No macro, syntax, notation, axiom, sorry.
-/
import Derived.Test.YtloaenknhkfaeaaDoorChecked
import GoSem.Claim
import GoSem.ClaimJoined
import GoSem.ClaimMapViews
import Derived.JoinedTies
import Derived.KernelRfl
namespace Go.Proofs.YtloaenknhkfaeaaDoor
/- THE CELL 'sum', in the pinned program and in every row, IS THE sha256 OF THE DUMP (.gsa) THAT YtloaenknhkfaeaaDoorProg.lean LOADS. Nothing in Lean hashes anything: it is a label: what it is worth is what the hold of that sum in a sandbox is worth. -/
noncomputable def Tryd.pinned : Pinned := { name := "ytloaenknhkfaeaadoor", sum := "83359231806e68f0bb3a87c1dd1b3fc83d6eaf381c2d056813ff644f8c90f6a2", checked := Tryd.checked }
namespace Rows
def none {H : Type} : Left H := { results := [], args := [] }

/- WHAT THE LISTED PACKAGE-LEVEL VARIABLES READ AS WHEN THE CALL BEGINS. Each datum BY PROGRAM (the guide's laid-datum.mjs) off the statement by which the dump's own 'gosem.cut.vars' lays the variable. In a bare row this is a premise. The card (YtloaenknhkfaeaaDoorCards.lean) ties it to the program's text. -/
def laid_bulletin_sha256_constants {H : Type} : DataW H := .agg [.lit (.int .u32 1116352408), .lit (.int .u32 1899447441), .lit (.int .u32 3049323471), .lit (.int .u32 3921009573), .lit (.int .u32 961987163), .lit (.int .u32 1508970993), .lit (.int .u32 2453635748), .lit (.int .u32 2870763221), .lit (.int .u32 3624381080), .lit (.int .u32 310598401), .lit (.int .u32 607225278), .lit (.int .u32 1426881987), .lit (.int .u32 1925078388), .lit (.int .u32 2162078206), .lit (.int .u32 2614888103), .lit (.int .u32 3248222580), .lit (.int .u32 3835390401), .lit (.int .u32 4022224774), .lit (.int .u32 264347078), .lit (.int .u32 604807628), .lit (.int .u32 770255983), .lit (.int .u32 1249150122), .lit (.int .u32 1555081692), .lit (.int .u32 1996064986), .lit (.int .u32 2554220882), .lit (.int .u32 2821834349), .lit (.int .u32 2952996808), .lit (.int .u32 3210313671), .lit (.int .u32 3336571891), .lit (.int .u32 3584528711), .lit (.int .u32 113926993), .lit (.int .u32 338241895), .lit (.int .u32 666307205), .lit (.int .u32 773529912), .lit (.int .u32 1294757372), .lit (.int .u32 1396182291), .lit (.int .u32 1695183700), .lit (.int .u32 1986661051), .lit (.int .u32 2177026350), .lit (.int .u32 2456956037), .lit (.int .u32 2730485921), .lit (.int .u32 2820302411), .lit (.int .u32 3259730800), .lit (.int .u32 3345764771), .lit (.int .u32 3516065817), .lit (.int .u32 3600352804), .lit (.int .u32 4094571909), .lit (.int .u32 275423344), .lit (.int .u32 430227734), .lit (.int .u32 506948616), .lit (.int .u32 659060556), .lit (.int .u32 883997877), .lit (.int .u32 958139571), .lit (.int .u32 1322822218), .lit (.int .u32 1537002063), .lit (.int .u32 1747873779), .lit (.int .u32 1955562222), .lit (.int .u32 2024104815), .lit (.int .u32 2227730452), .lit (.int .u32 2361852424), .lit (.int .u32 2428436474), .lit (.int .u32 2756734187), .lit (.int .u32 3204031479), .lit (.int .u32 3329325298)]

/-- 'bulletinlaw23.RecordParts': WHATEVER THE INPUT: true; the input reads as it did. -/
def recordPartsSpec : ChangeSpec := { name := "recordParts", fn := fun _ => fun
  | [d] => { results := [.lit (.bool true)], args := [d] }
  | _ => none }
def recordPartsRow : OpenClaim := { program := "ytloaenknhkfaeaadoor", sum := "83359231806e68f0bb3a87c1dd1b3fc83d6eaf381c2d056813ff644f8c90f6a2", func := "bulletin/bulletinlaw23.RecordParts", spec := "recordParts", unfollowed := true, recurses := true, named := ["bulletin/sha256.constants"], apart := false, laid := [("bulletin/sha256.constants", laid_bulletin_sha256_constants)] }
def RecordPartsSaid : Prop := recordPartsRow.holds Tryd.pinned (OpenSpec.ofChange recordPartsSpec)

/-- ITS FALSE NEIGHBOUR: 'it returns false'. Refute it at one input. -/
def recordPartsWrong : ChangeSpec := { name := "recordParts", fn := fun _ => fun
  | [d] => { results := [.lit (.bool false)], args := [d] }
  | _ => none }
def RecordPartsWrongFalsely : Prop := recordPartsRow.holds Tryd.pinned (OpenSpec.ofChange recordPartsWrong)

/-- 'bulletinlaw23.RecordDecodes': WHATEVER THE INPUT: true; the input reads as it did. -/
def recordDecodesSpec : ChangeSpec := { name := "recordDecodes", fn := fun _ => fun
  | [d1, d2] => { results := [.lit (.bool true)], args := [d1, d2] }
  | _ => none }
def recordDecodesRow : OpenClaim := { program := "ytloaenknhkfaeaadoor", sum := "83359231806e68f0bb3a87c1dd1b3fc83d6eaf381c2d056813ff644f8c90f6a2", func := "bulletin/bulletinlaw23.RecordDecodes", spec := "recordDecodes", unfollowed := true, recurses := true, named := ["bulletin/sha256.constants"], apart := false, laid := [("bulletin/sha256.constants", laid_bulletin_sha256_constants)] }
def RecordDecodesSaid : Prop := recordDecodesRow.holds Tryd.pinned (OpenSpec.ofChange recordDecodesSpec)

/-- ITS FALSE NEIGHBOUR: 'it returns false'. Refute it at one input. -/
def recordDecodesWrong : ChangeSpec := { name := "recordDecodes", fn := fun _ => fun
  | [d1, d2] => { results := [.lit (.bool false)], args := [d1, d2] }
  | _ => none }
def RecordDecodesWrongFalsely : Prop := recordDecodesRow.holds Tryd.pinned (OpenSpec.ofChange recordDecodesWrong)

/-- 'bulletinlaw23.RecordTampering': WHATEVER THE INPUT: true; the input reads as it did. -/
def recordTamperingSpec : ChangeSpec := { name := "recordTampering", fn := fun _ => fun
  | [d1, d2, d3] => { results := [.lit (.bool true)], args := [d1, d2, d3] }
  | _ => none }
def recordTamperingRow : OpenClaim := { program := "ytloaenknhkfaeaadoor", sum := "83359231806e68f0bb3a87c1dd1b3fc83d6eaf381c2d056813ff644f8c90f6a2", func := "bulletin/bulletinlaw23.RecordTampering", spec := "recordTampering", unfollowed := true, recurses := true, named := ["bulletin/sha256.constants"], apart := false, laid := [("bulletin/sha256.constants", laid_bulletin_sha256_constants)] }
def RecordTamperingSaid : Prop := recordTamperingRow.holds Tryd.pinned (OpenSpec.ofChange recordTamperingSpec)

/-- ITS FALSE NEIGHBOUR: 'it returns false'. Refute it at one input. -/
def recordTamperingWrong : ChangeSpec := { name := "recordTampering", fn := fun _ => fun
  | [d1, d2, d3] => { results := [.lit (.bool false)], args := [d1, d2, d3] }
  | _ => none }
def RecordTamperingWrongFalsely : Prop := recordTamperingRow.holds Tryd.pinned (OpenSpec.ofChange recordTamperingWrong)

/-- 'bulletinlaw23.RecordTorn': WHATEVER THE INPUT: true; the input reads as it did. -/
def recordTornSpec : ChangeSpec := { name := "recordTorn", fn := fun _ => fun
  | [d1, d2, d3] => { results := [.lit (.bool true)], args := [d1, d2, d3] }
  | _ => none }
def recordTornRow : OpenClaim := { program := "ytloaenknhkfaeaadoor", sum := "83359231806e68f0bb3a87c1dd1b3fc83d6eaf381c2d056813ff644f8c90f6a2", func := "bulletin/bulletinlaw23.RecordTorn", spec := "recordTorn", unfollowed := true, recurses := true, named := ["bulletin/sha256.constants"], apart := false, laid := [("bulletin/sha256.constants", laid_bulletin_sha256_constants)] }
def RecordTornSaid : Prop := recordTornRow.holds Tryd.pinned (OpenSpec.ofChange recordTornSpec)

/-- ITS FALSE NEIGHBOUR: 'it returns false'. Refute it at one input. -/
def recordTornWrong : ChangeSpec := { name := "recordTorn", fn := fun _ => fun
  | [d1, d2, d3] => { results := [.lit (.bool false)], args := [d1, d2, d3] }
  | _ => none }
def RecordTornWrongFalsely : Prop := recordTornRow.holds Tryd.pinned (OpenSpec.ofChange recordTornWrong)

/-- 'bulletinlaw23.RecordSplits': WHATEVER THE INPUT: true; the input reads as it did. -/
def recordSplitsSpec : ChangeSpec := { name := "recordSplits", fn := fun _ => fun
  | [d1, d2] => { results := [.lit (.bool true)], args := [d1, d2] }
  | _ => none }
def recordSplitsRow : OpenClaim := { program := "ytloaenknhkfaeaadoor", sum := "83359231806e68f0bb3a87c1dd1b3fc83d6eaf381c2d056813ff644f8c90f6a2", func := "bulletin/bulletinlaw23.RecordSplits", spec := "recordSplits", unfollowed := true, recurses := true, named := ["bulletin/sha256.constants"], apart := false, laid := [("bulletin/sha256.constants", laid_bulletin_sha256_constants)] }
def RecordSplitsSaid : Prop := recordSplitsRow.holds Tryd.pinned (OpenSpec.ofChange recordSplitsSpec)

/-- ITS FALSE NEIGHBOUR: 'it returns false'. Refute it at one input. -/
def recordSplitsWrong : ChangeSpec := { name := "recordSplits", fn := fun _ => fun
  | [d1, d2] => { results := [.lit (.bool false)], args := [d1, d2] }
  | _ => none }
def RecordSplitsWrongFalsely : Prop := recordSplitsRow.holds Tryd.pinned (OpenSpec.ofChange recordSplitsWrong)

/-- 'bulletinlaw23.RecordLimits': WHATEVER THE INPUT: true; the input reads as it did. -/
def recordLimitsSpec : ChangeSpec := { name := "recordLimits", fn := fun _ => fun
  | [d1, d2] => { results := [.lit (.bool true)], args := [d1, d2] }
  | _ => none }
def recordLimitsRow : OpenClaim := { program := "ytloaenknhkfaeaadoor", sum := "83359231806e68f0bb3a87c1dd1b3fc83d6eaf381c2d056813ff644f8c90f6a2", func := "bulletin/bulletinlaw23.RecordLimits", spec := "recordLimits", unfollowed := true, recurses := true, named := ["bulletin/sha256.constants"], apart := false, laid := [("bulletin/sha256.constants", laid_bulletin_sha256_constants)] }
def RecordLimitsSaid : Prop := recordLimitsRow.holds Tryd.pinned (OpenSpec.ofChange recordLimitsSpec)

/-- ITS FALSE NEIGHBOUR: 'it returns false'. Refute it at one input. -/
def recordLimitsWrong : ChangeSpec := { name := "recordLimits", fn := fun _ => fun
  | [d1, d2] => { results := [.lit (.bool false)], args := [d1, d2] }
  | _ => none }
def RecordLimitsWrongFalsely : Prop := recordLimitsRow.holds Tryd.pinned (OpenSpec.ofChange recordLimitsWrong)

/-- 'bulletinlaw23.RecordJoins': WHATEVER THE INPUT: true; the input reads as it did. -/
def recordJoinsSpec : ChangeSpec := { name := "recordJoins", fn := fun _ => fun
  | [d] => { results := [.lit (.bool true)], args := [d] }
  | _ => none }
def recordJoinsRow : OpenClaim := { program := "ytloaenknhkfaeaadoor", sum := "83359231806e68f0bb3a87c1dd1b3fc83d6eaf381c2d056813ff644f8c90f6a2", func := "bulletin/bulletinlaw23.RecordJoins", spec := "recordJoins", unfollowed := true, recurses := true, named := ["bulletin/sha256.constants"], apart := false, laid := [("bulletin/sha256.constants", laid_bulletin_sha256_constants)] }
def RecordJoinsSaid : Prop := recordJoinsRow.holds Tryd.pinned (OpenSpec.ofChange recordJoinsSpec)

/-- ITS FALSE NEIGHBOUR: 'it returns false'. Refute it at one input. -/
def recordJoinsWrong : ChangeSpec := { name := "recordJoins", fn := fun _ => fun
  | [d] => { results := [.lit (.bool false)], args := [d] }
  | _ => none }
def RecordJoinsWrongFalsely : Prop := recordJoinsRow.holds Tryd.pinned (OpenSpec.ofChange recordJoinsWrong)

/-- 'bulletinlaw23.RecordBack': WHATEVER THE INPUT: true; the input reads as it did. -/
def recordBackSpec : ChangeSpec := { name := "recordBack", fn := fun _ => fun
  | [d1, d2, d3] => { results := [.lit (.bool true)], args := [d1, d2, d3] }
  | _ => none }
def recordBackRow : OpenClaim := { program := "ytloaenknhkfaeaadoor", sum := "83359231806e68f0bb3a87c1dd1b3fc83d6eaf381c2d056813ff644f8c90f6a2", func := "bulletin/bulletinlaw23.RecordBack", spec := "recordBack", unfollowed := true, recurses := true, named := ["bulletin/sha256.constants"], apart := false, laid := [("bulletin/sha256.constants", laid_bulletin_sha256_constants)] }
def RecordBackSaid : Prop := recordBackRow.holds Tryd.pinned (OpenSpec.ofChange recordBackSpec)

/-- ITS FALSE NEIGHBOUR: 'it returns false'. Refute it at one input. -/
def recordBackWrong : ChangeSpec := { name := "recordBack", fn := fun _ => fun
  | [d1, d2, d3] => { results := [.lit (.bool false)], args := [d1, d2, d3] }
  | _ => none }
def RecordBackWrongFalsely : Prop := recordBackRow.holds Tryd.pinned (OpenSpec.ofChange recordBackWrong)

/-- 'bulletinlaw23.RecordScans': WHATEVER THE INPUT: true; the input reads as it did. -/
def recordScansSpec : ChangeSpec := { name := "recordScans", fn := fun _ => fun
  | [d1, d2, d3] => { results := [.lit (.bool true)], args := [d1, d2, d3] }
  | _ => none }
def recordScansRow : OpenClaim := { program := "ytloaenknhkfaeaadoor", sum := "83359231806e68f0bb3a87c1dd1b3fc83d6eaf381c2d056813ff644f8c90f6a2", func := "bulletin/bulletinlaw23.RecordScans", spec := "recordScans", unfollowed := true, recurses := true, named := ["bulletin/sha256.constants"], apart := false, laid := [("bulletin/sha256.constants", laid_bulletin_sha256_constants)] }
def RecordScansSaid : Prop := recordScansRow.holds Tryd.pinned (OpenSpec.ofChange recordScansSpec)

/-- ITS FALSE NEIGHBOUR: 'it returns false'. Refute it at one input. -/
def recordScansWrong : ChangeSpec := { name := "recordScans", fn := fun _ => fun
  | [d1, d2, d3] => { results := [.lit (.bool false)], args := [d1, d2, d3] }
  | _ => none }
def RecordScansWrongFalsely : Prop := recordScansRow.holds Tryd.pinned (OpenSpec.ofChange recordScansWrong)

/-- 'bulletinlaw23.RecordLosses': WHATEVER THE INPUT: true; the input reads as it did. -/
def recordLossesSpec : ChangeSpec := { name := "recordLosses", fn := fun _ => fun
  | [d1, d2, d3] => { results := [.lit (.bool true)], args := [d1, d2, d3] }
  | _ => none }
def recordLossesRow : OpenClaim := { program := "ytloaenknhkfaeaadoor", sum := "83359231806e68f0bb3a87c1dd1b3fc83d6eaf381c2d056813ff644f8c90f6a2", func := "bulletin/bulletinlaw23.RecordLosses", spec := "recordLosses", unfollowed := true, recurses := true, named := ["bulletin/sha256.constants"], apart := false, laid := [("bulletin/sha256.constants", laid_bulletin_sha256_constants)] }
def RecordLossesSaid : Prop := recordLossesRow.holds Tryd.pinned (OpenSpec.ofChange recordLossesSpec)

/-- ITS FALSE NEIGHBOUR: 'it returns false'. Refute it at one input. -/
def recordLossesWrong : ChangeSpec := { name := "recordLosses", fn := fun _ => fun
  | [d1, d2, d3] => { results := [.lit (.bool false)], args := [d1, d2, d3] }
  | _ => none }
def RecordLossesWrongFalsely : Prop := recordLossesRow.holds Tryd.pinned (OpenSpec.ofChange recordLossesWrong)

/-- 'bulletinlaw23.RecordEquals': WHATEVER THE INPUT: true; the input reads as it did. -/
def recordEqualsSpec : ChangeSpec := { name := "recordEquals", fn := fun _ => fun
  | [d1, d2, d3] => { results := [.lit (.bool true)], args := [d1, d2, d3] }
  | _ => none }
def recordEqualsRow : OpenClaim := { program := "ytloaenknhkfaeaadoor", sum := "83359231806e68f0bb3a87c1dd1b3fc83d6eaf381c2d056813ff644f8c90f6a2", func := "bulletin/bulletinlaw23.RecordEquals", spec := "recordEquals", unfollowed := true, recurses := true, named := ["bulletin/sha256.constants"], apart := false, laid := [("bulletin/sha256.constants", laid_bulletin_sha256_constants)] }
def RecordEqualsSaid : Prop := recordEqualsRow.holds Tryd.pinned (OpenSpec.ofChange recordEqualsSpec)

/-- ITS FALSE NEIGHBOUR: 'it returns false'. Refute it at one input. -/
def recordEqualsWrong : ChangeSpec := { name := "recordEquals", fn := fun _ => fun
  | [d1, d2, d3] => { results := [.lit (.bool false)], args := [d1, d2, d3] }
  | _ => none }
def RecordEqualsWrongFalsely : Prop := recordEqualsRow.holds Tryd.pinned (OpenSpec.ofChange recordEqualsWrong)

/-- 'bulletinlaw23.RecordSalvages': WHATEVER THE INPUT: true; the input reads as it did. -/
def recordSalvagesSpec : ChangeSpec := { name := "recordSalvages", fn := fun _ => fun
  | [d1, d2] => { results := [.lit (.bool true)], args := [d1, d2] }
  | _ => none }
def recordSalvagesRow : OpenClaim := { program := "ytloaenknhkfaeaadoor", sum := "83359231806e68f0bb3a87c1dd1b3fc83d6eaf381c2d056813ff644f8c90f6a2", func := "bulletin/bulletinlaw23.RecordSalvages", spec := "recordSalvages", unfollowed := true, recurses := true, named := ["bulletin/sha256.constants"], apart := false, laid := [("bulletin/sha256.constants", laid_bulletin_sha256_constants)] }
def RecordSalvagesSaid : Prop := recordSalvagesRow.holds Tryd.pinned (OpenSpec.ofChange recordSalvagesSpec)

/-- ITS FALSE NEIGHBOUR: 'it returns false'. Refute it at one input. -/
def recordSalvagesWrong : ChangeSpec := { name := "recordSalvages", fn := fun _ => fun
  | [d1, d2] => { results := [.lit (.bool false)], args := [d1, d2] }
  | _ => none }
def RecordSalvagesWrongFalsely : Prop := recordSalvagesRow.holds Tryd.pinned (OpenSpec.ofChange recordSalvagesWrong)

/- THE SECOND FORM. 'bulk': how many values and letters a reading holds, each counted each time it is reached (what is shared counts as often as it is met; a slice's spare places count too). A statement '..UptoSaid' is the law's where the arguments, and the package variables that the reading takes, are together of bulk at most 1048576: NARROWER than '..Said'. Prove '..Said' where nothing that the law and all that it calls make is longer than what came in: it says more and counts as full. Else prove '..UptoSaid'. A law counts once. -/
mutual
def uptoBulk {H : Type} : DataW H → Nat
  | .lit (.string bytes) => bytes.length + 1
  | .lit _ => 1
  | .nil => 1
  | .ptr d => uptoBulk d + 1
  | .slice elems spare => uptoBulkAll elems + uptoBulkAll spare + 1
  | .agg parts => uptoBulkAll parts + 1
  | .iface _ d => uptoBulk d + 1
  | .map entries => uptoBulkEntries entries + 1
  | .held _ => 1
def uptoBulkAll {H : Type} : List (DataW H) → Nat
  | [] => 0
  | d :: r => uptoBulk d + uptoBulkAll r
def uptoBulkEntries {H : Type} : List (Lit × DataW H) → Nat
  | [] => 0
  | x :: r => uptoBulkEntry x + uptoBulkEntries r
def uptoBulkEntry {H : Type} : Lit × DataW H → Nat
  | (.string bytes, d) => bytes.length + uptoBulk d + 1
  | (_, d) => uptoBulk d + 1
 end
def uptoSmall : (H : Type) → List (DataW H) → Bool := fun _ ds => decide (uptoBulkAll ds ≤ 1048576)
def OpenSpec.upto (s : _root_.Go.ChangeSpec) : _root_.Go.OpenSpec := { _root_.Go.OpenSpec.ofChange s with cond := some uptoSmall }

/-- 'bulletinlaw23.RecordParts', WHERE WHAT IT READS IS OF BULK AT MOST 1048576: true; the input reads as it did. -/
def recordPartsUptoRow : OpenClaim := { program := "ytloaenknhkfaeaadoor", sum := "83359231806e68f0bb3a87c1dd1b3fc83d6eaf381c2d056813ff644f8c90f6a2", func := "bulletin/bulletinlaw23.RecordParts", spec := "recordParts", unfollowed := true, recurses := true, named := ["bulletin/sha256.constants"], apart := false, laid := [("bulletin/sha256.constants", laid_bulletin_sha256_constants)], narrowed := true }
def RecordPartsUptoSaid : Prop := recordPartsUptoRow.holds Tryd.pinned (OpenSpec.upto recordPartsSpec)

/-- 'bulletinlaw23.RecordDecodes', WHERE WHAT IT READS IS OF BULK AT MOST 1048576: true; the input reads as it did. -/
def recordDecodesUptoRow : OpenClaim := { program := "ytloaenknhkfaeaadoor", sum := "83359231806e68f0bb3a87c1dd1b3fc83d6eaf381c2d056813ff644f8c90f6a2", func := "bulletin/bulletinlaw23.RecordDecodes", spec := "recordDecodes", unfollowed := true, recurses := true, named := ["bulletin/sha256.constants"], apart := false, laid := [("bulletin/sha256.constants", laid_bulletin_sha256_constants)], narrowed := true }
def RecordDecodesUptoSaid : Prop := recordDecodesUptoRow.holds Tryd.pinned (OpenSpec.upto recordDecodesSpec)

/-- 'bulletinlaw23.RecordTampering', WHERE WHAT IT READS IS OF BULK AT MOST 1048576: true; the input reads as it did. -/
def recordTamperingUptoRow : OpenClaim := { program := "ytloaenknhkfaeaadoor", sum := "83359231806e68f0bb3a87c1dd1b3fc83d6eaf381c2d056813ff644f8c90f6a2", func := "bulletin/bulletinlaw23.RecordTampering", spec := "recordTampering", unfollowed := true, recurses := true, named := ["bulletin/sha256.constants"], apart := false, laid := [("bulletin/sha256.constants", laid_bulletin_sha256_constants)], narrowed := true }
def RecordTamperingUptoSaid : Prop := recordTamperingUptoRow.holds Tryd.pinned (OpenSpec.upto recordTamperingSpec)

/-- 'bulletinlaw23.RecordTorn', WHERE WHAT IT READS IS OF BULK AT MOST 1048576: true; the input reads as it did. -/
def recordTornUptoRow : OpenClaim := { program := "ytloaenknhkfaeaadoor", sum := "83359231806e68f0bb3a87c1dd1b3fc83d6eaf381c2d056813ff644f8c90f6a2", func := "bulletin/bulletinlaw23.RecordTorn", spec := "recordTorn", unfollowed := true, recurses := true, named := ["bulletin/sha256.constants"], apart := false, laid := [("bulletin/sha256.constants", laid_bulletin_sha256_constants)], narrowed := true }
def RecordTornUptoSaid : Prop := recordTornUptoRow.holds Tryd.pinned (OpenSpec.upto recordTornSpec)

/-- 'bulletinlaw23.RecordSplits', WHERE WHAT IT READS IS OF BULK AT MOST 1048576: true; the input reads as it did. -/
def recordSplitsUptoRow : OpenClaim := { program := "ytloaenknhkfaeaadoor", sum := "83359231806e68f0bb3a87c1dd1b3fc83d6eaf381c2d056813ff644f8c90f6a2", func := "bulletin/bulletinlaw23.RecordSplits", spec := "recordSplits", unfollowed := true, recurses := true, named := ["bulletin/sha256.constants"], apart := false, laid := [("bulletin/sha256.constants", laid_bulletin_sha256_constants)], narrowed := true }
def RecordSplitsUptoSaid : Prop := recordSplitsUptoRow.holds Tryd.pinned (OpenSpec.upto recordSplitsSpec)

/-- 'bulletinlaw23.RecordLimits', WHERE WHAT IT READS IS OF BULK AT MOST 1048576: true; the input reads as it did. -/
def recordLimitsUptoRow : OpenClaim := { program := "ytloaenknhkfaeaadoor", sum := "83359231806e68f0bb3a87c1dd1b3fc83d6eaf381c2d056813ff644f8c90f6a2", func := "bulletin/bulletinlaw23.RecordLimits", spec := "recordLimits", unfollowed := true, recurses := true, named := ["bulletin/sha256.constants"], apart := false, laid := [("bulletin/sha256.constants", laid_bulletin_sha256_constants)], narrowed := true }
def RecordLimitsUptoSaid : Prop := recordLimitsUptoRow.holds Tryd.pinned (OpenSpec.upto recordLimitsSpec)

/-- 'bulletinlaw23.RecordJoins', WHERE WHAT IT READS IS OF BULK AT MOST 1048576: true; the input reads as it did. -/
def recordJoinsUptoRow : OpenClaim := { program := "ytloaenknhkfaeaadoor", sum := "83359231806e68f0bb3a87c1dd1b3fc83d6eaf381c2d056813ff644f8c90f6a2", func := "bulletin/bulletinlaw23.RecordJoins", spec := "recordJoins", unfollowed := true, recurses := true, named := ["bulletin/sha256.constants"], apart := false, laid := [("bulletin/sha256.constants", laid_bulletin_sha256_constants)], narrowed := true }
def RecordJoinsUptoSaid : Prop := recordJoinsUptoRow.holds Tryd.pinned (OpenSpec.upto recordJoinsSpec)

/-- 'bulletinlaw23.RecordBack', WHERE WHAT IT READS IS OF BULK AT MOST 1048576: true; the input reads as it did. -/
def recordBackUptoRow : OpenClaim := { program := "ytloaenknhkfaeaadoor", sum := "83359231806e68f0bb3a87c1dd1b3fc83d6eaf381c2d056813ff644f8c90f6a2", func := "bulletin/bulletinlaw23.RecordBack", spec := "recordBack", unfollowed := true, recurses := true, named := ["bulletin/sha256.constants"], apart := false, laid := [("bulletin/sha256.constants", laid_bulletin_sha256_constants)], narrowed := true }
def RecordBackUptoSaid : Prop := recordBackUptoRow.holds Tryd.pinned (OpenSpec.upto recordBackSpec)

/-- 'bulletinlaw23.RecordScans', WHERE WHAT IT READS IS OF BULK AT MOST 1048576: true; the input reads as it did. -/
def recordScansUptoRow : OpenClaim := { program := "ytloaenknhkfaeaadoor", sum := "83359231806e68f0bb3a87c1dd1b3fc83d6eaf381c2d056813ff644f8c90f6a2", func := "bulletin/bulletinlaw23.RecordScans", spec := "recordScans", unfollowed := true, recurses := true, named := ["bulletin/sha256.constants"], apart := false, laid := [("bulletin/sha256.constants", laid_bulletin_sha256_constants)], narrowed := true }
def RecordScansUptoSaid : Prop := recordScansUptoRow.holds Tryd.pinned (OpenSpec.upto recordScansSpec)

/-- 'bulletinlaw23.RecordLosses', WHERE WHAT IT READS IS OF BULK AT MOST 1048576: true; the input reads as it did. -/
def recordLossesUptoRow : OpenClaim := { program := "ytloaenknhkfaeaadoor", sum := "83359231806e68f0bb3a87c1dd1b3fc83d6eaf381c2d056813ff644f8c90f6a2", func := "bulletin/bulletinlaw23.RecordLosses", spec := "recordLosses", unfollowed := true, recurses := true, named := ["bulletin/sha256.constants"], apart := false, laid := [("bulletin/sha256.constants", laid_bulletin_sha256_constants)], narrowed := true }
def RecordLossesUptoSaid : Prop := recordLossesUptoRow.holds Tryd.pinned (OpenSpec.upto recordLossesSpec)

/-- 'bulletinlaw23.RecordEquals', WHERE WHAT IT READS IS OF BULK AT MOST 1048576: true; the input reads as it did. -/
def recordEqualsUptoRow : OpenClaim := { program := "ytloaenknhkfaeaadoor", sum := "83359231806e68f0bb3a87c1dd1b3fc83d6eaf381c2d056813ff644f8c90f6a2", func := "bulletin/bulletinlaw23.RecordEquals", spec := "recordEquals", unfollowed := true, recurses := true, named := ["bulletin/sha256.constants"], apart := false, laid := [("bulletin/sha256.constants", laid_bulletin_sha256_constants)], narrowed := true }
def RecordEqualsUptoSaid : Prop := recordEqualsUptoRow.holds Tryd.pinned (OpenSpec.upto recordEqualsSpec)

/-- 'bulletinlaw23.RecordSalvages', WHERE WHAT IT READS IS OF BULK AT MOST 1048576: true; the input reads as it did. -/
def recordSalvagesUptoRow : OpenClaim := { program := "ytloaenknhkfaeaadoor", sum := "83359231806e68f0bb3a87c1dd1b3fc83d6eaf381c2d056813ff644f8c90f6a2", func := "bulletin/bulletinlaw23.RecordSalvages", spec := "recordSalvages", unfollowed := true, recurses := true, named := ["bulletin/sha256.constants"], apart := false, laid := [("bulletin/sha256.constants", laid_bulletin_sha256_constants)], narrowed := true }
def RecordSalvagesUptoSaid : Prop := recordSalvagesUptoRow.holds Tryd.pinned (OpenSpec.upto recordSalvagesSpec)

end Rows
end Go.Proofs.YtloaenknhkfaeaaDoor
