/-
  NARROWER THAN 'FOR EVERY INPUT', by the rows' own cells (each row's printed sentence says how): JournalFull: laid · JournalNeed: laid · JournalEntries: laid · JournalOthers: laid · JournalErrors: laid · JournalLost: laid · JournalDurability: laid.
  DERIVED. THE GIVEN ROWS OF THIS SEAT. 7 by the template 'for every input the law returns true; each argument reads behind the call as it read before'; 0 by the template 'total and deterministic' (their statements: YtplclpileejemaaDoorTotals.lean).
  GIVEN WITH THE SEED: the statements are not yours to turn. If you find one false, say at which input.
  Laid BY PROGRAM, IN A SANDBOX (cutbox-rows.mjs): the forced cells as the released guide's own fill.sh prints them over the translation 3ce23c75e9e52af0… (all of the seat's roots in one cut). By AI agents, Wed Nov 11 2026. No macro, syntax, notation, axiom, sorry.
-/
import Derived.Test.YtplclpileejemaaDoorChecked
import GoSem.Claim
import GoSem.ClaimJoined
import GoSem.ClaimMapViews
import Derived.JoinedTies
import Derived.KernelRfl
namespace Go.Proofs.YtplclpileejemaaDoor
/- THE CELL 'sum', in the pinned program and in every row, IS THE sha256 OF THE DUMP (.gsa) THAT YtplclpileejemaaDoorProg.lean LOADS. Nothing in Lean hashes anything: it is a label: what it is worth is what the hold of that sum in a sandbox is worth. -/
noncomputable def Tryd.pinned : Pinned := { name := "ytplclpileejemaadoor", sum := "3ce23c75e9e52af0e1ba8c570438960f2fef3ad38c63787ef4140e457c77e383", checked := Tryd.checked }
namespace Rows
def none {H : Type} : Left H := { results := [], args := [] }

/- WHAT THE LISTED PACKAGE-LEVEL VARIABLES READ AS WHEN THE CALL BEGINS. Each datum BY PROGRAM (the guide's laid-datum.mjs) off the statement by which the dump's own 'gosem.cut.vars' lays the variable. In a bare row this is a premise. The card (YtplclpileejemaaDoorCards.lean) ties it to the program's text. -/
def laid_bulletin_sha256_constants {H : Type} : DataW H := .agg [.lit (.int .u32 1116352408), .lit (.int .u32 1899447441), .lit (.int .u32 3049323471), .lit (.int .u32 3921009573), .lit (.int .u32 961987163), .lit (.int .u32 1508970993), .lit (.int .u32 2453635748), .lit (.int .u32 2870763221), .lit (.int .u32 3624381080), .lit (.int .u32 310598401), .lit (.int .u32 607225278), .lit (.int .u32 1426881987), .lit (.int .u32 1925078388), .lit (.int .u32 2162078206), .lit (.int .u32 2614888103), .lit (.int .u32 3248222580), .lit (.int .u32 3835390401), .lit (.int .u32 4022224774), .lit (.int .u32 264347078), .lit (.int .u32 604807628), .lit (.int .u32 770255983), .lit (.int .u32 1249150122), .lit (.int .u32 1555081692), .lit (.int .u32 1996064986), .lit (.int .u32 2554220882), .lit (.int .u32 2821834349), .lit (.int .u32 2952996808), .lit (.int .u32 3210313671), .lit (.int .u32 3336571891), .lit (.int .u32 3584528711), .lit (.int .u32 113926993), .lit (.int .u32 338241895), .lit (.int .u32 666307205), .lit (.int .u32 773529912), .lit (.int .u32 1294757372), .lit (.int .u32 1396182291), .lit (.int .u32 1695183700), .lit (.int .u32 1986661051), .lit (.int .u32 2177026350), .lit (.int .u32 2456956037), .lit (.int .u32 2730485921), .lit (.int .u32 2820302411), .lit (.int .u32 3259730800), .lit (.int .u32 3345764771), .lit (.int .u32 3516065817), .lit (.int .u32 3600352804), .lit (.int .u32 4094571909), .lit (.int .u32 275423344), .lit (.int .u32 430227734), .lit (.int .u32 506948616), .lit (.int .u32 659060556), .lit (.int .u32 883997877), .lit (.int .u32 958139571), .lit (.int .u32 1322822218), .lit (.int .u32 1537002063), .lit (.int .u32 1747873779), .lit (.int .u32 1955562222), .lit (.int .u32 2024104815), .lit (.int .u32 2227730452), .lit (.int .u32 2361852424), .lit (.int .u32 2428436474), .lit (.int .u32 2756734187), .lit (.int .u32 3204031479), .lit (.int .u32 3329325298)]

/-- 'bulletinlaw24.JournalFull': WHATEVER THE INPUT: true; the input reads as it did. -/
def journalFullSpec : ChangeSpec := { name := "journalFull", fn := fun _ => fun
  | [d1, d2, d3] => { results := [.lit (.bool true)], args := [d1, d2, d3] }
  | _ => none }
def journalFullRow : OpenClaim := { program := "ytplclpileejemaadoor", sum := "3ce23c75e9e52af0e1ba8c570438960f2fef3ad38c63787ef4140e457c77e383", func := "bulletin/bulletinlaw24.JournalFull", spec := "journalFull", unfollowed := true, recurses := true, named := ["bulletin/sha256.constants"], apart := false, laid := [("bulletin/sha256.constants", laid_bulletin_sha256_constants)] }
def JournalFullSaid : Prop := journalFullRow.holds Tryd.pinned (OpenSpec.ofChange journalFullSpec)

/-- ITS FALSE NEIGHBOUR: 'it returns false'. Refute it at one input. -/
def journalFullWrong : ChangeSpec := { name := "journalFull", fn := fun _ => fun
  | [d1, d2, d3] => { results := [.lit (.bool false)], args := [d1, d2, d3] }
  | _ => none }
def JournalFullWrongFalsely : Prop := journalFullRow.holds Tryd.pinned (OpenSpec.ofChange journalFullWrong)

/-- 'bulletinlaw24.JournalNeed': WHATEVER THE INPUT: true; the input reads as it did. -/
def journalNeedSpec : ChangeSpec := { name := "journalNeed", fn := fun _ => fun
  | [d] => { results := [.lit (.bool true)], args := [d] }
  | _ => none }
def journalNeedRow : OpenClaim := { program := "ytplclpileejemaadoor", sum := "3ce23c75e9e52af0e1ba8c570438960f2fef3ad38c63787ef4140e457c77e383", func := "bulletin/bulletinlaw24.JournalNeed", spec := "journalNeed", unfollowed := true, recurses := true, named := ["bulletin/sha256.constants"], apart := false, laid := [("bulletin/sha256.constants", laid_bulletin_sha256_constants)] }
def JournalNeedSaid : Prop := journalNeedRow.holds Tryd.pinned (OpenSpec.ofChange journalNeedSpec)

/-- ITS FALSE NEIGHBOUR: 'it returns false'. Refute it at one input. -/
def journalNeedWrong : ChangeSpec := { name := "journalNeed", fn := fun _ => fun
  | [d] => { results := [.lit (.bool false)], args := [d] }
  | _ => none }
def JournalNeedWrongFalsely : Prop := journalNeedRow.holds Tryd.pinned (OpenSpec.ofChange journalNeedWrong)

/-- 'bulletinlaw24.JournalEntries': WHATEVER THE INPUT: true; the input reads as it did. -/
def journalEntriesSpec : ChangeSpec := { name := "journalEntries", fn := fun _ => fun
  | [d1, d2] => { results := [.lit (.bool true)], args := [d1, d2] }
  | _ => none }
def journalEntriesRow : OpenClaim := { program := "ytplclpileejemaadoor", sum := "3ce23c75e9e52af0e1ba8c570438960f2fef3ad38c63787ef4140e457c77e383", func := "bulletin/bulletinlaw24.JournalEntries", spec := "journalEntries", unfollowed := true, recurses := true, named := ["bulletin/sha256.constants"], apart := false, laid := [("bulletin/sha256.constants", laid_bulletin_sha256_constants)] }
def JournalEntriesSaid : Prop := journalEntriesRow.holds Tryd.pinned (OpenSpec.ofChange journalEntriesSpec)

/-- ITS FALSE NEIGHBOUR: 'it returns false'. Refute it at one input. -/
def journalEntriesWrong : ChangeSpec := { name := "journalEntries", fn := fun _ => fun
  | [d1, d2] => { results := [.lit (.bool false)], args := [d1, d2] }
  | _ => none }
def JournalEntriesWrongFalsely : Prop := journalEntriesRow.holds Tryd.pinned (OpenSpec.ofChange journalEntriesWrong)

/-- 'bulletinlaw24.JournalOthers': WHATEVER THE INPUT: true; the input reads as it did. -/
def journalOthersSpec : ChangeSpec := { name := "journalOthers", fn := fun _ => fun
  | [d1, d2, d3] => { results := [.lit (.bool true)], args := [d1, d2, d3] }
  | _ => none }
def journalOthersRow : OpenClaim := { program := "ytplclpileejemaadoor", sum := "3ce23c75e9e52af0e1ba8c570438960f2fef3ad38c63787ef4140e457c77e383", func := "bulletin/bulletinlaw24.JournalOthers", spec := "journalOthers", unfollowed := true, recurses := true, named := ["bulletin/sha256.constants"], apart := false, laid := [("bulletin/sha256.constants", laid_bulletin_sha256_constants)] }
def JournalOthersSaid : Prop := journalOthersRow.holds Tryd.pinned (OpenSpec.ofChange journalOthersSpec)

/-- ITS FALSE NEIGHBOUR: 'it returns false'. Refute it at one input. -/
def journalOthersWrong : ChangeSpec := { name := "journalOthers", fn := fun _ => fun
  | [d1, d2, d3] => { results := [.lit (.bool false)], args := [d1, d2, d3] }
  | _ => none }
def JournalOthersWrongFalsely : Prop := journalOthersRow.holds Tryd.pinned (OpenSpec.ofChange journalOthersWrong)

/-- 'bulletinlaw24.JournalErrors': WHATEVER THE INPUT: true; the input reads as it did. -/
def journalErrorsSpec : ChangeSpec := { name := "journalErrors", fn := fun _ => fun
  | [d1, d2, d3, d4, d5] => { results := [.lit (.bool true)], args := [d1, d2, d3, d4, d5] }
  | _ => none }
def journalErrorsRow : OpenClaim := { program := "ytplclpileejemaadoor", sum := "3ce23c75e9e52af0e1ba8c570438960f2fef3ad38c63787ef4140e457c77e383", func := "bulletin/bulletinlaw24.JournalErrors", spec := "journalErrors", unfollowed := true, recurses := true, named := ["bulletin/sha256.constants"], apart := false, laid := [("bulletin/sha256.constants", laid_bulletin_sha256_constants)] }
def JournalErrorsSaid : Prop := journalErrorsRow.holds Tryd.pinned (OpenSpec.ofChange journalErrorsSpec)

/-- ITS FALSE NEIGHBOUR: 'it returns false'. Refute it at one input. -/
def journalErrorsWrong : ChangeSpec := { name := "journalErrors", fn := fun _ => fun
  | [d1, d2, d3, d4, d5] => { results := [.lit (.bool false)], args := [d1, d2, d3, d4, d5] }
  | _ => none }
def JournalErrorsWrongFalsely : Prop := journalErrorsRow.holds Tryd.pinned (OpenSpec.ofChange journalErrorsWrong)

/-- 'bulletinlaw24.JournalLost': WHATEVER THE INPUT: true; the input reads as it did. -/
def journalLostSpec : ChangeSpec := { name := "journalLost", fn := fun _ => fun
  | [d1, d2, d3, d4, d5] => { results := [.lit (.bool true)], args := [d1, d2, d3, d4, d5] }
  | _ => none }
def journalLostRow : OpenClaim := { program := "ytplclpileejemaadoor", sum := "3ce23c75e9e52af0e1ba8c570438960f2fef3ad38c63787ef4140e457c77e383", func := "bulletin/bulletinlaw24.JournalLost", spec := "journalLost", unfollowed := true, recurses := true, named := ["bulletin/sha256.constants"], apart := false, laid := [("bulletin/sha256.constants", laid_bulletin_sha256_constants)] }
def JournalLostSaid : Prop := journalLostRow.holds Tryd.pinned (OpenSpec.ofChange journalLostSpec)

/-- ITS FALSE NEIGHBOUR: 'it returns false'. Refute it at one input. -/
def journalLostWrong : ChangeSpec := { name := "journalLost", fn := fun _ => fun
  | [d1, d2, d3, d4, d5] => { results := [.lit (.bool false)], args := [d1, d2, d3, d4, d5] }
  | _ => none }
def JournalLostWrongFalsely : Prop := journalLostRow.holds Tryd.pinned (OpenSpec.ofChange journalLostWrong)

/-- 'bulletinlaw24.JournalDurability': WHATEVER THE INPUT: true; the input reads as it did. -/
def journalDurabilitySpec : ChangeSpec := { name := "journalDurability", fn := fun _ => fun
  | [d1, d2, d3, d4, d5, d6] => { results := [.lit (.bool true)], args := [d1, d2, d3, d4, d5, d6] }
  | _ => none }
def journalDurabilityRow : OpenClaim := { program := "ytplclpileejemaadoor", sum := "3ce23c75e9e52af0e1ba8c570438960f2fef3ad38c63787ef4140e457c77e383", func := "bulletin/bulletinlaw24.JournalDurability", spec := "journalDurability", unfollowed := true, recurses := true, named := ["bulletin/sha256.constants"], apart := false, laid := [("bulletin/sha256.constants", laid_bulletin_sha256_constants)] }
def JournalDurabilitySaid : Prop := journalDurabilityRow.holds Tryd.pinned (OpenSpec.ofChange journalDurabilitySpec)

/-- ITS FALSE NEIGHBOUR: 'it returns false'. Refute it at one input. -/
def journalDurabilityWrong : ChangeSpec := { name := "journalDurability", fn := fun _ => fun
  | [d1, d2, d3, d4, d5, d6] => { results := [.lit (.bool false)], args := [d1, d2, d3, d4, d5, d6] }
  | _ => none }
def JournalDurabilityWrongFalsely : Prop := journalDurabilityRow.holds Tryd.pinned (OpenSpec.ofChange journalDurabilityWrong)

/- THE SECOND FORM. 'bulk': how many values and letters a reading holds, each counted each time it is reached (what is shared counts as often as it is met; a slice's spare places count too). A statement '..UptoSaid' is the law's where the arguments, and the package variables that the reading takes, are together of bulk at most 1048576: NARROWER than '..Said'. Prove '..Said' where nothing that the law and all that it calls make is longer than what came in: it says more and counts as full. Else prove '..UptoSaid'. A law counts once. -/
mutual
def uptoBulk {H : Type} : DataW H → Nat
  | .lit (.string bytes) => bytes.length + 1
  | .lit _ => 1
  | .nil => 1
  | .ptr d => uptoBulk d + 1
  | .slice elems spare => uptoBulkAll elems + uptoBulkAll spare + 1
  | .agg parts => uptoBulkAll parts + 1
  | .iface _ d => uptoBulk d + 1
  | .map entries => uptoBulkEntries entries + 1
  | .held _ => 1
def uptoBulkAll {H : Type} : List (DataW H) → Nat
  | [] => 0
  | d :: r => uptoBulk d + uptoBulkAll r
def uptoBulkEntries {H : Type} : List (Lit × DataW H) → Nat
  | [] => 0
  | x :: r => uptoBulkEntry x + uptoBulkEntries r
def uptoBulkEntry {H : Type} : Lit × DataW H → Nat
  | (.string bytes, d) => bytes.length + uptoBulk d + 1
  | (_, d) => uptoBulk d + 1
 end
def uptoSmall : (H : Type) → List (DataW H) → Bool := fun _ ds => decide (uptoBulkAll ds ≤ 1048576)
def OpenSpec.upto (s : _root_.Go.ChangeSpec) : _root_.Go.OpenSpec := { _root_.Go.OpenSpec.ofChange s with cond := some uptoSmall }

/-- 'bulletinlaw24.JournalFull', WHERE WHAT IT READS IS OF BULK AT MOST 1048576: true; the input reads as it did. -/
def journalFullUptoRow : OpenClaim := { program := "ytplclpileejemaadoor", sum := "3ce23c75e9e52af0e1ba8c570438960f2fef3ad38c63787ef4140e457c77e383", func := "bulletin/bulletinlaw24.JournalFull", spec := "journalFull", unfollowed := true, recurses := true, named := ["bulletin/sha256.constants"], apart := false, laid := [("bulletin/sha256.constants", laid_bulletin_sha256_constants)], narrowed := true }
def JournalFullUptoSaid : Prop := journalFullUptoRow.holds Tryd.pinned (OpenSpec.upto journalFullSpec)

/-- 'bulletinlaw24.JournalNeed', WHERE WHAT IT READS IS OF BULK AT MOST 1048576: true; the input reads as it did. -/
def journalNeedUptoRow : OpenClaim := { program := "ytplclpileejemaadoor", sum := "3ce23c75e9e52af0e1ba8c570438960f2fef3ad38c63787ef4140e457c77e383", func := "bulletin/bulletinlaw24.JournalNeed", spec := "journalNeed", unfollowed := true, recurses := true, named := ["bulletin/sha256.constants"], apart := false, laid := [("bulletin/sha256.constants", laid_bulletin_sha256_constants)], narrowed := true }
def JournalNeedUptoSaid : Prop := journalNeedUptoRow.holds Tryd.pinned (OpenSpec.upto journalNeedSpec)

/-- 'bulletinlaw24.JournalEntries', WHERE WHAT IT READS IS OF BULK AT MOST 1048576: true; the input reads as it did. -/
def journalEntriesUptoRow : OpenClaim := { program := "ytplclpileejemaadoor", sum := "3ce23c75e9e52af0e1ba8c570438960f2fef3ad38c63787ef4140e457c77e383", func := "bulletin/bulletinlaw24.JournalEntries", spec := "journalEntries", unfollowed := true, recurses := true, named := ["bulletin/sha256.constants"], apart := false, laid := [("bulletin/sha256.constants", laid_bulletin_sha256_constants)], narrowed := true }
def JournalEntriesUptoSaid : Prop := journalEntriesUptoRow.holds Tryd.pinned (OpenSpec.upto journalEntriesSpec)

/-- 'bulletinlaw24.JournalOthers', WHERE WHAT IT READS IS OF BULK AT MOST 1048576: true; the input reads as it did. -/
def journalOthersUptoRow : OpenClaim := { program := "ytplclpileejemaadoor", sum := "3ce23c75e9e52af0e1ba8c570438960f2fef3ad38c63787ef4140e457c77e383", func := "bulletin/bulletinlaw24.JournalOthers", spec := "journalOthers", unfollowed := true, recurses := true, named := ["bulletin/sha256.constants"], apart := false, laid := [("bulletin/sha256.constants", laid_bulletin_sha256_constants)], narrowed := true }
def JournalOthersUptoSaid : Prop := journalOthersUptoRow.holds Tryd.pinned (OpenSpec.upto journalOthersSpec)

/-- 'bulletinlaw24.JournalErrors', WHERE WHAT IT READS IS OF BULK AT MOST 1048576: true; the input reads as it did. -/
def journalErrorsUptoRow : OpenClaim := { program := "ytplclpileejemaadoor", sum := "3ce23c75e9e52af0e1ba8c570438960f2fef3ad38c63787ef4140e457c77e383", func := "bulletin/bulletinlaw24.JournalErrors", spec := "journalErrors", unfollowed := true, recurses := true, named := ["bulletin/sha256.constants"], apart := false, laid := [("bulletin/sha256.constants", laid_bulletin_sha256_constants)], narrowed := true }
def JournalErrorsUptoSaid : Prop := journalErrorsUptoRow.holds Tryd.pinned (OpenSpec.upto journalErrorsSpec)

/-- 'bulletinlaw24.JournalLost', WHERE WHAT IT READS IS OF BULK AT MOST 1048576: true; the input reads as it did. -/
def journalLostUptoRow : OpenClaim := { program := "ytplclpileejemaadoor", sum := "3ce23c75e9e52af0e1ba8c570438960f2fef3ad38c63787ef4140e457c77e383", func := "bulletin/bulletinlaw24.JournalLost", spec := "journalLost", unfollowed := true, recurses := true, named := ["bulletin/sha256.constants"], apart := false, laid := [("bulletin/sha256.constants", laid_bulletin_sha256_constants)], narrowed := true }
def JournalLostUptoSaid : Prop := journalLostUptoRow.holds Tryd.pinned (OpenSpec.upto journalLostSpec)

/-- 'bulletinlaw24.JournalDurability', WHERE WHAT IT READS IS OF BULK AT MOST 1048576: true; the input reads as it did. -/
def journalDurabilityUptoRow : OpenClaim := { program := "ytplclpileejemaadoor", sum := "3ce23c75e9e52af0e1ba8c570438960f2fef3ad38c63787ef4140e457c77e383", func := "bulletin/bulletinlaw24.JournalDurability", spec := "journalDurability", unfollowed := true, recurses := true, named := ["bulletin/sha256.constants"], apart := false, laid := [("bulletin/sha256.constants", laid_bulletin_sha256_constants)], narrowed := true }
def JournalDurabilityUptoSaid : Prop := journalDurabilityUptoRow.holds Tryd.pinned (OpenSpec.upto journalDurabilitySpec)

end Rows
end Go.Proofs.YtplclpileejemaaDoor
