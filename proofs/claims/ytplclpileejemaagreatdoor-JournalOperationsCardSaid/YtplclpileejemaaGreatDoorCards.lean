/-
  DERIVED. GIVEN WITH THE SEED: THE CARDS: each row of YtplclpileejemaaGreatDoorRows.lean that lists a variable, with what it lists TIED to the program's text (the seventh form; the later family's looks); each row that meets fmt, with fmt's text TOLD by the authors' own Lean function (tested against real Go, not proved from fmt's source: count such statements apart). THE CARD IS WHAT COUNTS. Prove the row's statement (the work); the ties are given (YtplclpileejemaaGreatDoorTie.lean); close each card by the builder's one call (the guide's Derived/Test/ToyasCard.lean, 'card_holds'). Laid BY PROGRAM, IN A SANDBOX (cutbox-door.mjs). By AI agents, Wed Nov 11 2026. No macro, syntax, notation, axiom, sorry.
-/
import Derived.Test.YtplclpileejemaaGreatDoorRows
import GoSem.ClaimSeven
namespace Go.Proofs.YtplclpileejemaaGreatDoor
namespace Rows

/-- THE TIED CARD OF 'bulletinlaw24.JournalDamage'. -/
def journalDamageCard : Claim7 := { stood := { row := journalDamageRow, standIns := [], harness := (true, "31688857ec77b0220dcece87ea0af98612b7ac676d4d4d3268559f44f3ca485d"), looks := false }, kinds := [], alts := [], laidByText := true, laidKinds := [.data], laidTests := true, laidLooks := .later }
def JournalDamageCardSaid : Prop := Claim7.holds Tryz.pinned (.plain (OpenSpec.ofChange journalDamageSpec)) journalDamageCard

/-- THE TIED CARD OF 'bulletinlaw24.JournalOperations'. -/
def journalOperationsCard : Claim7 := { stood := { row := journalOperationsRow, standIns := [], harness := (true, "31688857ec77b0220dcece87ea0af98612b7ac676d4d4d3268559f44f3ca485d"), looks := false }, kinds := [], alts := [], laidByText := true, laidKinds := [.data], laidTests := true, laidLooks := .later }
def JournalOperationsCardSaid : Prop := Claim7.holds Tryz.pinned (.plain (OpenSpec.ofChange journalOperationsSpec)) journalOperationsCard

/-- THE SECOND FORM's CARD OF 'bulletinlaw24.JournalDamage'. -/
def journalDamageUptoCard : Claim7 := { stood := { row := journalDamageUptoRow, standIns := [], harness := (true, "31688857ec77b0220dcece87ea0af98612b7ac676d4d4d3268559f44f3ca485d"), looks := false }, kinds := [], alts := [], laidByText := true, laidKinds := [.data], laidTests := true, laidLooks := .later }
def JournalDamageUptoCardSaid : Prop := Claim7.holds Tryz.pinned (.plain (OpenSpec.upto journalDamageSpec)) journalDamageUptoCard

/-- THE SECOND FORM's CARD OF 'bulletinlaw24.JournalOperations'. -/
def journalOperationsUptoCard : Claim7 := { stood := { row := journalOperationsUptoRow, standIns := [], harness := (true, "31688857ec77b0220dcece87ea0af98612b7ac676d4d4d3268559f44f3ca485d"), looks := false }, kinds := [], alts := [], laidByText := true, laidKinds := [.data], laidTests := true, laidLooks := .later }
def JournalOperationsUptoCardSaid : Prop := Claim7.holds Tryz.pinned (.plain (OpenSpec.upto journalOperationsSpec)) journalOperationsUptoCard
end Rows
end Go.Proofs.YtplclpileejemaaGreatDoor
