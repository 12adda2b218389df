/-
  DERIVED. GIVEN WITH THE SEED: THE CARDS: each row of YtplclpileejemaaDoorRows.lean that lists a variable, with what it lists TIED to the program's text (the seventh form; the later family's looks); each row that meets fmt, with fmt's text TOLD by the authors' own Lean function (tested against real Go, not proved from fmt's source: count such statements apart). THE CARD IS WHAT COUNTS. Prove the row's statement (the work); the ties are given (YtplclpileejemaaDoorTie.lean); close each card by the builder's one call (the guide's Derived/Test/ToyasCard.lean, 'card_holds'). Laid BY PROGRAM, IN A SANDBOX (cutbox-door.mjs). By AI agents, Wed Nov 11 2026. No macro, syntax, notation, axiom, sorry.
-/
import Derived.Test.YtplclpileejemaaDoorRows
import GoSem.ClaimSeven
namespace Go.Proofs.YtplclpileejemaaDoor
namespace Rows

/-- THE TIED CARD OF 'bulletinlaw24.JournalFull'. -/
def journalFullCard : Claim7 := { stood := { row := journalFullRow, standIns := [], harness := (true, "ea7d0078d968d40aaaa44fb71485fd39388da40a1bd31b4ac429f2b104c4a405"), looks := false }, kinds := [], alts := [], laidByText := true, laidKinds := [.data], laidTests := true, laidLooks := .later }
def JournalFullCardSaid : Prop := Claim7.holds Tryd.pinned (.plain (OpenSpec.ofChange journalFullSpec)) journalFullCard

/-- THE TIED CARD OF 'bulletinlaw24.JournalNeed'. -/
def journalNeedCard : Claim7 := { stood := { row := journalNeedRow, standIns := [], harness := (true, "ea7d0078d968d40aaaa44fb71485fd39388da40a1bd31b4ac429f2b104c4a405"), looks := false }, kinds := [], alts := [], laidByText := true, laidKinds := [.data], laidTests := true, laidLooks := .later }
def JournalNeedCardSaid : Prop := Claim7.holds Tryd.pinned (.plain (OpenSpec.ofChange journalNeedSpec)) journalNeedCard

/-- THE TIED CARD OF 'bulletinlaw24.JournalEntries'. -/
def journalEntriesCard : Claim7 := { stood := { row := journalEntriesRow, standIns := [], harness := (true, "ea7d0078d968d40aaaa44fb71485fd39388da40a1bd31b4ac429f2b104c4a405"), looks := false }, kinds := [], alts := [], laidByText := true, laidKinds := [.data], laidTests := true, laidLooks := .later }
def JournalEntriesCardSaid : Prop := Claim7.holds Tryd.pinned (.plain (OpenSpec.ofChange journalEntriesSpec)) journalEntriesCard

/-- THE TIED CARD OF 'bulletinlaw24.JournalOthers'. -/
def journalOthersCard : Claim7 := { stood := { row := journalOthersRow, standIns := [], harness := (true, "ea7d0078d968d40aaaa44fb71485fd39388da40a1bd31b4ac429f2b104c4a405"), looks := false }, kinds := [], alts := [], laidByText := true, laidKinds := [.data], laidTests := true, laidLooks := .later }
def JournalOthersCardSaid : Prop := Claim7.holds Tryd.pinned (.plain (OpenSpec.ofChange journalOthersSpec)) journalOthersCard

/-- THE TIED CARD OF 'bulletinlaw24.JournalErrors'. -/
def journalErrorsCard : Claim7 := { stood := { row := journalErrorsRow, standIns := [], harness := (true, "ea7d0078d968d40aaaa44fb71485fd39388da40a1bd31b4ac429f2b104c4a405"), looks := false }, kinds := [], alts := [], laidByText := true, laidKinds := [.data], laidTests := true, laidLooks := .later }
def JournalErrorsCardSaid : Prop := Claim7.holds Tryd.pinned (.plain (OpenSpec.ofChange journalErrorsSpec)) journalErrorsCard

/-- THE TIED CARD OF 'bulletinlaw24.JournalLost'. -/
def journalLostCard : Claim7 := { stood := { row := journalLostRow, standIns := [], harness := (true, "ea7d0078d968d40aaaa44fb71485fd39388da40a1bd31b4ac429f2b104c4a405"), looks := false }, kinds := [], alts := [], laidByText := true, laidKinds := [.data], laidTests := true, laidLooks := .later }
def JournalLostCardSaid : Prop := Claim7.holds Tryd.pinned (.plain (OpenSpec.ofChange journalLostSpec)) journalLostCard

/-- THE TIED CARD OF 'bulletinlaw24.JournalDurability'. -/
def journalDurabilityCard : Claim7 := { stood := { row := journalDurabilityRow, standIns := [], harness := (true, "ea7d0078d968d40aaaa44fb71485fd39388da40a1bd31b4ac429f2b104c4a405"), looks := false }, kinds := [], alts := [], laidByText := true, laidKinds := [.data], laidTests := true, laidLooks := .later }
def JournalDurabilityCardSaid : Prop := Claim7.holds Tryd.pinned (.plain (OpenSpec.ofChange journalDurabilitySpec)) journalDurabilityCard

/-- THE SECOND FORM's CARD OF 'bulletinlaw24.JournalFull'. -/
def journalFullUptoCard : Claim7 := { stood := { row := journalFullUptoRow, standIns := [], harness := (true, "ea7d0078d968d40aaaa44fb71485fd39388da40a1bd31b4ac429f2b104c4a405"), looks := false }, kinds := [], alts := [], laidByText := true, laidKinds := [.data], laidTests := true, laidLooks := .later }
def JournalFullUptoCardSaid : Prop := Claim7.holds Tryd.pinned (.plain (OpenSpec.upto journalFullSpec)) journalFullUptoCard

/-- THE SECOND FORM's CARD OF 'bulletinlaw24.JournalNeed'. -/
def journalNeedUptoCard : Claim7 := { stood := { row := journalNeedUptoRow, standIns := [], harness := (true, "ea7d0078d968d40aaaa44fb71485fd39388da40a1bd31b4ac429f2b104c4a405"), looks := false }, kinds := [], alts := [], laidByText := true, laidKinds := [.data], laidTests := true, laidLooks := .later }
def JournalNeedUptoCardSaid : Prop := Claim7.holds Tryd.pinned (.plain (OpenSpec.upto journalNeedSpec)) journalNeedUptoCard

/-- THE SECOND FORM's CARD OF 'bulletinlaw24.JournalEntries'. -/
def journalEntriesUptoCard : Claim7 := { stood := { row := journalEntriesUptoRow, standIns := [], harness := (true, "ea7d0078d968d40aaaa44fb71485fd39388da40a1bd31b4ac429f2b104c4a405"), looks := false }, kinds := [], alts := [], laidByText := true, laidKinds := [.data], laidTests := true, laidLooks := .later }
def JournalEntriesUptoCardSaid : Prop := Claim7.holds Tryd.pinned (.plain (OpenSpec.upto journalEntriesSpec)) journalEntriesUptoCard

/-- THE SECOND FORM's CARD OF 'bulletinlaw24.JournalOthers'. -/
def journalOthersUptoCard : Claim7 := { stood := { row := journalOthersUptoRow, standIns := [], harness := (true, "ea7d0078d968d40aaaa44fb71485fd39388da40a1bd31b4ac429f2b104c4a405"), looks := false }, kinds := [], alts := [], laidByText := true, laidKinds := [.data], laidTests := true, laidLooks := .later }
def JournalOthersUptoCardSaid : Prop := Claim7.holds Tryd.pinned (.plain (OpenSpec.upto journalOthersSpec)) journalOthersUptoCard

/-- THE SECOND FORM's CARD OF 'bulletinlaw24.JournalErrors'. -/
def journalErrorsUptoCard : Claim7 := { stood := { row := journalErrorsUptoRow, standIns := [], harness := (true, "ea7d0078d968d40aaaa44fb71485fd39388da40a1bd31b4ac429f2b104c4a405"), looks := false }, kinds := [], alts := [], laidByText := true, laidKinds := [.data], laidTests := true, laidLooks := .later }
def JournalErrorsUptoCardSaid : Prop := Claim7.holds Tryd.pinned (.plain (OpenSpec.upto journalErrorsSpec)) journalErrorsUptoCard

/-- THE SECOND FORM's CARD OF 'bulletinlaw24.JournalLost'. -/
def journalLostUptoCard : Claim7 := { stood := { row := journalLostUptoRow, standIns := [], harness := (true, "ea7d0078d968d40aaaa44fb71485fd39388da40a1bd31b4ac429f2b104c4a405"), looks := false }, kinds := [], alts := [], laidByText := true, laidKinds := [.data], laidTests := true, laidLooks := .later }
def JournalLostUptoCardSaid : Prop := Claim7.holds Tryd.pinned (.plain (OpenSpec.upto journalLostSpec)) journalLostUptoCard

/-- THE SECOND FORM's CARD OF 'bulletinlaw24.JournalDurability'. -/
def journalDurabilityUptoCard : Claim7 := { stood := { row := journalDurabilityUptoRow, standIns := [], harness := (true, "ea7d0078d968d40aaaa44fb71485fd39388da40a1bd31b4ac429f2b104c4a405"), looks := false }, kinds := [], alts := [], laidByText := true, laidKinds := [.data], laidTests := true, laidLooks := .later }
def JournalDurabilityUptoCardSaid : Prop := Claim7.holds Tryd.pinned (.plain (OpenSpec.upto journalDurabilitySpec)) journalDurabilityUptoCard
end Rows
end Go.Proofs.YtplclpileejemaaDoor
