/-
  DERIVED. GIVEN WITH THE SEED: THE CARDS: each row of YtloaenknhkfaeaaDoorRows.lean that lists a variable, with what it lists TIED to the program's text (the seventh form; the later family's looks); each row that meets fmt, with fmt's text TOLD by the authors' own Lean function (tested against real Go, not proved from fmt's source: count such statements apart). THE CARD IS WHAT COUNTS. Prove the row's statement (the work); the ties are given (YtloaenknhkfaeaaDoorTie.lean); close each card by the builder's one call (the guide's Derived/Test/ToyasCard.lean, 'card_holds'). Laid BY PROGRAM, IN A SANDBOX (cutbox-door.mjs). By AI agents, Wed Nov 11 2026. No macro, syntax, notation, axiom, sorry.
-/
import Derived.Test.YtloaenknhkfaeaaDoorRows
import GoSem.ClaimSeven
namespace Go.Proofs.YtloaenknhkfaeaaDoor
namespace Rows

/-- THE TIED CARD OF 'bulletinlaw23.RecordParts'. -/
def recordPartsCard : Claim7 := { stood := { row := recordPartsRow, standIns := [], harness := (true, "b24cf42930bbad85d32969fbbcca22761499afe622429b085c3fad1937a1f37d"), looks := false }, kinds := [], alts := [], laidByText := true, laidKinds := [.data], laidTests := true, laidLooks := .later }
def RecordPartsCardSaid : Prop := Claim7.holds Tryd.pinned (.plain (OpenSpec.ofChange recordPartsSpec)) recordPartsCard

/-- THE TIED CARD OF 'bulletinlaw23.RecordDecodes'. -/
def recordDecodesCard : Claim7 := { stood := { row := recordDecodesRow, standIns := [], harness := (true, "b24cf42930bbad85d32969fbbcca22761499afe622429b085c3fad1937a1f37d"), looks := false }, kinds := [], alts := [], laidByText := true, laidKinds := [.data], laidTests := true, laidLooks := .later }
def RecordDecodesCardSaid : Prop := Claim7.holds Tryd.pinned (.plain (OpenSpec.ofChange recordDecodesSpec)) recordDecodesCard

/-- THE TIED CARD OF 'bulletinlaw23.RecordTampering'. -/
def recordTamperingCard : Claim7 := { stood := { row := recordTamperingRow, standIns := [], harness := (true, "b24cf42930bbad85d32969fbbcca22761499afe622429b085c3fad1937a1f37d"), looks := false }, kinds := [], alts := [], laidByText := true, laidKinds := [.data], laidTests := true, laidLooks := .later }
def RecordTamperingCardSaid : Prop := Claim7.holds Tryd.pinned (.plain (OpenSpec.ofChange recordTamperingSpec)) recordTamperingCard

/-- THE TIED CARD OF 'bulletinlaw23.RecordTorn'. -/
def recordTornCard : Claim7 := { stood := { row := recordTornRow, standIns := [], harness := (true, "b24cf42930bbad85d32969fbbcca22761499afe622429b085c3fad1937a1f37d"), looks := false }, kinds := [], alts := [], laidByText := true, laidKinds := [.data], laidTests := true, laidLooks := .later }
def RecordTornCardSaid : Prop := Claim7.holds Tryd.pinned (.plain (OpenSpec.ofChange recordTornSpec)) recordTornCard

/-- THE TIED CARD OF 'bulletinlaw23.RecordSplits'. -/
def recordSplitsCard : Claim7 := { stood := { row := recordSplitsRow, standIns := [], harness := (true, "b24cf42930bbad85d32969fbbcca22761499afe622429b085c3fad1937a1f37d"), looks := false }, kinds := [], alts := [], laidByText := true, laidKinds := [.data], laidTests := true, laidLooks := .later }
def RecordSplitsCardSaid : Prop := Claim7.holds Tryd.pinned (.plain (OpenSpec.ofChange recordSplitsSpec)) recordSplitsCard

/-- THE TIED CARD OF 'bulletinlaw23.RecordLimits'. -/
def recordLimitsCard : Claim7 := { stood := { row := recordLimitsRow, standIns := [], harness := (true, "b24cf42930bbad85d32969fbbcca22761499afe622429b085c3fad1937a1f37d"), looks := false }, kinds := [], alts := [], laidByText := true, laidKinds := [.data], laidTests := true, laidLooks := .later }
def RecordLimitsCardSaid : Prop := Claim7.holds Tryd.pinned (.plain (OpenSpec.ofChange recordLimitsSpec)) recordLimitsCard

/-- THE TIED CARD OF 'bulletinlaw23.RecordJoins'. -/
def recordJoinsCard : Claim7 := { stood := { row := recordJoinsRow, standIns := [], harness := (true, "b24cf42930bbad85d32969fbbcca22761499afe622429b085c3fad1937a1f37d"), looks := false }, kinds := [], alts := [], laidByText := true, laidKinds := [.data], laidTests := true, laidLooks := .later }
def RecordJoinsCardSaid : Prop := Claim7.holds Tryd.pinned (.plain (OpenSpec.ofChange recordJoinsSpec)) recordJoinsCard

/-- THE TIED CARD OF 'bulletinlaw23.RecordBack'. -/
def recordBackCard : Claim7 := { stood := { row := recordBackRow, standIns := [], harness := (true, "b24cf42930bbad85d32969fbbcca22761499afe622429b085c3fad1937a1f37d"), looks := false }, kinds := [], alts := [], laidByText := true, laidKinds := [.data], laidTests := true, laidLooks := .later }
def RecordBackCardSaid : Prop := Claim7.holds Tryd.pinned (.plain (OpenSpec.ofChange recordBackSpec)) recordBackCard

/-- THE TIED CARD OF 'bulletinlaw23.RecordScans'. -/
def recordScansCard : Claim7 := { stood := { row := recordScansRow, standIns := [], harness := (true, "b24cf42930bbad85d32969fbbcca22761499afe622429b085c3fad1937a1f37d"), looks := false }, kinds := [], alts := [], laidByText := true, laidKinds := [.data], laidTests := true, laidLooks := .later }
def RecordScansCardSaid : Prop := Claim7.holds Tryd.pinned (.plain (OpenSpec.ofChange recordScansSpec)) recordScansCard

/-- THE TIED CARD OF 'bulletinlaw23.RecordLosses'. -/
def recordLossesCard : Claim7 := { stood := { row := recordLossesRow, standIns := [], harness := (true, "b24cf42930bbad85d32969fbbcca22761499afe622429b085c3fad1937a1f37d"), looks := false }, kinds := [], alts := [], laidByText := true, laidKinds := [.data], laidTests := true, laidLooks := .later }
def RecordLossesCardSaid : Prop := Claim7.holds Tryd.pinned (.plain (OpenSpec.ofChange recordLossesSpec)) recordLossesCard

/-- THE TIED CARD OF 'bulletinlaw23.RecordEquals'. -/
def recordEqualsCard : Claim7 := { stood := { row := recordEqualsRow, standIns := [], harness := (true, "b24cf42930bbad85d32969fbbcca22761499afe622429b085c3fad1937a1f37d"), looks := false }, kinds := [], alts := [], laidByText := true, laidKinds := [.data], laidTests := true, laidLooks := .later }
def RecordEqualsCardSaid : Prop := Claim7.holds Tryd.pinned (.plain (OpenSpec.ofChange recordEqualsSpec)) recordEqualsCard

/-- THE TIED CARD OF 'bulletinlaw23.RecordSalvages'. -/
def recordSalvagesCard : Claim7 := { stood := { row := recordSalvagesRow, standIns := [], harness := (true, "b24cf42930bbad85d32969fbbcca22761499afe622429b085c3fad1937a1f37d"), looks := false }, kinds := [], alts := [], laidByText := true, laidKinds := [.data], laidTests := true, laidLooks := .later }
def RecordSalvagesCardSaid : Prop := Claim7.holds Tryd.pinned (.plain (OpenSpec.ofChange recordSalvagesSpec)) recordSalvagesCard

/-- THE SECOND FORM's CARD OF 'bulletinlaw23.RecordParts'. -/
def recordPartsUptoCard : Claim7 := { stood := { row := recordPartsUptoRow, standIns := [], harness := (true, "b24cf42930bbad85d32969fbbcca22761499afe622429b085c3fad1937a1f37d"), looks := false }, kinds := [], alts := [], laidByText := true, laidKinds := [.data], laidTests := true, laidLooks := .later }
def RecordPartsUptoCardSaid : Prop := Claim7.holds Tryd.pinned (.plain (OpenSpec.upto recordPartsSpec)) recordPartsUptoCard

/-- THE SECOND FORM's CARD OF 'bulletinlaw23.RecordDecodes'. -/
def recordDecodesUptoCard : Claim7 := { stood := { row := recordDecodesUptoRow, standIns := [], harness := (true, "b24cf42930bbad85d32969fbbcca22761499afe622429b085c3fad1937a1f37d"), looks := false }, kinds := [], alts := [], laidByText := true, laidKinds := [.data], laidTests := true, laidLooks := .later }
def RecordDecodesUptoCardSaid : Prop := Claim7.holds Tryd.pinned (.plain (OpenSpec.upto recordDecodesSpec)) recordDecodesUptoCard

/-- THE SECOND FORM's CARD OF 'bulletinlaw23.RecordTampering'. -/
def recordTamperingUptoCard : Claim7 := { stood := { row := recordTamperingUptoRow, standIns := [], harness := (true, "b24cf42930bbad85d32969fbbcca22761499afe622429b085c3fad1937a1f37d"), looks := false }, kinds := [], alts := [], laidByText := true, laidKinds := [.data], laidTests := true, laidLooks := .later }
def RecordTamperingUptoCardSaid : Prop := Claim7.holds Tryd.pinned (.plain (OpenSpec.upto recordTamperingSpec)) recordTamperingUptoCard

/-- THE SECOND FORM's CARD OF 'bulletinlaw23.RecordTorn'. -/
def recordTornUptoCard : Claim7 := { stood := { row := recordTornUptoRow, standIns := [], harness := (true, "b24cf42930bbad85d32969fbbcca22761499afe622429b085c3fad1937a1f37d"), looks := false }, kinds := [], alts := [], laidByText := true, laidKinds := [.data], laidTests := true, laidLooks := .later }
def RecordTornUptoCardSaid : Prop := Claim7.holds Tryd.pinned (.plain (OpenSpec.upto recordTornSpec)) recordTornUptoCard

/-- THE SECOND FORM's CARD OF 'bulletinlaw23.RecordSplits'. -/
def recordSplitsUptoCard : Claim7 := { stood := { row := recordSplitsUptoRow, standIns := [], harness := (true, "b24cf42930bbad85d32969fbbcca22761499afe622429b085c3fad1937a1f37d"), looks := false }, kinds := [], alts := [], laidByText := true, laidKinds := [.data], laidTests := true, laidLooks := .later }
def RecordSplitsUptoCardSaid : Prop := Claim7.holds Tryd.pinned (.plain (OpenSpec.upto recordSplitsSpec)) recordSplitsUptoCard

/-- THE SECOND FORM's CARD OF 'bulletinlaw23.RecordLimits'. -/
def recordLimitsUptoCard : Claim7 := { stood := { row := recordLimitsUptoRow, standIns := [], harness := (true, "b24cf42930bbad85d32969fbbcca22761499afe622429b085c3fad1937a1f37d"), looks := false }, kinds := [], alts := [], laidByText := true, laidKinds := [.data], laidTests := true, laidLooks := .later }
def RecordLimitsUptoCardSaid : Prop := Claim7.holds Tryd.pinned (.plain (OpenSpec.upto recordLimitsSpec)) recordLimitsUptoCard

/-- THE SECOND FORM's CARD OF 'bulletinlaw23.RecordJoins'. -/
def recordJoinsUptoCard : Claim7 := { stood := { row := recordJoinsUptoRow, standIns := [], harness := (true, "b24cf42930bbad85d32969fbbcca22761499afe622429b085c3fad1937a1f37d"), looks := false }, kinds := [], alts := [], laidByText := true, laidKinds := [.data], laidTests := true, laidLooks := .later }
def RecordJoinsUptoCardSaid : Prop := Claim7.holds Tryd.pinned (.plain (OpenSpec.upto recordJoinsSpec)) recordJoinsUptoCard

/-- THE SECOND FORM's CARD OF 'bulletinlaw23.RecordBack'. -/
def recordBackUptoCard : Claim7 := { stood := { row := recordBackUptoRow, standIns := [], harness := (true, "b24cf42930bbad85d32969fbbcca22761499afe622429b085c3fad1937a1f37d"), looks := false }, kinds := [], alts := [], laidByText := true, laidKinds := [.data], laidTests := true, laidLooks := .later }
def RecordBackUptoCardSaid : Prop := Claim7.holds Tryd.pinned (.plain (OpenSpec.upto recordBackSpec)) recordBackUptoCard

/-- THE SECOND FORM's CARD OF 'bulletinlaw23.RecordScans'. -/
def recordScansUptoCard : Claim7 := { stood := { row := recordScansUptoRow, standIns := [], harness := (true, "b24cf42930bbad85d32969fbbcca22761499afe622429b085c3fad1937a1f37d"), looks := false }, kinds := [], alts := [], laidByText := true, laidKinds := [.data], laidTests := true, laidLooks := .later }
def RecordScansUptoCardSaid : Prop := Claim7.holds Tryd.pinned (.plain (OpenSpec.upto recordScansSpec)) recordScansUptoCard

/-- THE SECOND FORM's CARD OF 'bulletinlaw23.RecordLosses'. -/
def recordLossesUptoCard : Claim7 := { stood := { row := recordLossesUptoRow, standIns := [], harness := (true, "b24cf42930bbad85d32969fbbcca22761499afe622429b085c3fad1937a1f37d"), looks := false }, kinds := [], alts := [], laidByText := true, laidKinds := [.data], laidTests := true, laidLooks := .later }
def RecordLossesUptoCardSaid : Prop := Claim7.holds Tryd.pinned (.plain (OpenSpec.upto recordLossesSpec)) recordLossesUptoCard

/-- THE SECOND FORM's CARD OF 'bulletinlaw23.RecordEquals'. -/
def recordEqualsUptoCard : Claim7 := { stood := { row := recordEqualsUptoRow, standIns := [], harness := (true, "b24cf42930bbad85d32969fbbcca22761499afe622429b085c3fad1937a1f37d"), looks := false }, kinds := [], alts := [], laidByText := true, laidKinds := [.data], laidTests := true, laidLooks := .later }
def RecordEqualsUptoCardSaid : Prop := Claim7.holds Tryd.pinned (.plain (OpenSpec.upto recordEqualsSpec)) recordEqualsUptoCard

/-- THE SECOND FORM's CARD OF 'bulletinlaw23.RecordSalvages'. -/
def recordSalvagesUptoCard : Claim7 := { stood := { row := recordSalvagesUptoRow, standIns := [], harness := (true, "b24cf42930bbad85d32969fbbcca22761499afe622429b085c3fad1937a1f37d"), looks := false }, kinds := [], alts := [], laidByText := true, laidKinds := [.data], laidTests := true, laidLooks := .later }
def RecordSalvagesUptoCardSaid : Prop := Claim7.holds Tryd.pinned (.plain (OpenSpec.upto recordSalvagesSpec)) recordSalvagesUptoCard
end Rows
end Go.Proofs.YtloaenknhkfaeaaDoor
