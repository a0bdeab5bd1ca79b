/-
  DERIVED. GIVEN WITH THE SEED: THE CARDS: each row of YtiiolhnpnlmkjaaDoorRows.lean that lists a variable, with what it lists TIED to the program's text (the seventh form; the later family's looks); each row that meets fmt, with fmt's text TOLD by the authors' own Lean function (tested against real Go, not proved from fmt's source: count such statements apart). THE CARD IS WHAT COUNTS. Prove the row's statement (the work); the ties are given (YtiiolhnpnlmkjaaDoorTie.lean); close each card by the builder's one call (the guide's Derived/Test/ToyasCard.lean, 'card_holds'). Laid BY PROGRAM, IN A SANDBOX (cutbox-door.mjs). By AI agents, Wed Nov 11 2026. No macro, syntax, notation, axiom, sorry.
-/
import Derived.Test.YtiiolhnpnlmkjaaDoorRows
import GoSem.ClaimSeven
namespace Go.Proofs.YtiiolhnpnlmkjaaDoor
namespace Rows

/-- THE TIED CARD OF 'plumblaw17.WkbParses'. -/
def wkbParsesCard : Claim7 := { stood := { row := wkbParsesRow, standIns := [], harness := (true, "ca1d9734c3373db6d730b687143c023e2b616e52a8cbf19e9186f51de38f9e88"), looks := true }, kinds := [], alts := [], laidByText := true, laidKinds := [.handle], laidTests := true, laidLooks := .later }
def WkbParsesCardSaid : Prop := Claim7.holds Tryd.pinned (.plain (OpenSpec.ofChange wkbParsesSpec)) wkbParsesCard

/-- THE TIED CARD OF 'plumblaw17.WkbPrints'. -/
def wkbPrintsCard : Claim7 := { stood := { row := wkbPrintsRow, standIns := [], harness := (true, "ca1d9734c3373db6d730b687143c023e2b616e52a8cbf19e9186f51de38f9e88"), looks := true }, kinds := [], alts := [], laidByText := true, laidKinds := [.handle], laidTests := true, laidLooks := .later }
def WkbPrintsCardSaid : Prop := Claim7.holds Tryd.pinned (.plain (OpenSpec.ofChange wkbPrintsSpec)) wkbPrintsCard

/-- THE TIED CARD OF 'plumblaw17.WkbHurt'. -/
def wkbHurtCard : Claim7 := { stood := { row := wkbHurtRow, standIns := [], harness := (true, "ca1d9734c3373db6d730b687143c023e2b616e52a8cbf19e9186f51de38f9e88"), looks := true }, kinds := [], alts := [], laidByText := true, laidKinds := [.handle], laidTests := true, laidLooks := .later }
def WkbHurtCardSaid : Prop := Claim7.holds Tryd.pinned (.plain (OpenSpec.ofChange wkbHurtSpec)) wkbHurtCard

/-- THE TIED CARD OF 'plumblaw17.WkbCuts'. -/
def wkbCutsCard : Claim7 := { stood := { row := wkbCutsRow, standIns := [], harness := (true, "ca1d9734c3373db6d730b687143c023e2b616e52a8cbf19e9186f51de38f9e88"), looks := true }, kinds := [], alts := [], laidByText := true, laidKinds := [.handle], laidTests := true, laidLooks := .later }
def WkbCutsCardSaid : Prop := Claim7.holds Tryd.pinned (.plain (OpenSpec.ofChange wkbCutsSpec)) wkbCutsCard

/-- THE TIED CARD OF 'plumblaw17.WkbCounts'. -/
def wkbCountsCard : Claim7 := { stood := { row := wkbCountsRow, standIns := [], harness := (true, "ca1d9734c3373db6d730b687143c023e2b616e52a8cbf19e9186f51de38f9e88"), looks := true }, kinds := [], alts := [], laidByText := true, laidKinds := [.handle], laidTests := true, laidLooks := .later }
def WkbCountsCardSaid : Prop := Claim7.holds Tryd.pinned (.plain (OpenSpec.ofChange wkbCountsSpec)) wkbCountsCard

/-- THE TIED CARD OF 'plumblaw17.WkbCoords'. -/
def wkbCoordsCard : Claim7 := { stood := { row := wkbCoordsRow, standIns := [], harness := (true, "ca1d9734c3373db6d730b687143c023e2b616e52a8cbf19e9186f51de38f9e88"), looks := true }, kinds := [], alts := [], laidByText := true, laidKinds := [.handle], laidTests := true, laidLooks := .later }
def WkbCoordsCardSaid : Prop := Claim7.holds Tryd.pinned (.plain (OpenSpec.ofChange wkbCoordsSpec)) wkbCoordsCard

/-- THE TIED CARD OF 'plumblaw17.WkbFresh'. -/
def wkbFreshCard : Claim7 := { stood := { row := wkbFreshRow, standIns := [], harness := (true, "ca1d9734c3373db6d730b687143c023e2b616e52a8cbf19e9186f51de38f9e88"), looks := true }, kinds := [], alts := [], laidByText := true, laidKinds := [.handle], laidTests := true, laidLooks := .later }
def WkbFreshCardSaid : Prop := Claim7.holds Tryd.pinned (.plain (OpenSpec.ofChange wkbFreshSpec)) wkbFreshCard

/-- THE TIED CARD OF 'plumblaw17.WkbLimits'. -/
def wkbLimitsCard : Claim7 := { stood := { row := wkbLimitsRow, standIns := [], harness := (true, "ca1d9734c3373db6d730b687143c023e2b616e52a8cbf19e9186f51de38f9e88"), looks := true }, kinds := [], alts := [], laidByText := true, laidKinds := [.handle], laidTests := true, laidLooks := .later }
def WkbLimitsCardSaid : Prop := Claim7.holds Tryd.pinned (.plain (OpenSpec.ofChange wkbLimitsSpec)) wkbLimitsCard

/-- THE SECOND FORM's CARD OF 'plumblaw17.WkbParses'. -/
def wkbParsesUptoCard : Claim7 := { stood := { row := wkbParsesUptoRow, standIns := [], harness := (true, "ca1d9734c3373db6d730b687143c023e2b616e52a8cbf19e9186f51de38f9e88"), looks := true }, kinds := [], alts := [], laidByText := true, laidKinds := [.handle], laidTests := true, laidLooks := .later }
def WkbParsesUptoCardSaid : Prop := Claim7.holds Tryd.pinned (.plain (OpenSpec.upto wkbParsesSpec)) wkbParsesUptoCard

/-- THE SECOND FORM's CARD OF 'plumblaw17.WkbPrints'. -/
def wkbPrintsUptoCard : Claim7 := { stood := { row := wkbPrintsUptoRow, standIns := [], harness := (true, "ca1d9734c3373db6d730b687143c023e2b616e52a8cbf19e9186f51de38f9e88"), looks := true }, kinds := [], alts := [], laidByText := true, laidKinds := [.handle], laidTests := true, laidLooks := .later }
def WkbPrintsUptoCardSaid : Prop := Claim7.holds Tryd.pinned (.plain (OpenSpec.upto wkbPrintsSpec)) wkbPrintsUptoCard

/-- THE SECOND FORM's CARD OF 'plumblaw17.WkbHurt'. -/
def wkbHurtUptoCard : Claim7 := { stood := { row := wkbHurtUptoRow, standIns := [], harness := (true, "ca1d9734c3373db6d730b687143c023e2b616e52a8cbf19e9186f51de38f9e88"), looks := true }, kinds := [], alts := [], laidByText := true, laidKinds := [.handle], laidTests := true, laidLooks := .later }
def WkbHurtUptoCardSaid : Prop := Claim7.holds Tryd.pinned (.plain (OpenSpec.upto wkbHurtSpec)) wkbHurtUptoCard

/-- THE SECOND FORM's CARD OF 'plumblaw17.WkbCuts'. -/
def wkbCutsUptoCard : Claim7 := { stood := { row := wkbCutsUptoRow, standIns := [], harness := (true, "ca1d9734c3373db6d730b687143c023e2b616e52a8cbf19e9186f51de38f9e88"), looks := true }, kinds := [], alts := [], laidByText := true, laidKinds := [.handle], laidTests := true, laidLooks := .later }
def WkbCutsUptoCardSaid : Prop := Claim7.holds Tryd.pinned (.plain (OpenSpec.upto wkbCutsSpec)) wkbCutsUptoCard

/-- THE SECOND FORM's CARD OF 'plumblaw17.WkbCounts'. -/
def wkbCountsUptoCard : Claim7 := { stood := { row := wkbCountsUptoRow, standIns := [], harness := (true, "ca1d9734c3373db6d730b687143c023e2b616e52a8cbf19e9186f51de38f9e88"), looks := true }, kinds := [], alts := [], laidByText := true, laidKinds := [.handle], laidTests := true, laidLooks := .later }
def WkbCountsUptoCardSaid : Prop := Claim7.holds Tryd.pinned (.plain (OpenSpec.upto wkbCountsSpec)) wkbCountsUptoCard

/-- THE SECOND FORM's CARD OF 'plumblaw17.WkbCoords'. -/
def wkbCoordsUptoCard : Claim7 := { stood := { row := wkbCoordsUptoRow, standIns := [], harness := (true, "ca1d9734c3373db6d730b687143c023e2b616e52a8cbf19e9186f51de38f9e88"), looks := true }, kinds := [], alts := [], laidByText := true, laidKinds := [.handle], laidTests := true, laidLooks := .later }
def WkbCoordsUptoCardSaid : Prop := Claim7.holds Tryd.pinned (.plain (OpenSpec.upto wkbCoordsSpec)) wkbCoordsUptoCard

/-- THE SECOND FORM's CARD OF 'plumblaw17.WkbFresh'. -/
def wkbFreshUptoCard : Claim7 := { stood := { row := wkbFreshUptoRow, standIns := [], harness := (true, "ca1d9734c3373db6d730b687143c023e2b616e52a8cbf19e9186f51de38f9e88"), looks := true }, kinds := [], alts := [], laidByText := true, laidKinds := [.handle], laidTests := true, laidLooks := .later }
def WkbFreshUptoCardSaid : Prop := Claim7.holds Tryd.pinned (.plain (OpenSpec.upto wkbFreshSpec)) wkbFreshUptoCard

/-- THE SECOND FORM's CARD OF 'plumblaw17.WkbLimits'. -/
def wkbLimitsUptoCard : Claim7 := { stood := { row := wkbLimitsUptoRow, standIns := [], harness := (true, "ca1d9734c3373db6d730b687143c023e2b616e52a8cbf19e9186f51de38f9e88"), looks := true }, kinds := [], alts := [], laidByText := true, laidKinds := [.handle], laidTests := true, laidLooks := .later }
def WkbLimitsUptoCardSaid : Prop := Claim7.holds Tryd.pinned (.plain (OpenSpec.upto wkbLimitsSpec)) wkbLimitsUptoCard
end Rows
end Go.Proofs.YtiiolhnpnlmkjaaDoor
