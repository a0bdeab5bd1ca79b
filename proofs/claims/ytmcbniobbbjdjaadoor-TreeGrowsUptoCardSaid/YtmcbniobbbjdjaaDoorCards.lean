/-
  DERIVED. GIVEN WITH THE SEED: THE CARDS: each row of YtmcbniobbbjdjaaDoorRows.lean that lists a variable, with what it lists TIED to the program's text (the seventh form; the later family's looks); each row that meets fmt, with fmt's text TOLD by the authors' own Lean function (tested against real Go, not proved from fmt's source: count such statements apart). THE CARD IS WHAT COUNTS. Prove the row's statement (the work); the ties are given (YtmcbniobbbjdjaaDoorTie.lean); close each card by the builder's one call (the guide's Derived/Test/ToyasCard.lean, 'card_holds'). Laid BY PROGRAM, IN A SANDBOX (cutbox-door.mjs). By AI agents, Wed Nov 11 2026. No macro, syntax, notation, axiom, sorry.
-/
import Derived.Test.YtmcbniobbbjdjaaDoorRows
import GoSem.ClaimSeven
namespace Go.Proofs.YtmcbniobbbjdjaaDoor
namespace Rows

/-- THE TIED CARD OF 'plumblaw15.TreeChecks'. -/
def treeChecksCard : Claim7 := { stood := { row := treeChecksRow, standIns := [], harness := (true, "e31d3942d1d2dae970b5299d198697b6e74d2c765f2999cdb396b24cf05f9489"), looks := true }, kinds := [], alts := [], laidByText := true, laidKinds := [.handle], laidTests := true, laidLooks := .later }
def TreeChecksCardSaid : Prop := Claim7.holds Tryd.pinned (.plain (OpenSpec.ofChange treeChecksSpec)) treeChecksCard

/-- THE TIED CARD OF 'plumblaw15.TreeFlats'. -/
def treeFlatsCard : Claim7 := { stood := { row := treeFlatsRow, standIns := [], harness := (true, "e31d3942d1d2dae970b5299d198697b6e74d2c765f2999cdb396b24cf05f9489"), looks := true }, kinds := [], alts := [], laidByText := true, laidKinds := [.handle], laidTests := true, laidLooks := .later }
def TreeFlatsCardSaid : Prop := Claim7.holds Tryd.pinned (.plain (OpenSpec.ofChange treeFlatsSpec)) treeFlatsCard

/-- THE TIED CARD OF 'plumblaw15.TreeGrows'. -/
def treeGrowsCard : Claim7 := { stood := { row := treeGrowsRow, standIns := [], harness := (true, "e31d3942d1d2dae970b5299d198697b6e74d2c765f2999cdb396b24cf05f9489"), looks := true }, kinds := [], alts := [], laidByText := true, laidKinds := [.handle], laidTests := true, laidLooks := .later }
def TreeGrowsCardSaid : Prop := Claim7.holds Tryd.pinned (.plain (OpenSpec.ofChange treeGrowsSpec)) treeGrowsCard

/-- THE TIED CARD OF 'plumblaw15.TreeBack'. -/
def treeBackCard : Claim7 := { stood := { row := treeBackRow, standIns := [], harness := (true, "e31d3942d1d2dae970b5299d198697b6e74d2c765f2999cdb396b24cf05f9489"), looks := true }, kinds := [], alts := [], laidByText := true, laidKinds := [.handle], laidTests := true, laidLooks := .later }
def TreeBackCardSaid : Prop := Claim7.holds Tryd.pinned (.plain (OpenSpec.ofChange treeBackSpec)) treeBackCard

/-- THE SECOND FORM's CARD OF 'plumblaw15.TreeChecks'. -/
def treeChecksUptoCard : Claim7 := { stood := { row := treeChecksUptoRow, standIns := [], harness := (true, "e31d3942d1d2dae970b5299d198697b6e74d2c765f2999cdb396b24cf05f9489"), looks := true }, kinds := [], alts := [], laidByText := true, laidKinds := [.handle], laidTests := true, laidLooks := .later }
def TreeChecksUptoCardSaid : Prop := Claim7.holds Tryd.pinned (.plain (OpenSpec.upto treeChecksSpec)) treeChecksUptoCard

/-- THE SECOND FORM's CARD OF 'plumblaw15.TreeFlats'. -/
def treeFlatsUptoCard : Claim7 := { stood := { row := treeFlatsUptoRow, standIns := [], harness := (true, "e31d3942d1d2dae970b5299d198697b6e74d2c765f2999cdb396b24cf05f9489"), looks := true }, kinds := [], alts := [], laidByText := true, laidKinds := [.handle], laidTests := true, laidLooks := .later }
def TreeFlatsUptoCardSaid : Prop := Claim7.holds Tryd.pinned (.plain (OpenSpec.upto treeFlatsSpec)) treeFlatsUptoCard

/-- THE SECOND FORM's CARD OF 'plumblaw15.TreeGrows'. -/
def treeGrowsUptoCard : Claim7 := { stood := { row := treeGrowsUptoRow, standIns := [], harness := (true, "e31d3942d1d2dae970b5299d198697b6e74d2c765f2999cdb396b24cf05f9489"), looks := true }, kinds := [], alts := [], laidByText := true, laidKinds := [.handle], laidTests := true, laidLooks := .later }
def TreeGrowsUptoCardSaid : Prop := Claim7.holds Tryd.pinned (.plain (OpenSpec.upto treeGrowsSpec)) treeGrowsUptoCard

/-- THE SECOND FORM's CARD OF 'plumblaw15.TreeBack'. -/
def treeBackUptoCard : Claim7 := { stood := { row := treeBackUptoRow, standIns := [], harness := (true, "e31d3942d1d2dae970b5299d198697b6e74d2c765f2999cdb396b24cf05f9489"), looks := true }, kinds := [], alts := [], laidByText := true, laidKinds := [.handle], laidTests := true, laidLooks := .later }
def TreeBackUptoCardSaid : Prop := Claim7.holds Tryd.pinned (.plain (OpenSpec.upto treeBackSpec)) treeBackUptoCard
end Rows
end Go.Proofs.YtmcbniobbbjdjaaDoor
