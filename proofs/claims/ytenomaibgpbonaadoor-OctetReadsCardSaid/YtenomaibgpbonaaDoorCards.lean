/-
  DERIVED. GIVEN WITH THE SEED: THE CARDS: each row of YtenomaibgpbonaaDoorRows.lean that lists a variable, with what it lists TIED to the program's text (the seventh form; the later family's looks); each row that meets fmt, with fmt's text TOLD by the authors' own Lean function (tested against real Go, not proved from fmt's source: count such statements apart). THE CARD IS WHAT COUNTS. Prove the row's statement (the work); the ties are given (YtenomaibgpbonaaDoorTie.lean); close each card by the builder's one call (the guide's Derived/Test/ToyasCard.lean, 'card_holds'). Laid BY PROGRAM, IN A SANDBOX (cutbox-door.mjs). By AI agents, Wed Nov 11 2026. No macro, syntax, notation, axiom, sorry.
-/
import Derived.Test.YtenomaibgpbonaaDoorRows
import GoSem.ClaimSeven
namespace Go.Proofs.YtenomaibgpbonaaDoor
namespace Rows

/-- THE TIED CARD OF 'plumblaw16.OctetReads'. -/
def octetReadsCard : Claim7 := { stood := { row := octetReadsRow, standIns := [], harness := (true, "84374f7017462fd1ee244aac989d5168fed8deb8a421f220ec2e845d998c45cb"), looks := true }, kinds := [], alts := [], laidByText := true, laidKinds := [.handle], laidTests := true, laidLooks := .later }
def OctetReadsCardSaid : Prop := Claim7.holds Tryd.pinned (.plain (OpenSpec.ofChange octetReadsSpec)) octetReadsCard

/-- THE TIED CARD OF 'plumblaw16.OctetShort'. -/
def octetShortCard : Claim7 := { stood := { row := octetShortRow, standIns := [], harness := (true, "84374f7017462fd1ee244aac989d5168fed8deb8a421f220ec2e845d998c45cb"), looks := true }, kinds := [], alts := [], laidByText := true, laidKinds := [.handle], laidTests := true, laidLooks := .later }
def OctetShortCardSaid : Prop := Claim7.holds Tryd.pinned (.plain (OpenSpec.ofChange octetShortSpec)) octetShortCard

/-- THE TIED CARD OF 'plumblaw16.OctetHex'. -/
def octetHexCard : Claim7 := { stood := { row := octetHexRow, standIns := [], harness := (true, "84374f7017462fd1ee244aac989d5168fed8deb8a421f220ec2e845d998c45cb"), looks := true }, kinds := [], alts := [], laidByText := true, laidKinds := [.handle], laidTests := true, laidLooks := .later }
def OctetHexCardSaid : Prop := Claim7.holds Tryd.pinned (.plain (OpenSpec.ofChange octetHexSpec)) octetHexCard

/-- THE TIED CARD OF 'plumblaw16.OctetDigits'. -/
def octetDigitsCard : Claim7 := { stood := { row := octetDigitsRow, standIns := [], harness := (true, "84374f7017462fd1ee244aac989d5168fed8deb8a421f220ec2e845d998c45cb"), looks := true }, kinds := [], alts := [], laidByText := true, laidKinds := [.handle], laidTests := true, laidLooks := .later }
def OctetDigitsCardSaid : Prop := Claim7.holds Tryd.pinned (.plain (OpenSpec.ofChange octetDigitsSpec)) octetDigitsCard

/-- THE TIED CARD OF 'plumblaw16.OctetBack'. -/
def octetBackCard : Claim7 := { stood := { row := octetBackRow, standIns := [], harness := (true, "84374f7017462fd1ee244aac989d5168fed8deb8a421f220ec2e845d998c45cb"), looks := true }, kinds := [], alts := [], laidByText := true, laidKinds := [.handle], laidTests := true, laidLooks := .later }
def OctetBackCardSaid : Prop := Claim7.holds Tryd.pinned (.plain (OpenSpec.ofChange octetBackSpec)) octetBackCard

/-- THE SECOND FORM's CARD OF 'plumblaw16.OctetReads'. -/
def octetReadsUptoCard : Claim7 := { stood := { row := octetReadsUptoRow, standIns := [], harness := (true, "84374f7017462fd1ee244aac989d5168fed8deb8a421f220ec2e845d998c45cb"), looks := true }, kinds := [], alts := [], laidByText := true, laidKinds := [.handle], laidTests := true, laidLooks := .later }
def OctetReadsUptoCardSaid : Prop := Claim7.holds Tryd.pinned (.plain (OpenSpec.upto octetReadsSpec)) octetReadsUptoCard

/-- THE SECOND FORM's CARD OF 'plumblaw16.OctetShort'. -/
def octetShortUptoCard : Claim7 := { stood := { row := octetShortUptoRow, standIns := [], harness := (true, "84374f7017462fd1ee244aac989d5168fed8deb8a421f220ec2e845d998c45cb"), looks := true }, kinds := [], alts := [], laidByText := true, laidKinds := [.handle], laidTests := true, laidLooks := .later }
def OctetShortUptoCardSaid : Prop := Claim7.holds Tryd.pinned (.plain (OpenSpec.upto octetShortSpec)) octetShortUptoCard

/-- THE SECOND FORM's CARD OF 'plumblaw16.OctetHex'. -/
def octetHexUptoCard : Claim7 := { stood := { row := octetHexUptoRow, standIns := [], harness := (true, "84374f7017462fd1ee244aac989d5168fed8deb8a421f220ec2e845d998c45cb"), looks := true }, kinds := [], alts := [], laidByText := true, laidKinds := [.handle], laidTests := true, laidLooks := .later }
def OctetHexUptoCardSaid : Prop := Claim7.holds Tryd.pinned (.plain (OpenSpec.upto octetHexSpec)) octetHexUptoCard

/-- THE SECOND FORM's CARD OF 'plumblaw16.OctetDigits'. -/
def octetDigitsUptoCard : Claim7 := { stood := { row := octetDigitsUptoRow, standIns := [], harness := (true, "84374f7017462fd1ee244aac989d5168fed8deb8a421f220ec2e845d998c45cb"), looks := true }, kinds := [], alts := [], laidByText := true, laidKinds := [.handle], laidTests := true, laidLooks := .later }
def OctetDigitsUptoCardSaid : Prop := Claim7.holds Tryd.pinned (.plain (OpenSpec.upto octetDigitsSpec)) octetDigitsUptoCard

/-- THE SECOND FORM's CARD OF 'plumblaw16.OctetBack'. -/
def octetBackUptoCard : Claim7 := { stood := { row := octetBackUptoRow, standIns := [], harness := (true, "84374f7017462fd1ee244aac989d5168fed8deb8a421f220ec2e845d998c45cb"), looks := true }, kinds := [], alts := [], laidByText := true, laidKinds := [.handle], laidTests := true, laidLooks := .later }
def OctetBackUptoCardSaid : Prop := Claim7.holds Tryd.pinned (.plain (OpenSpec.upto octetBackSpec)) octetBackUptoCard
end Rows
end Go.Proofs.YtenomaibgpbonaaDoor
