/-
  NARROWER THAN 'FOR EVERY INPUT', by the rows' own cells (each row's printed sentence says how): OctetReads: laid · OctetShort: laid · OctetHex: laid · OctetDigits: laid · OctetBack: laid.
  DERIVED. THE GIVEN ROWS OF THIS SEAT. 5 by the template 'for every input the law returns true; each argument reads behind the call as it read before'; 0 by the template 'total and deterministic' (their statements: YtenomaibgpbonaaDoorTotals.lean).
  GIVEN WITH THE SEED: the statements are not yours to turn. If you find one false, say at which input.
  Laid BY PROGRAM, IN A SANDBOX (cutbox-rows.mjs): the forced cells as the released guide's own fill.sh prints them over the translation 53e59e2aa3e8107e… (all of the seat's roots in one cut). By AI agents, Wed Nov 11 2026. No macro, syntax, notation, axiom, sorry.
-/
import Derived.Test.YtenomaibgpbonaaDoorChecked
import GoSem.Claim
import GoSem.ClaimJoined
import GoSem.ClaimMapViews
import Derived.JoinedTies
import Derived.KernelRfl
namespace Go.Proofs.YtenomaibgpbonaaDoor
/- THE CELL 'sum', in the pinned program and in every row, IS THE sha256 OF THE DUMP (.gsa) THAT YtenomaibgpbonaaDoorProg.lean LOADS. Nothing in Lean hashes anything: it is a label: what it is worth is what the hold of that sum in a sandbox is worth. -/
noncomputable def Tryd.pinned : Pinned := { name := "ytenomaibgpbonaadoor", sum := "53e59e2aa3e8107e0b6be036d1644acf4b0b29573fc480fcbbad07bb2df030b6", checked := Tryd.checked }
namespace Rows
def none {H : Type} : Left H := { results := [], args := [] }

/- WHAT THE LISTED PACKAGE-LEVEL VARIABLES READ AS WHEN THE CALL BEGINS. Each datum BY PROGRAM (the guide's laid-datum.mjs) off the statement by which the dump's own 'gosem.cut.vars' lays the variable. In a bare row this is a premise. The card (YtenomaibgpbonaaDoorCards.lean) ties it to the program's text. -/
def laid_errors_errorType {H : Type} : DataW H := .iface "internal/reflectlite.rtype" (.agg [.ptr (.lit (.string [101, 114, 114, 111, 114]))])

/-- 'plumblaw16.OctetReads': WHATEVER THE INPUT: true; the input reads as it did. -/
def octetReadsSpec : ChangeSpec := { name := "octetReads", fn := fun _ => fun
  | [d1, d2, d3] => { results := [.lit (.bool true)], args := [d1, d2, d3] }
  | _ => none }
def octetReadsRow : OpenClaim := { program := "ytenomaibgpbonaadoor", sum := "53e59e2aa3e8107e0b6be036d1644acf4b0b29573fc480fcbbad07bb2df030b6", func := "plumb/plumblaw16.OctetReads", spec := "octetReads", inPlace := ["internal/reflectlite.ValueOf", "(internal/reflectlite.Value).Type", "(internal/reflectlite.Value).IsNil", "internal/reflectlite.TypeOf", "(internal/reflectlite.Value).Elem", "(internal/reflectlite.Value).Set"], unfollowed := true, recurses := true, named := ["errors.errorType"], apart := false, laid := [("errors.errorType", laid_errors_errorType)] }
def OctetReadsSaid : Prop := octetReadsRow.holds Tryd.pinned (OpenSpec.ofChange octetReadsSpec)

/-- ITS FALSE NEIGHBOUR: 'it returns false'. Refute it at one input. -/
def octetReadsWrong : ChangeSpec := { name := "octetReads", fn := fun _ => fun
  | [d1, d2, d3] => { results := [.lit (.bool false)], args := [d1, d2, d3] }
  | _ => none }
def OctetReadsWrongFalsely : Prop := octetReadsRow.holds Tryd.pinned (OpenSpec.ofChange octetReadsWrong)

/-- 'plumblaw16.OctetShort': WHATEVER THE INPUT: true; the input reads as it did. -/
def octetShortSpec : ChangeSpec := { name := "octetShort", fn := fun _ => fun
  | [d1, d2, d3] => { results := [.lit (.bool true)], args := [d1, d2, d3] }
  | _ => none }
def octetShortRow : OpenClaim := { program := "ytenomaibgpbonaadoor", sum := "53e59e2aa3e8107e0b6be036d1644acf4b0b29573fc480fcbbad07bb2df030b6", func := "plumb/plumblaw16.OctetShort", spec := "octetShort", inPlace := ["internal/reflectlite.ValueOf", "(internal/reflectlite.Value).Type", "(internal/reflectlite.Value).IsNil", "internal/reflectlite.TypeOf", "(internal/reflectlite.Value).Elem", "(internal/reflectlite.Value).Set"], unfollowed := true, recurses := true, named := ["errors.errorType"], apart := false, laid := [("errors.errorType", laid_errors_errorType)] }
def OctetShortSaid : Prop := octetShortRow.holds Tryd.pinned (OpenSpec.ofChange octetShortSpec)

/-- ITS FALSE NEIGHBOUR: 'it returns false'. Refute it at one input. -/
def octetShortWrong : ChangeSpec := { name := "octetShort", fn := fun _ => fun
  | [d1, d2, d3] => { results := [.lit (.bool false)], args := [d1, d2, d3] }
  | _ => none }
def OctetShortWrongFalsely : Prop := octetShortRow.holds Tryd.pinned (OpenSpec.ofChange octetShortWrong)

/-- 'plumblaw16.OctetHex': WHATEVER THE INPUT: true; the input reads as it did. -/
def octetHexSpec : ChangeSpec := { name := "octetHex", fn := fun _ => fun
  | [d1, d2] => { results := [.lit (.bool true)], args := [d1, d2] }
  | _ => none }
def octetHexRow : OpenClaim := { program := "ytenomaibgpbonaadoor", sum := "53e59e2aa3e8107e0b6be036d1644acf4b0b29573fc480fcbbad07bb2df030b6", func := "plumb/plumblaw16.OctetHex", spec := "octetHex", inPlace := ["internal/reflectlite.ValueOf", "(internal/reflectlite.Value).Type", "(internal/reflectlite.Value).IsNil", "internal/reflectlite.TypeOf", "(internal/reflectlite.Value).Elem", "(internal/reflectlite.Value).Set"], unfollowed := true, recurses := true, named := ["errors.errorType"], apart := false, laid := [("errors.errorType", laid_errors_errorType)] }
def OctetHexSaid : Prop := octetHexRow.holds Tryd.pinned (OpenSpec.ofChange octetHexSpec)

/-- ITS FALSE NEIGHBOUR: 'it returns false'. Refute it at one input. -/
def octetHexWrong : ChangeSpec := { name := "octetHex", fn := fun _ => fun
  | [d1, d2] => { results := [.lit (.bool false)], args := [d1, d2] }
  | _ => none }
def OctetHexWrongFalsely : Prop := octetHexRow.holds Tryd.pinned (OpenSpec.ofChange octetHexWrong)

/-- 'plumblaw16.OctetDigits': WHATEVER THE INPUT: true; the input reads as it did. -/
def octetDigitsSpec : ChangeSpec := { name := "octetDigits", fn := fun _ => fun
  | [d] => { results := [.lit (.bool true)], args := [d] }
  | _ => none }
def octetDigitsRow : OpenClaim := { program := "ytenomaibgpbonaadoor", sum := "53e59e2aa3e8107e0b6be036d1644acf4b0b29573fc480fcbbad07bb2df030b6", func := "plumb/plumblaw16.OctetDigits", spec := "octetDigits", inPlace := ["internal/reflectlite.ValueOf", "(internal/reflectlite.Value).Type", "(internal/reflectlite.Value).IsNil", "internal/reflectlite.TypeOf", "(internal/reflectlite.Value).Elem", "(internal/reflectlite.Value).Set"], unfollowed := true, recurses := true, named := ["errors.errorType"], apart := false, laid := [("errors.errorType", laid_errors_errorType)] }
def OctetDigitsSaid : Prop := octetDigitsRow.holds Tryd.pinned (OpenSpec.ofChange octetDigitsSpec)

/-- ITS FALSE NEIGHBOUR: 'it returns false'. Refute it at one input. -/
def octetDigitsWrong : ChangeSpec := { name := "octetDigits", fn := fun _ => fun
  | [d] => { results := [.lit (.bool false)], args := [d] }
  | _ => none }
def OctetDigitsWrongFalsely : Prop := octetDigitsRow.holds Tryd.pinned (OpenSpec.ofChange octetDigitsWrong)

/-- 'plumblaw16.OctetBack': WHATEVER THE INPUT: true; the input reads as it did. -/
def octetBackSpec : ChangeSpec := { name := "octetBack", fn := fun _ => fun
  | [d] => { results := [.lit (.bool true)], args := [d] }
  | _ => none }
def octetBackRow : OpenClaim := { program := "ytenomaibgpbonaadoor", sum := "53e59e2aa3e8107e0b6be036d1644acf4b0b29573fc480fcbbad07bb2df030b6", func := "plumb/plumblaw16.OctetBack", spec := "octetBack", inPlace := ["internal/reflectlite.ValueOf", "(internal/reflectlite.Value).Type", "(internal/reflectlite.Value).IsNil", "internal/reflectlite.TypeOf", "(internal/reflectlite.Value).Elem", "(internal/reflectlite.Value).Set"], unfollowed := true, recurses := true, named := ["errors.errorType"], apart := false, laid := [("errors.errorType", laid_errors_errorType)] }
def OctetBackSaid : Prop := octetBackRow.holds Tryd.pinned (OpenSpec.ofChange octetBackSpec)

/-- ITS FALSE NEIGHBOUR: 'it returns false'. Refute it at one input. -/
def octetBackWrong : ChangeSpec := { name := "octetBack", fn := fun _ => fun
  | [d] => { results := [.lit (.bool false)], args := [d] }
  | _ => none }
def OctetBackWrongFalsely : Prop := octetBackRow.holds Tryd.pinned (OpenSpec.ofChange octetBackWrong)

/- THE SECOND FORM. 'bulk': how many values and letters a reading holds, each counted each time it is reached (what is shared counts as often as it is met; a slice's spare places count too). A statement '..UptoSaid' is the law's where the arguments, and the package variables that the reading takes, are together of bulk at most 1048576: NARROWER than '..Said'. Prove '..Said' where nothing that the law and all that it calls make is longer than what came in: it says more and counts as full. Else prove '..UptoSaid'. A law counts once. -/
mutual
def uptoBulk {H : Type} : DataW H → Nat
  | .lit (.string bytes) => bytes.length + 1
  | .lit _ => 1
  | .nil => 1
  | .ptr d => uptoBulk d + 1
  | .slice elems spare => uptoBulkAll elems + uptoBulkAll spare + 1
  | .agg parts => uptoBulkAll parts + 1
  | .iface _ d => uptoBulk d + 1
  | .map entries => uptoBulkEntries entries + 1
  | .held _ => 1
def uptoBulkAll {H : Type} : List (DataW H) → Nat
  | [] => 0
  | d :: r => uptoBulk d + uptoBulkAll r
def uptoBulkEntries {H : Type} : List (Lit × DataW H) → Nat
  | [] => 0
  | x :: r => uptoBulkEntry x + uptoBulkEntries r
def uptoBulkEntry {H : Type} : Lit × DataW H → Nat
  | (.string bytes, d) => bytes.length + uptoBulk d + 1
  | (_, d) => uptoBulk d + 1
 end
def uptoSmall : (H : Type) → List (DataW H) → Bool := fun _ ds => decide (uptoBulkAll ds ≤ 1048576)
def OpenSpec.upto (s : _root_.Go.ChangeSpec) : _root_.Go.OpenSpec := { _root_.Go.OpenSpec.ofChange s with cond := some uptoSmall }

/-- 'plumblaw16.OctetReads', WHERE WHAT IT READS IS OF BULK AT MOST 1048576: true; the input reads as it did. -/
def octetReadsUptoRow : OpenClaim := { program := "ytenomaibgpbonaadoor", sum := "53e59e2aa3e8107e0b6be036d1644acf4b0b29573fc480fcbbad07bb2df030b6", func := "plumb/plumblaw16.OctetReads", spec := "octetReads", inPlace := ["internal/reflectlite.ValueOf", "(internal/reflectlite.Value).Type", "(internal/reflectlite.Value).IsNil", "internal/reflectlite.TypeOf", "(internal/reflectlite.Value).Elem", "(internal/reflectlite.Value).Set"], unfollowed := true, recurses := true, named := ["errors.errorType"], apart := false, laid := [("errors.errorType", laid_errors_errorType)], narrowed := true }
def OctetReadsUptoSaid : Prop := octetReadsUptoRow.holds Tryd.pinned (OpenSpec.upto octetReadsSpec)

/-- 'plumblaw16.OctetShort', WHERE WHAT IT READS IS OF BULK AT MOST 1048576: true; the input reads as it did. -/
def octetShortUptoRow : OpenClaim := { program := "ytenomaibgpbonaadoor", sum := "53e59e2aa3e8107e0b6be036d1644acf4b0b29573fc480fcbbad07bb2df030b6", func := "plumb/plumblaw16.OctetShort", spec := "octetShort", inPlace := ["internal/reflectlite.ValueOf", "(internal/reflectlite.Value).Type", "(internal/reflectlite.Value).IsNil", "internal/reflectlite.TypeOf", "(internal/reflectlite.Value).Elem", "(internal/reflectlite.Value).Set"], unfollowed := true, recurses := true, named := ["errors.errorType"], apart := false, laid := [("errors.errorType", laid_errors_errorType)], narrowed := true }
def OctetShortUptoSaid : Prop := octetShortUptoRow.holds Tryd.pinned (OpenSpec.upto octetShortSpec)

/-- 'plumblaw16.OctetHex', WHERE WHAT IT READS IS OF BULK AT MOST 1048576: true; the input reads as it did. -/
def octetHexUptoRow : OpenClaim := { program := "ytenomaibgpbonaadoor", sum := "53e59e2aa3e8107e0b6be036d1644acf4b0b29573fc480fcbbad07bb2df030b6", func := "plumb/plumblaw16.OctetHex", spec := "octetHex", inPlace := ["internal/reflectlite.ValueOf", "(internal/reflectlite.Value).Type", "(internal/reflectlite.Value).IsNil", "internal/reflectlite.TypeOf", "(internal/reflectlite.Value).Elem", "(internal/reflectlite.Value).Set"], unfollowed := true, recurses := true, named := ["errors.errorType"], apart := false, laid := [("errors.errorType", laid_errors_errorType)], narrowed := true }
def OctetHexUptoSaid : Prop := octetHexUptoRow.holds Tryd.pinned (OpenSpec.upto octetHexSpec)

/-- 'plumblaw16.OctetDigits', WHERE WHAT IT READS IS OF BULK AT MOST 1048576: true; the input reads as it did. -/
def octetDigitsUptoRow : OpenClaim := { program := "ytenomaibgpbonaadoor", sum := "53e59e2aa3e8107e0b6be036d1644acf4b0b29573fc480fcbbad07bb2df030b6", func := "plumb/plumblaw16.OctetDigits", spec := "octetDigits", inPlace := ["internal/reflectlite.ValueOf", "(internal/reflectlite.Value).Type", "(internal/reflectlite.Value).IsNil", "internal/reflectlite.TypeOf", "(internal/reflectlite.Value).Elem", "(internal/reflectlite.Value).Set"], unfollowed := true, recurses := true, named := ["errors.errorType"], apart := false, laid := [("errors.errorType", laid_errors_errorType)], narrowed := true }
def OctetDigitsUptoSaid : Prop := octetDigitsUptoRow.holds Tryd.pinned (OpenSpec.upto octetDigitsSpec)

/-- 'plumblaw16.OctetBack', WHERE WHAT IT READS IS OF BULK AT MOST 1048576: true; the input reads as it did. -/
def octetBackUptoRow : OpenClaim := { program := "ytenomaibgpbonaadoor", sum := "53e59e2aa3e8107e0b6be036d1644acf4b0b29573fc480fcbbad07bb2df030b6", func := "plumb/plumblaw16.OctetBack", spec := "octetBack", inPlace := ["internal/reflectlite.ValueOf", "(internal/reflectlite.Value).Type", "(internal/reflectlite.Value).IsNil", "internal/reflectlite.TypeOf", "(internal/reflectlite.Value).Elem", "(internal/reflectlite.Value).Set"], unfollowed := true, recurses := true, named := ["errors.errorType"], apart := false, laid := [("errors.errorType", laid_errors_errorType)], narrowed := true }
def OctetBackUptoSaid : Prop := octetBackUptoRow.holds Tryd.pinned (OpenSpec.upto octetBackSpec)

end Rows
end Go.Proofs.YtenomaibgpbonaaDoor
