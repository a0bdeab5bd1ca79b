/-
  NARROWER THAN 'FOR EVERY INPUT', by the rows' own cells (each row's printed sentence says how): WkbParses: laid · WkbPrints: loops, laid · WkbHurt: laid · WkbCuts: laid · WkbCounts: laid · WkbCoords: laid · WkbFresh: laid · WkbLimits: laid.
  DERIVED. THE GIVEN ROWS OF THIS SEAT. 8 by the template 'for every input the law returns true; each argument reads behind the call as it read before'; 0 by the template 'total and deterministic' (their statements: YtiiolhnpnlmkjaaDoorTotals.lean).
  GIVEN WITH THE SEED: the statements are not yours to turn. If you find one false, say at which input.
  Laid BY PROGRAM, IN A SANDBOX (cutbox-rows.mjs): the forced cells as the released guide's own fill.sh prints them over the translation 318821404888003c… (all of the seat's roots in one cut). By AI agents, Wed Nov 11 2026. No macro, syntax, notation, axiom, sorry.
-/
import Derived.Test.YtiiolhnpnlmkjaaDoorChecked
import GoSem.Claim
import GoSem.ClaimJoined
import GoSem.ClaimMapViews
import Derived.JoinedTies
import Derived.KernelRfl
namespace Go.Proofs.YtiiolhnpnlmkjaaDoor
/- THE CELL 'sum', in the pinned program and in every row, IS THE sha256 OF THE DUMP (.gsa) THAT YtiiolhnpnlmkjaaDoorProg.lean LOADS. Nothing in Lean hashes anything: it is a label: what it is worth is what the hold of that sum in a sandbox is worth. -/
noncomputable def Tryd.pinned : Pinned := { name := "ytiiolhnpnlmkjaadoor", sum := "318821404888003cb357506e4b21fad7ea283a868f7af01503702ed78e778e10", checked := Tryd.checked }
namespace Rows
def none {H : Type} : Left H := { results := [], args := [] }

/- WHAT THE LISTED PACKAGE-LEVEL VARIABLES READ AS WHEN THE CALL BEGINS. Each datum BY PROGRAM (the guide's laid-datum.mjs) off the statement by which the dump's own 'gosem.cut.vars' lays the variable. In a bare row this is a premise. The card (YtiiolhnpnlmkjaaDoorCards.lean) ties it to the program's text. -/
def laid_errors_errorType {H : Type} : DataW H := .iface "internal/reflectlite.rtype" (.agg [.ptr (.lit (.string [101, 114, 114, 111, 114]))])

/-- 'plumblaw17.WkbParses': WHATEVER THE INPUT: true; the input reads as it did. -/
def wkbParsesSpec : ChangeSpec := { name := "wkbParses", fn := fun _ => fun
  | [d1, d2, d3] => { results := [.lit (.bool true)], args := [d1, d2, d3] }
  | _ => none }
def wkbParsesRow : OpenClaim := { program := "ytiiolhnpnlmkjaadoor", sum := "318821404888003cb357506e4b21fad7ea283a868f7af01503702ed78e778e10", func := "plumb/plumblaw17.WkbParses", spec := "wkbParses", inPlace := ["internal/reflectlite.ValueOf", "(internal/reflectlite.Value).Type", "(internal/reflectlite.Value).IsNil", "internal/reflectlite.TypeOf", "(internal/reflectlite.Value).Elem", "(internal/reflectlite.Value).Set"], unfollowed := true, recurses := true, named := ["errors.errorType"], apart := false, laid := [("errors.errorType", laid_errors_errorType)] }
def WkbParsesSaid : Prop := wkbParsesRow.holds Tryd.pinned (OpenSpec.ofChange wkbParsesSpec)

/-- ITS FALSE NEIGHBOUR: 'it returns false'. Refute it at one input. -/
def wkbParsesWrong : ChangeSpec := { name := "wkbParses", fn := fun _ => fun
  | [d1, d2, d3] => { results := [.lit (.bool false)], args := [d1, d2, d3] }
  | _ => none }
def WkbParsesWrongFalsely : Prop := wkbParsesRow.holds Tryd.pinned (OpenSpec.ofChange wkbParsesWrong)

/-- 'plumblaw17.WkbPrints': WHATEVER THE INPUT: true; the input reads as it did. -/
def wkbPrintsSpec : ChangeSpec := { name := "wkbPrints", fn := fun _ => fun
  | [d1, d2, d3] => { results := [.lit (.bool true)], args := [d1, d2, d3] }
  | _ => none }
def wkbPrintsRow : OpenClaim := { program := "ytiiolhnpnlmkjaadoor", sum := "318821404888003cb357506e4b21fad7ea283a868f7af01503702ed78e778e10", func := "plumb/plumblaw17.WkbPrints", spec := "wkbPrints", inPlace := ["internal/reflectlite.ValueOf", "(internal/reflectlite.Value).Type", "(internal/reflectlite.Value).IsNil", "internal/reflectlite.TypeOf", "(internal/reflectlite.Value).Elem", "(internal/reflectlite.Value).Set"], unfollowed := true, recurses := true, named := ["errors.errorType"], loops := true, apart := false, laid := [("errors.errorType", laid_errors_errorType)] }
def WkbPrintsSaid : Prop := wkbPrintsRow.holds Tryd.pinned (OpenSpec.ofChange wkbPrintsSpec)

/-- ITS FALSE NEIGHBOUR: 'it returns false'. Refute it at one input. -/
def wkbPrintsWrong : ChangeSpec := { name := "wkbPrints", fn := fun _ => fun
  | [d1, d2, d3] => { results := [.lit (.bool false)], args := [d1, d2, d3] }
  | _ => none }
def WkbPrintsWrongFalsely : Prop := wkbPrintsRow.holds Tryd.pinned (OpenSpec.ofChange wkbPrintsWrong)

/-- 'plumblaw17.WkbHurt': WHATEVER THE INPUT: true; the input reads as it did. -/
def wkbHurtSpec : ChangeSpec := { name := "wkbHurt", fn := fun _ => fun
  | [d1, d2, d3] => { results := [.lit (.bool true)], args := [d1, d2, d3] }
  | _ => none }
def wkbHurtRow : OpenClaim := { program := "ytiiolhnpnlmkjaadoor", sum := "318821404888003cb357506e4b21fad7ea283a868f7af01503702ed78e778e10", func := "plumb/plumblaw17.WkbHurt", spec := "wkbHurt", inPlace := ["internal/reflectlite.ValueOf", "(internal/reflectlite.Value).Type", "(internal/reflectlite.Value).IsNil", "internal/reflectlite.TypeOf", "(internal/reflectlite.Value).Elem", "(internal/reflectlite.Value).Set"], unfollowed := true, recurses := true, named := ["errors.errorType"], apart := false, laid := [("errors.errorType", laid_errors_errorType)] }
def WkbHurtSaid : Prop := wkbHurtRow.holds Tryd.pinned (OpenSpec.ofChange wkbHurtSpec)

/-- ITS FALSE NEIGHBOUR: 'it returns false'. Refute it at one input. -/
def wkbHurtWrong : ChangeSpec := { name := "wkbHurt", fn := fun _ => fun
  | [d1, d2, d3] => { results := [.lit (.bool false)], args := [d1, d2, d3] }
  | _ => none }
def WkbHurtWrongFalsely : Prop := wkbHurtRow.holds Tryd.pinned (OpenSpec.ofChange wkbHurtWrong)

/-- 'plumblaw17.WkbCuts': WHATEVER THE INPUT: true; the input reads as it did. -/
def wkbCutsSpec : ChangeSpec := { name := "wkbCuts", fn := fun _ => fun
  | [d1, d2, d3] => { results := [.lit (.bool true)], args := [d1, d2, d3] }
  | _ => none }
def wkbCutsRow : OpenClaim := { program := "ytiiolhnpnlmkjaadoor", sum := "318821404888003cb357506e4b21fad7ea283a868f7af01503702ed78e778e10", func := "plumb/plumblaw17.WkbCuts", spec := "wkbCuts", inPlace := ["internal/reflectlite.ValueOf", "(internal/reflectlite.Value).Type", "(internal/reflectlite.Value).IsNil", "internal/reflectlite.TypeOf", "(internal/reflectlite.Value).Elem", "(internal/reflectlite.Value).Set"], unfollowed := true, recurses := true, named := ["errors.errorType"], apart := false, laid := [("errors.errorType", laid_errors_errorType)] }
def WkbCutsSaid : Prop := wkbCutsRow.holds Tryd.pinned (OpenSpec.ofChange wkbCutsSpec)

/-- ITS FALSE NEIGHBOUR: 'it returns false'. Refute it at one input. -/
def wkbCutsWrong : ChangeSpec := { name := "wkbCuts", fn := fun _ => fun
  | [d1, d2, d3] => { results := [.lit (.bool false)], args := [d1, d2, d3] }
  | _ => none }
def WkbCutsWrongFalsely : Prop := wkbCutsRow.holds Tryd.pinned (OpenSpec.ofChange wkbCutsWrong)

/-- 'plumblaw17.WkbCounts': WHATEVER THE INPUT: true; the input reads as it did. -/
def wkbCountsSpec : ChangeSpec := { name := "wkbCounts", fn := fun _ => fun
  | [d1, d2, d3] => { results := [.lit (.bool true)], args := [d1, d2, d3] }
  | _ => none }
def wkbCountsRow : OpenClaim := { program := "ytiiolhnpnlmkjaadoor", sum := "318821404888003cb357506e4b21fad7ea283a868f7af01503702ed78e778e10", func := "plumb/plumblaw17.WkbCounts", spec := "wkbCounts", inPlace := ["internal/reflectlite.ValueOf", "(internal/reflectlite.Value).Type", "(internal/reflectlite.Value).IsNil", "internal/reflectlite.TypeOf", "(internal/reflectlite.Value).Elem", "(internal/reflectlite.Value).Set"], unfollowed := true, recurses := true, named := ["errors.errorType"], apart := false, laid := [("errors.errorType", laid_errors_errorType)] }
def WkbCountsSaid : Prop := wkbCountsRow.holds Tryd.pinned (OpenSpec.ofChange wkbCountsSpec)

/-- ITS FALSE NEIGHBOUR: 'it returns false'. Refute it at one input. -/
def wkbCountsWrong : ChangeSpec := { name := "wkbCounts", fn := fun _ => fun
  | [d1, d2, d3] => { results := [.lit (.bool false)], args := [d1, d2, d3] }
  | _ => none }
def WkbCountsWrongFalsely : Prop := wkbCountsRow.holds Tryd.pinned (OpenSpec.ofChange wkbCountsWrong)

/-- 'plumblaw17.WkbCoords': WHATEVER THE INPUT: true; the input reads as it did. -/
def wkbCoordsSpec : ChangeSpec := { name := "wkbCoords", fn := fun _ => fun
  | [d1, d2, d3] => { results := [.lit (.bool true)], args := [d1, d2, d3] }
  | _ => none }
def wkbCoordsRow : OpenClaim := { program := "ytiiolhnpnlmkjaadoor", sum := "318821404888003cb357506e4b21fad7ea283a868f7af01503702ed78e778e10", func := "plumb/plumblaw17.WkbCoords", spec := "wkbCoords", inPlace := ["internal/reflectlite.ValueOf", "(internal/reflectlite.Value).Type", "(internal/reflectlite.Value).IsNil", "internal/reflectlite.TypeOf", "(internal/reflectlite.Value).Elem", "(internal/reflectlite.Value).Set"], unfollowed := true, recurses := true, named := ["errors.errorType"], apart := false, laid := [("errors.errorType", laid_errors_errorType)] }
def WkbCoordsSaid : Prop := wkbCoordsRow.holds Tryd.pinned (OpenSpec.ofChange wkbCoordsSpec)

/-- ITS FALSE NEIGHBOUR: 'it returns false'. Refute it at one input. -/
def wkbCoordsWrong : ChangeSpec := { name := "wkbCoords", fn := fun _ => fun
  | [d1, d2, d3] => { results := [.lit (.bool false)], args := [d1, d2, d3] }
  | _ => none }
def WkbCoordsWrongFalsely : Prop := wkbCoordsRow.holds Tryd.pinned (OpenSpec.ofChange wkbCoordsWrong)

/-- 'plumblaw17.WkbFresh': WHATEVER THE INPUT: true; the input reads as it did. -/
def wkbFreshSpec : ChangeSpec := { name := "wkbFresh", fn := fun _ => fun
  | [d1, d2] => { results := [.lit (.bool true)], args := [d1, d2] }
  | _ => none }
def wkbFreshRow : OpenClaim := { program := "ytiiolhnpnlmkjaadoor", sum := "318821404888003cb357506e4b21fad7ea283a868f7af01503702ed78e778e10", func := "plumb/plumblaw17.WkbFresh", spec := "wkbFresh", inPlace := ["internal/reflectlite.ValueOf", "(internal/reflectlite.Value).Type", "(internal/reflectlite.Value).IsNil", "internal/reflectlite.TypeOf", "(internal/reflectlite.Value).Elem", "(internal/reflectlite.Value).Set"], unfollowed := true, recurses := true, named := ["errors.errorType"], apart := false, laid := [("errors.errorType", laid_errors_errorType)] }
def WkbFreshSaid : Prop := wkbFreshRow.holds Tryd.pinned (OpenSpec.ofChange wkbFreshSpec)

/-- ITS FALSE NEIGHBOUR: 'it returns false'. Refute it at one input. -/
def wkbFreshWrong : ChangeSpec := { name := "wkbFresh", fn := fun _ => fun
  | [d1, d2] => { results := [.lit (.bool false)], args := [d1, d2] }
  | _ => none }
def WkbFreshWrongFalsely : Prop := wkbFreshRow.holds Tryd.pinned (OpenSpec.ofChange wkbFreshWrong)

/-- 'plumblaw17.WkbLimits': WHATEVER THE INPUT: true; the input reads as it did. -/
def wkbLimitsSpec : ChangeSpec := { name := "wkbLimits", fn := fun _ => fun
  | [d1, d2] => { results := [.lit (.bool true)], args := [d1, d2] }
  | _ => none }
def wkbLimitsRow : OpenClaim := { program := "ytiiolhnpnlmkjaadoor", sum := "318821404888003cb357506e4b21fad7ea283a868f7af01503702ed78e778e10", func := "plumb/plumblaw17.WkbLimits", spec := "wkbLimits", inPlace := ["internal/reflectlite.ValueOf", "(internal/reflectlite.Value).Type", "(internal/reflectlite.Value).IsNil", "internal/reflectlite.TypeOf", "(internal/reflectlite.Value).Elem", "(internal/reflectlite.Value).Set"], unfollowed := true, recurses := true, named := ["errors.errorType"], apart := false, laid := [("errors.errorType", laid_errors_errorType)] }
def WkbLimitsSaid : Prop := wkbLimitsRow.holds Tryd.pinned (OpenSpec.ofChange wkbLimitsSpec)

/-- ITS FALSE NEIGHBOUR: 'it returns false'. Refute it at one input. -/
def wkbLimitsWrong : ChangeSpec := { name := "wkbLimits", fn := fun _ => fun
  | [d1, d2] => { results := [.lit (.bool false)], args := [d1, d2] }
  | _ => none }
def WkbLimitsWrongFalsely : Prop := wkbLimitsRow.holds Tryd.pinned (OpenSpec.ofChange wkbLimitsWrong)

/- THE SECOND FORM. 'bulk': how many values and letters a reading holds, each counted each time it is reached (what is shared counts as often as it is met; a slice's spare places count too). A statement '..UptoSaid' is the law's where the arguments, and the package variables that the reading takes, are together of bulk at most 1048576: NARROWER than '..Said'. Prove '..Said' where nothing that the law and all that it calls make is longer than what came in: it says more and counts as full. Else prove '..UptoSaid'. A law counts once. -/
mutual
def uptoBulk {H : Type} : DataW H → Nat
  | .lit (.string bytes) => bytes.length + 1
  | .lit _ => 1
  | .nil => 1
  | .ptr d => uptoBulk d + 1
  | .slice elems spare => uptoBulkAll elems + uptoBulkAll spare + 1
  | .agg parts => uptoBulkAll parts + 1
  | .iface _ d => uptoBulk d + 1
  | .map entries => uptoBulkEntries entries + 1
  | .held _ => 1
def uptoBulkAll {H : Type} : List (DataW H) → Nat
  | [] => 0
  | d :: r => uptoBulk d + uptoBulkAll r
def uptoBulkEntries {H : Type} : List (Lit × DataW H) → Nat
  | [] => 0
  | x :: r => uptoBulkEntry x + uptoBulkEntries r
def uptoBulkEntry {H : Type} : Lit × DataW H → Nat
  | (.string bytes, d) => bytes.length + uptoBulk d + 1
  | (_, d) => uptoBulk d + 1
 end
def uptoSmall : (H : Type) → List (DataW H) → Bool := fun _ ds => decide (uptoBulkAll ds ≤ 1048576)
def OpenSpec.upto (s : _root_.Go.ChangeSpec) : _root_.Go.OpenSpec := { _root_.Go.OpenSpec.ofChange s with cond := some uptoSmall }

/-- 'plumblaw17.WkbParses', WHERE WHAT IT READS IS OF BULK AT MOST 1048576: true; the input reads as it did. -/
def wkbParsesUptoRow : OpenClaim := { program := "ytiiolhnpnlmkjaadoor", sum := "318821404888003cb357506e4b21fad7ea283a868f7af01503702ed78e778e10", func := "plumb/plumblaw17.WkbParses", spec := "wkbParses", inPlace := ["internal/reflectlite.ValueOf", "(internal/reflectlite.Value).Type", "(internal/reflectlite.Value).IsNil", "internal/reflectlite.TypeOf", "(internal/reflectlite.Value).Elem", "(internal/reflectlite.Value).Set"], unfollowed := true, recurses := true, named := ["errors.errorType"], apart := false, laid := [("errors.errorType", laid_errors_errorType)], narrowed := true }
def WkbParsesUptoSaid : Prop := wkbParsesUptoRow.holds Tryd.pinned (OpenSpec.upto wkbParsesSpec)

/-- 'plumblaw17.WkbPrints', WHERE WHAT IT READS IS OF BULK AT MOST 1048576: true; the input reads as it did. -/
def wkbPrintsUptoRow : OpenClaim := { program := "ytiiolhnpnlmkjaadoor", sum := "318821404888003cb357506e4b21fad7ea283a868f7af01503702ed78e778e10", func := "plumb/plumblaw17.WkbPrints", spec := "wkbPrints", inPlace := ["internal/reflectlite.ValueOf", "(internal/reflectlite.Value).Type", "(internal/reflectlite.Value).IsNil", "internal/reflectlite.TypeOf", "(internal/reflectlite.Value).Elem", "(internal/reflectlite.Value).Set"], unfollowed := true, recurses := true, named := ["errors.errorType"], loops := true, apart := false, laid := [("errors.errorType", laid_errors_errorType)], narrowed := true }
def WkbPrintsUptoSaid : Prop := wkbPrintsUptoRow.holds Tryd.pinned (OpenSpec.upto wkbPrintsSpec)

/-- 'plumblaw17.WkbHurt', WHERE WHAT IT READS IS OF BULK AT MOST 1048576: true; the input reads as it did. -/
def wkbHurtUptoRow : OpenClaim := { program := "ytiiolhnpnlmkjaadoor", sum := "318821404888003cb357506e4b21fad7ea283a868f7af01503702ed78e778e10", func := "plumb/plumblaw17.WkbHurt", spec := "wkbHurt", inPlace := ["internal/reflectlite.ValueOf", "(internal/reflectlite.Value).Type", "(internal/reflectlite.Value).IsNil", "internal/reflectlite.TypeOf", "(internal/reflectlite.Value).Elem", "(internal/reflectlite.Value).Set"], unfollowed := true, recurses := true, named := ["errors.errorType"], apart := false, laid := [("errors.errorType", laid_errors_errorType)], narrowed := true }
def WkbHurtUptoSaid : Prop := wkbHurtUptoRow.holds Tryd.pinned (OpenSpec.upto wkbHurtSpec)

/-- 'plumblaw17.WkbCuts', WHERE WHAT IT READS IS OF BULK AT MOST 1048576: true; the input reads as it did. -/
def wkbCutsUptoRow : OpenClaim := { program := "ytiiolhnpnlmkjaadoor", sum := "318821404888003cb357506e4b21fad7ea283a868f7af01503702ed78e778e10", func := "plumb/plumblaw17.WkbCuts", spec := "wkbCuts", inPlace := ["internal/reflectlite.ValueOf", "(internal/reflectlite.Value).Type", "(internal/reflectlite.Value).IsNil", "internal/reflectlite.TypeOf", "(internal/reflectlite.Value).Elem", "(internal/reflectlite.Value).Set"], unfollowed := true, recurses := true, named := ["errors.errorType"], apart := false, laid := [("errors.errorType", laid_errors_errorType)], narrowed := true }
def WkbCutsUptoSaid : Prop := wkbCutsUptoRow.holds Tryd.pinned (OpenSpec.upto wkbCutsSpec)

/-- 'plumblaw17.WkbCounts', WHERE WHAT IT READS IS OF BULK AT MOST 1048576: true; the input reads as it did. -/
def wkbCountsUptoRow : OpenClaim := { program := "ytiiolhnpnlmkjaadoor", sum := "318821404888003cb357506e4b21fad7ea283a868f7af01503702ed78e778e10", func := "plumb/plumblaw17.WkbCounts", spec := "wkbCounts", inPlace := ["internal/reflectlite.ValueOf", "(internal/reflectlite.Value).Type", "(internal/reflectlite.Value).IsNil", "internal/reflectlite.TypeOf", "(internal/reflectlite.Value).Elem", "(internal/reflectlite.Value).Set"], unfollowed := true, recurses := true, named := ["errors.errorType"], apart := false, laid := [("errors.errorType", laid_errors_errorType)], narrowed := true }
def WkbCountsUptoSaid : Prop := wkbCountsUptoRow.holds Tryd.pinned (OpenSpec.upto wkbCountsSpec)

/-- 'plumblaw17.WkbCoords', WHERE WHAT IT READS IS OF BULK AT MOST 1048576: true; the input reads as it did. -/
def wkbCoordsUptoRow : OpenClaim := { program := "ytiiolhnpnlmkjaadoor", sum := "318821404888003cb357506e4b21fad7ea283a868f7af01503702ed78e778e10", func := "plumb/plumblaw17.WkbCoords", spec := "wkbCoords", inPlace := ["internal/reflectlite.ValueOf", "(internal/reflectlite.Value).Type", "(internal/reflectlite.Value).IsNil", "internal/reflectlite.TypeOf", "(internal/reflectlite.Value).Elem", "(internal/reflectlite.Value).Set"], unfollowed := true, recurses := true, named := ["errors.errorType"], apart := false, laid := [("errors.errorType", laid_errors_errorType)], narrowed := true }
def WkbCoordsUptoSaid : Prop := wkbCoordsUptoRow.holds Tryd.pinned (OpenSpec.upto wkbCoordsSpec)

/-- 'plumblaw17.WkbFresh', WHERE WHAT IT READS IS OF BULK AT MOST 1048576: true; the input reads as it did. -/
def wkbFreshUptoRow : OpenClaim := { program := "ytiiolhnpnlmkjaadoor", sum := "318821404888003cb357506e4b21fad7ea283a868f7af01503702ed78e778e10", func := "plumb/plumblaw17.WkbFresh", spec := "wkbFresh", inPlace := ["internal/reflectlite.ValueOf", "(internal/reflectlite.Value).Type", "(internal/reflectlite.Value).IsNil", "internal/reflectlite.TypeOf", "(internal/reflectlite.Value).Elem", "(internal/reflectlite.Value).Set"], unfollowed := true, recurses := true, named := ["errors.errorType"], apart := false, laid := [("errors.errorType", laid_errors_errorType)], narrowed := true }
def WkbFreshUptoSaid : Prop := wkbFreshUptoRow.holds Tryd.pinned (OpenSpec.upto wkbFreshSpec)

/-- 'plumblaw17.WkbLimits', WHERE WHAT IT READS IS OF BULK AT MOST 1048576: true; the input reads as it did. -/
def wkbLimitsUptoRow : OpenClaim := { program := "ytiiolhnpnlmkjaadoor", sum := "318821404888003cb357506e4b21fad7ea283a868f7af01503702ed78e778e10", func := "plumb/plumblaw17.WkbLimits", spec := "wkbLimits", inPlace := ["internal/reflectlite.ValueOf", "(internal/reflectlite.Value).Type", "(internal/reflectlite.Value).IsNil", "internal/reflectlite.TypeOf", "(internal/reflectlite.Value).Elem", "(internal/reflectlite.Value).Set"], unfollowed := true, recurses := true, named := ["errors.errorType"], apart := false, laid := [("errors.errorType", laid_errors_errorType)], narrowed := true }
def WkbLimitsUptoSaid : Prop := wkbLimitsUptoRow.holds Tryd.pinned (OpenSpec.upto wkbLimitsSpec)

end Rows
end Go.Proofs.YtiiolhnpnlmkjaaDoor
