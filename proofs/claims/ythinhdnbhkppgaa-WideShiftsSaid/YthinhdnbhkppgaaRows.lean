/-
  No cell of these rows narrows 'for every input' (looked for: loops, veiled, ifaces, maps, wideKeys, modest, calm, conditions, laid).
  DERIVED. THE GIVEN ROWS OF THIS SEAT. 11 by the template 'for every input the law returns true; each argument reads behind the call as it read before'; 0 by the template 'total and deterministic' (their statements: YthinhdnbhkppgaaTotals.lean).
  GIVEN WITH THE SEED: the statements are not yours to turn. If you find one false, say at which input.
  Laid BY PROGRAM, IN A SANDBOX (cutbox-rows.mjs): the forced cells as the released guide's own fill.sh prints them over the translation 3fcf5f5889194097… (all of the seat's roots in one cut). By AI agents, Wed Nov 11 2026. No macro, syntax, notation, axiom, sorry.
-/
import Derived.Test.YthinhdnbhkppgaaChecked
import GoSem.Claim
import GoSem.ClaimJoined
import GoSem.ClaimMapViews
import Derived.JoinedTies
import Derived.KernelRfl
namespace Go.Proofs.Ythinhdnbhkppgaa
/- THE CELL 'sum', in the pinned program and in every row, IS THE sha256 OF THE DUMP (.gsa) THAT YthinhdnbhkppgaaProg.lean LOADS. Nothing in Lean hashes anything: it is a label: what it is worth is what the hold of that sum in a sandbox is worth. -/
noncomputable def Try.pinned : Pinned := { name := "ythinhdnbhkppgaa", sum := "3fcf5f58891940974ded4dcb9f7ffbd3eedb1d9551d2b6e218ae533b4d00092a", checked := Try.checked }
namespace Rows
def none {H : Type} : Left H := { results := [], args := [] }

/-- 'plumblaw01.WideSums': WHATEVER THE INPUT: true; the input reads as it did. -/
def wideSumsSpec : ChangeSpec := { name := "wideSums", fn := fun _ => fun
  | [d1, d2, d3] => { results := [.lit (.bool true)], args := [d1, d2, d3] }
  | _ => none }
def wideSumsRow : OpenClaim := { program := "ythinhdnbhkppgaa", sum := "3fcf5f58891940974ded4dcb9f7ffbd3eedb1d9551d2b6e218ae533b4d00092a", func := "plumb/plumblaw01.WideSums", spec := "wideSums", apart := false }
def WideSumsSaid : Prop := wideSumsRow.holds Try.pinned (OpenSpec.ofChange wideSumsSpec)

/-- ITS FALSE NEIGHBOUR: 'it returns false'. Refute it at one input. -/
def wideSumsWrong : ChangeSpec := { name := "wideSums", fn := fun _ => fun
  | [d1, d2, d3] => { results := [.lit (.bool false)], args := [d1, d2, d3] }
  | _ => none }
def WideSumsWrongFalsely : Prop := wideSumsRow.holds Try.pinned (OpenSpec.ofChange wideSumsWrong)

/-- 'plumblaw01.WideHalves': WHATEVER THE INPUT: true; the input reads as it did. -/
def wideHalvesSpec : ChangeSpec := { name := "wideHalves", fn := fun _ => fun
  | [d1, d2] => { results := [.lit (.bool true)], args := [d1, d2] }
  | _ => none }
def wideHalvesRow : OpenClaim := { program := "ythinhdnbhkppgaa", sum := "3fcf5f58891940974ded4dcb9f7ffbd3eedb1d9551d2b6e218ae533b4d00092a", func := "plumb/plumblaw01.WideHalves", spec := "wideHalves", apart := false }
def WideHalvesSaid : Prop := wideHalvesRow.holds Try.pinned (OpenSpec.ofChange wideHalvesSpec)

/-- ITS FALSE NEIGHBOUR: 'it returns false'. Refute it at one input. -/
def wideHalvesWrong : ChangeSpec := { name := "wideHalves", fn := fun _ => fun
  | [d1, d2] => { results := [.lit (.bool false)], args := [d1, d2] }
  | _ => none }
def WideHalvesWrongFalsely : Prop := wideHalvesRow.holds Try.pinned (OpenSpec.ofChange wideHalvesWrong)

/-- 'plumblaw01.WideBack': WHATEVER THE INPUT: true; the input reads as it did. -/
def wideBackSpec : ChangeSpec := { name := "wideBack", fn := fun _ => fun
  | [d1, d2, d3] => { results := [.lit (.bool true)], args := [d1, d2, d3] }
  | _ => none }
def wideBackRow : OpenClaim := { program := "ythinhdnbhkppgaa", sum := "3fcf5f58891940974ded4dcb9f7ffbd3eedb1d9551d2b6e218ae533b4d00092a", func := "plumb/plumblaw01.WideBack", spec := "wideBack", apart := false }
def WideBackSaid : Prop := wideBackRow.holds Try.pinned (OpenSpec.ofChange wideBackSpec)

/-- ITS FALSE NEIGHBOUR: 'it returns false'. Refute it at one input. -/
def wideBackWrong : ChangeSpec := { name := "wideBack", fn := fun _ => fun
  | [d1, d2, d3] => { results := [.lit (.bool false)], args := [d1, d2, d3] }
  | _ => none }
def WideBackWrongFalsely : Prop := wideBackRow.holds Try.pinned (OpenSpec.ofChange wideBackWrong)

/-- 'plumblaw01.WideOrder': WHATEVER THE INPUT: true; the input reads as it did. -/
def wideOrderSpec : ChangeSpec := { name := "wideOrder", fn := fun _ => fun
  | [d1, d2, d3] => { results := [.lit (.bool true)], args := [d1, d2, d3] }
  | _ => none }
def wideOrderRow : OpenClaim := { program := "ythinhdnbhkppgaa", sum := "3fcf5f58891940974ded4dcb9f7ffbd3eedb1d9551d2b6e218ae533b4d00092a", func := "plumb/plumblaw01.WideOrder", spec := "wideOrder", apart := false }
def WideOrderSaid : Prop := wideOrderRow.holds Try.pinned (OpenSpec.ofChange wideOrderSpec)

/-- ITS FALSE NEIGHBOUR: 'it returns false'. Refute it at one input. -/
def wideOrderWrong : ChangeSpec := { name := "wideOrder", fn := fun _ => fun
  | [d1, d2, d3] => { results := [.lit (.bool false)], args := [d1, d2, d3] }
  | _ => none }
def WideOrderWrongFalsely : Prop := wideOrderRow.holds Try.pinned (OpenSpec.ofChange wideOrderWrong)

/-- 'plumblaw01.WideLens': WHATEVER THE INPUT: true; the input reads as it did. -/
def wideLensSpec : ChangeSpec := { name := "wideLens", fn := fun _ => fun
  | [d] => { results := [.lit (.bool true)], args := [d] }
  | _ => none }
def wideLensRow : OpenClaim := { program := "ythinhdnbhkppgaa", sum := "3fcf5f58891940974ded4dcb9f7ffbd3eedb1d9551d2b6e218ae533b4d00092a", func := "plumb/plumblaw01.WideLens", spec := "wideLens", apart := false }
def WideLensSaid : Prop := wideLensRow.holds Try.pinned (OpenSpec.ofChange wideLensSpec)

/-- ITS FALSE NEIGHBOUR: 'it returns false'. Refute it at one input. -/
def wideLensWrong : ChangeSpec := { name := "wideLens", fn := fun _ => fun
  | [d] => { results := [.lit (.bool false)], args := [d] }
  | _ => none }
def WideLensWrongFalsely : Prop := wideLensRow.holds Try.pinned (OpenSpec.ofChange wideLensWrong)

/-- 'plumblaw01.WideMuls': WHATEVER THE INPUT: true; the input reads as it did. -/
def wideMulsSpec : ChangeSpec := { name := "wideMuls", fn := fun _ => fun
  | [d1, d2, d3] => { results := [.lit (.bool true)], args := [d1, d2, d3] }
  | _ => none }
def wideMulsRow : OpenClaim := { program := "ythinhdnbhkppgaa", sum := "3fcf5f58891940974ded4dcb9f7ffbd3eedb1d9551d2b6e218ae533b4d00092a", func := "plumb/plumblaw01.WideMuls", spec := "wideMuls", apart := false }
def WideMulsSaid : Prop := wideMulsRow.holds Try.pinned (OpenSpec.ofChange wideMulsSpec)

/-- ITS FALSE NEIGHBOUR: 'it returns false'. Refute it at one input. -/
def wideMulsWrong : ChangeSpec := { name := "wideMuls", fn := fun _ => fun
  | [d1, d2, d3] => { results := [.lit (.bool false)], args := [d1, d2, d3] }
  | _ => none }
def WideMulsWrongFalsely : Prop := wideMulsRow.holds Try.pinned (OpenSpec.ofChange wideMulsWrong)

/-- 'plumblaw01.WideRing': WHATEVER THE INPUT: true; the input reads as it did. -/
def wideRingSpec : ChangeSpec := { name := "wideRing", fn := fun _ => fun
  | [d1, d2, d3] => { results := [.lit (.bool true)], args := [d1, d2, d3] }
  | _ => none }
def wideRingRow : OpenClaim := { program := "ythinhdnbhkppgaa", sum := "3fcf5f58891940974ded4dcb9f7ffbd3eedb1d9551d2b6e218ae533b4d00092a", func := "plumb/plumblaw01.WideRing", spec := "wideRing", apart := false }
def WideRingSaid : Prop := wideRingRow.holds Try.pinned (OpenSpec.ofChange wideRingSpec)

/-- ITS FALSE NEIGHBOUR: 'it returns false'. Refute it at one input. -/
def wideRingWrong : ChangeSpec := { name := "wideRing", fn := fun _ => fun
  | [d1, d2, d3] => { results := [.lit (.bool false)], args := [d1, d2, d3] }
  | _ => none }
def WideRingWrongFalsely : Prop := wideRingRow.holds Try.pinned (OpenSpec.ofChange wideRingWrong)

/-- 'plumblaw01.WideDivs': WHATEVER THE INPUT: true; the input reads as it did. -/
def wideDivsSpec : ChangeSpec := { name := "wideDivs", fn := fun _ => fun
  | [d1, d2, d3] => { results := [.lit (.bool true)], args := [d1, d2, d3] }
  | _ => none }
def wideDivsRow : OpenClaim := { program := "ythinhdnbhkppgaa", sum := "3fcf5f58891940974ded4dcb9f7ffbd3eedb1d9551d2b6e218ae533b4d00092a", func := "plumb/plumblaw01.WideDivs", spec := "wideDivs", apart := false }
def WideDivsSaid : Prop := wideDivsRow.holds Try.pinned (OpenSpec.ofChange wideDivsSpec)

/-- ITS FALSE NEIGHBOUR: 'it returns false'. Refute it at one input. -/
def wideDivsWrong : ChangeSpec := { name := "wideDivs", fn := fun _ => fun
  | [d1, d2, d3] => { results := [.lit (.bool false)], args := [d1, d2, d3] }
  | _ => none }
def WideDivsWrongFalsely : Prop := wideDivsRow.holds Try.pinned (OpenSpec.ofChange wideDivsWrong)

/-- 'plumblaw01.WideShifts': WHATEVER THE INPUT: true; the input reads as it did. -/
def wideShiftsSpec : ChangeSpec := { name := "wideShifts", fn := fun _ => fun
  | [d1, d2, d3] => { results := [.lit (.bool true)], args := [d1, d2, d3] }
  | _ => none }
def wideShiftsRow : OpenClaim := { program := "ythinhdnbhkppgaa", sum := "3fcf5f58891940974ded4dcb9f7ffbd3eedb1d9551d2b6e218ae533b4d00092a", func := "plumb/plumblaw01.WideShifts", spec := "wideShifts", apart := false }
def WideShiftsSaid : Prop := wideShiftsRow.holds Try.pinned (OpenSpec.ofChange wideShiftsSpec)

/-- ITS FALSE NEIGHBOUR: 'it returns false'. Refute it at one input. -/
def wideShiftsWrong : ChangeSpec := { name := "wideShifts", fn := fun _ => fun
  | [d1, d2, d3] => { results := [.lit (.bool false)], args := [d1, d2, d3] }
  | _ => none }
def WideShiftsWrongFalsely : Prop := wideShiftsRow.holds Try.pinned (OpenSpec.ofChange wideShiftsWrong)

/-- 'plumblaw01.WideBits': WHATEVER THE INPUT: true; the input reads as it did. -/
def wideBitsSpec : ChangeSpec := { name := "wideBits", fn := fun _ => fun
  | [d] => { results := [.lit (.bool true)], args := [d] }
  | _ => none }
def wideBitsRow : OpenClaim := { program := "ythinhdnbhkppgaa", sum := "3fcf5f58891940974ded4dcb9f7ffbd3eedb1d9551d2b6e218ae533b4d00092a", func := "plumb/plumblaw01.WideBits", spec := "wideBits", apart := false }
def WideBitsSaid : Prop := wideBitsRow.holds Try.pinned (OpenSpec.ofChange wideBitsSpec)

/-- ITS FALSE NEIGHBOUR: 'it returns false'. Refute it at one input. -/
def wideBitsWrong : ChangeSpec := { name := "wideBits", fn := fun _ => fun
  | [d] => { results := [.lit (.bool false)], args := [d] }
  | _ => none }
def WideBitsWrongFalsely : Prop := wideBitsRow.holds Try.pinned (OpenSpec.ofChange wideBitsWrong)

/-- 'plumblaw01.WideDivides': WHATEVER THE INPUT: true; the input reads as it did. -/
def wideDividesSpec : ChangeSpec := { name := "wideDivides", fn := fun _ => fun
  | [d1, d2, d3] => { results := [.lit (.bool true)], args := [d1, d2, d3] }
  | _ => none }
def wideDividesRow : OpenClaim := { program := "ythinhdnbhkppgaa", sum := "3fcf5f58891940974ded4dcb9f7ffbd3eedb1d9551d2b6e218ae533b4d00092a", func := "plumb/plumblaw01.WideDivides", spec := "wideDivides", apart := false }
def WideDividesSaid : Prop := wideDividesRow.holds Try.pinned (OpenSpec.ofChange wideDividesSpec)

/-- ITS FALSE NEIGHBOUR: 'it returns false'. Refute it at one input. -/
def wideDividesWrong : ChangeSpec := { name := "wideDivides", fn := fun _ => fun
  | [d1, d2, d3] => { results := [.lit (.bool false)], args := [d1, d2, d3] }
  | _ => none }
def WideDividesWrongFalsely : Prop := wideDividesRow.holds Try.pinned (OpenSpec.ofChange wideDividesWrong)

/- THE SECOND FORM. 'bulk': how many values and letters a reading holds, each counted each time it is reached (what is shared counts as often as it is met; a slice's spare places count too). A statement '..UptoSaid' is the law's where the arguments, and the package variables that the reading takes, are together of bulk at most 1048576: NARROWER than '..Said'. Prove '..Said' where nothing that the law and all that it calls make is longer than what came in: it says more and counts as full. Else prove '..UptoSaid'. A law counts once. -/
mutual
def uptoBulk {H : Type} : DataW H → Nat
  | .lit (.string bytes) => bytes.length + 1
  | .lit _ => 1
  | .nil => 1
  | .ptr d => uptoBulk d + 1
  | .slice elems spare => uptoBulkAll elems + uptoBulkAll spare + 1
  | .agg parts => uptoBulkAll parts + 1
  | .iface _ d => uptoBulk d + 1
  | .map entries => uptoBulkEntries entries + 1
  | .held _ => 1
def uptoBulkAll {H : Type} : List (DataW H) → Nat
  | [] => 0
  | d :: r => uptoBulk d + uptoBulkAll r
def uptoBulkEntries {H : Type} : List (Lit × DataW H) → Nat
  | [] => 0
  | x :: r => uptoBulkEntry x + uptoBulkEntries r
def uptoBulkEntry {H : Type} : Lit × DataW H → Nat
  | (.string bytes, d) => bytes.length + uptoBulk d + 1
  | (_, d) => uptoBulk d + 1
 end
def uptoSmall : (H : Type) → List (DataW H) → Bool := fun _ ds => decide (uptoBulkAll ds ≤ 1048576)
def OpenSpec.upto (s : _root_.Go.ChangeSpec) : _root_.Go.OpenSpec := { _root_.Go.OpenSpec.ofChange s with cond := some uptoSmall }

/-- 'plumblaw01.WideSums', WHERE WHAT IT READS IS OF BULK AT MOST 1048576: true; the input reads as it did. -/
def wideSumsUptoRow : OpenClaim := { program := "ythinhdnbhkppgaa", sum := "3fcf5f58891940974ded4dcb9f7ffbd3eedb1d9551d2b6e218ae533b4d00092a", func := "plumb/plumblaw01.WideSums", spec := "wideSums", apart := false, narrowed := true }
def WideSumsUptoSaid : Prop := wideSumsUptoRow.holds Try.pinned (OpenSpec.upto wideSumsSpec)

/-- 'plumblaw01.WideHalves', WHERE WHAT IT READS IS OF BULK AT MOST 1048576: true; the input reads as it did. -/
def wideHalvesUptoRow : OpenClaim := { program := "ythinhdnbhkppgaa", sum := "3fcf5f58891940974ded4dcb9f7ffbd3eedb1d9551d2b6e218ae533b4d00092a", func := "plumb/plumblaw01.WideHalves", spec := "wideHalves", apart := false, narrowed := true }
def WideHalvesUptoSaid : Prop := wideHalvesUptoRow.holds Try.pinned (OpenSpec.upto wideHalvesSpec)

/-- 'plumblaw01.WideBack', WHERE WHAT IT READS IS OF BULK AT MOST 1048576: true; the input reads as it did. -/
def wideBackUptoRow : OpenClaim := { program := "ythinhdnbhkppgaa", sum := "3fcf5f58891940974ded4dcb9f7ffbd3eedb1d9551d2b6e218ae533b4d00092a", func := "plumb/plumblaw01.WideBack", spec := "wideBack", apart := false, narrowed := true }
def WideBackUptoSaid : Prop := wideBackUptoRow.holds Try.pinned (OpenSpec.upto wideBackSpec)

/-- 'plumblaw01.WideOrder', WHERE WHAT IT READS IS OF BULK AT MOST 1048576: true; the input reads as it did. -/
def wideOrderUptoRow : OpenClaim := { program := "ythinhdnbhkppgaa", sum := "3fcf5f58891940974ded4dcb9f7ffbd3eedb1d9551d2b6e218ae533b4d00092a", func := "plumb/plumblaw01.WideOrder", spec := "wideOrder", apart := false, narrowed := true }
def WideOrderUptoSaid : Prop := wideOrderUptoRow.holds Try.pinned (OpenSpec.upto wideOrderSpec)

/-- 'plumblaw01.WideLens', WHERE WHAT IT READS IS OF BULK AT MOST 1048576: true; the input reads as it did. -/
def wideLensUptoRow : OpenClaim := { program := "ythinhdnbhkppgaa", sum := "3fcf5f58891940974ded4dcb9f7ffbd3eedb1d9551d2b6e218ae533b4d00092a", func := "plumb/plumblaw01.WideLens", spec := "wideLens", apart := false, narrowed := true }
def WideLensUptoSaid : Prop := wideLensUptoRow.holds Try.pinned (OpenSpec.upto wideLensSpec)

/-- 'plumblaw01.WideMuls', WHERE WHAT IT READS IS OF BULK AT MOST 1048576: true; the input reads as it did. -/
def wideMulsUptoRow : OpenClaim := { program := "ythinhdnbhkppgaa", sum := "3fcf5f58891940974ded4dcb9f7ffbd3eedb1d9551d2b6e218ae533b4d00092a", func := "plumb/plumblaw01.WideMuls", spec := "wideMuls", apart := false, narrowed := true }
def WideMulsUptoSaid : Prop := wideMulsUptoRow.holds Try.pinned (OpenSpec.upto wideMulsSpec)

/-- 'plumblaw01.WideRing', WHERE WHAT IT READS IS OF BULK AT MOST 1048576: true; the input reads as it did. -/
def wideRingUptoRow : OpenClaim := { program := "ythinhdnbhkppgaa", sum := "3fcf5f58891940974ded4dcb9f7ffbd3eedb1d9551d2b6e218ae533b4d00092a", func := "plumb/plumblaw01.WideRing", spec := "wideRing", apart := false, narrowed := true }
def WideRingUptoSaid : Prop := wideRingUptoRow.holds Try.pinned (OpenSpec.upto wideRingSpec)

/-- 'plumblaw01.WideDivs', WHERE WHAT IT READS IS OF BULK AT MOST 1048576: true; the input reads as it did. -/
def wideDivsUptoRow : OpenClaim := { program := "ythinhdnbhkppgaa", sum := "3fcf5f58891940974ded4dcb9f7ffbd3eedb1d9551d2b6e218ae533b4d00092a", func := "plumb/plumblaw01.WideDivs", spec := "wideDivs", apart := false, narrowed := true }
def WideDivsUptoSaid : Prop := wideDivsUptoRow.holds Try.pinned (OpenSpec.upto wideDivsSpec)

/-- 'plumblaw01.WideShifts', WHERE WHAT IT READS IS OF BULK AT MOST 1048576: true; the input reads as it did. -/
def wideShiftsUptoRow : OpenClaim := { program := "ythinhdnbhkppgaa", sum := "3fcf5f58891940974ded4dcb9f7ffbd3eedb1d9551d2b6e218ae533b4d00092a", func := "plumb/plumblaw01.WideShifts", spec := "wideShifts", apart := false, narrowed := true }
def WideShiftsUptoSaid : Prop := wideShiftsUptoRow.holds Try.pinned (OpenSpec.upto wideShiftsSpec)

/-- 'plumblaw01.WideBits', WHERE WHAT IT READS IS OF BULK AT MOST 1048576: true; the input reads as it did. -/
def wideBitsUptoRow : OpenClaim := { program := "ythinhdnbhkppgaa", sum := "3fcf5f58891940974ded4dcb9f7ffbd3eedb1d9551d2b6e218ae533b4d00092a", func := "plumb/plumblaw01.WideBits", spec := "wideBits", apart := false, narrowed := true }
def WideBitsUptoSaid : Prop := wideBitsUptoRow.holds Try.pinned (OpenSpec.upto wideBitsSpec)

/-- 'plumblaw01.WideDivides', WHERE WHAT IT READS IS OF BULK AT MOST 1048576: true; the input reads as it did. -/
def wideDividesUptoRow : OpenClaim := { program := "ythinhdnbhkppgaa", sum := "3fcf5f58891940974ded4dcb9f7ffbd3eedb1d9551d2b6e218ae533b4d00092a", func := "plumb/plumblaw01.WideDivides", spec := "wideDivides", apart := false, narrowed := true }
def WideDividesUptoSaid : Prop := wideDividesUptoRow.holds Try.pinned (OpenSpec.upto wideDividesSpec)

end Rows
end Go.Proofs.Ythinhdnbhkppgaa
