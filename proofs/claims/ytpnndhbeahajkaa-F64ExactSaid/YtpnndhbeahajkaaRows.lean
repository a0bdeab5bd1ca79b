/-
  No cell of these rows narrows 'for every input' (looked for: loops, veiled, ifaces, maps, wideKeys, modest, calm, conditions, laid).
  DERIVED. THE GIVEN ROWS OF THIS SEAT. 8 by the template 'for every input the law returns true; each argument reads behind the call as it read before'; 0 by the template 'total and deterministic' (their statements: YtpnndhbeahajkaaTotals.lean).
  GIVEN WITH THE SEED: the statements are not yours to turn. If you find one false, say at which input.
  Laid BY PROGRAM, IN A SANDBOX (cutbox-rows.mjs): the forced cells as the released guide's own fill.sh prints them over the translation f6bc30d9d02a3de2… (all of the seat's roots in one cut). By AI agents, Wed Nov 11 2026. No macro, syntax, notation, axiom, sorry.
-/
import Derived.Test.YtpnndhbeahajkaaChecked
import GoSem.Claim
import GoSem.ClaimJoined
import GoSem.ClaimMapViews
import Derived.JoinedTies
import Derived.KernelRfl
namespace Go.Proofs.Ytpnndhbeahajkaa
/- THE CELL 'sum', in the pinned program and in every row, IS THE sha256 OF THE DUMP (.gsa) THAT YtpnndhbeahajkaaProg.lean LOADS. Nothing in Lean hashes anything: it is a label: what it is worth is what the hold of that sum in a sandbox is worth. -/
noncomputable def Try.pinned : Pinned := { name := "ytpnndhbeahajkaa", sum := "f6bc30d9d02a3de2d5b257fcb48a069cd26cad3fc3077426b4ebd483e548c28c", checked := Try.checked }
namespace Rows
def none {H : Type} : Left H := { results := [], args := [] }

/-- 'plumblaw06.F64Joins': WHATEVER THE INPUT: true; the input reads as it did. -/
def f64JoinsSpec : ChangeSpec := { name := "f64Joins", fn := fun _ => fun
  | [d1, d2, d3] => { results := [.lit (.bool true)], args := [d1, d2, d3] }
  | _ => none }
def f64JoinsRow : OpenClaim := { program := "ytpnndhbeahajkaa", sum := "f6bc30d9d02a3de2d5b257fcb48a069cd26cad3fc3077426b4ebd483e548c28c", func := "plumb/plumblaw06.F64Joins", spec := "f64Joins", apart := false }
def F64JoinsSaid : Prop := f64JoinsRow.holds Try.pinned (OpenSpec.ofChange f64JoinsSpec)

/-- ITS FALSE NEIGHBOUR: 'it returns false'. Refute it at one input. -/
def f64JoinsWrong : ChangeSpec := { name := "f64Joins", fn := fun _ => fun
  | [d1, d2, d3] => { results := [.lit (.bool false)], args := [d1, d2, d3] }
  | _ => none }
def F64JoinsWrongFalsely : Prop := f64JoinsRow.holds Try.pinned (OpenSpec.ofChange f64JoinsWrong)

/-- 'plumblaw06.F64Fields': WHATEVER THE INPUT: true; the input reads as it did. -/
def f64FieldsSpec : ChangeSpec := { name := "f64Fields", fn := fun _ => fun
  | [d] => { results := [.lit (.bool true)], args := [d] }
  | _ => none }
def f64FieldsRow : OpenClaim := { program := "ytpnndhbeahajkaa", sum := "f6bc30d9d02a3de2d5b257fcb48a069cd26cad3fc3077426b4ebd483e548c28c", func := "plumb/plumblaw06.F64Fields", spec := "f64Fields", apart := false }
def F64FieldsSaid : Prop := f64FieldsRow.holds Try.pinned (OpenSpec.ofChange f64FieldsSpec)

/-- ITS FALSE NEIGHBOUR: 'it returns false'. Refute it at one input. -/
def f64FieldsWrong : ChangeSpec := { name := "f64Fields", fn := fun _ => fun
  | [d] => { results := [.lit (.bool false)], args := [d] }
  | _ => none }
def F64FieldsWrongFalsely : Prop := f64FieldsRow.holds Try.pinned (OpenSpec.ofChange f64FieldsWrong)

/-- 'plumblaw06.F64Back': WHATEVER THE INPUT: true; the input reads as it did. -/
def f64BackSpec : ChangeSpec := { name := "f64Back", fn := fun _ => fun
  | [d1, d2] => { results := [.lit (.bool true)], args := [d1, d2] }
  | _ => none }
def f64BackRow : OpenClaim := { program := "ytpnndhbeahajkaa", sum := "f6bc30d9d02a3de2d5b257fcb48a069cd26cad3fc3077426b4ebd483e548c28c", func := "plumb/plumblaw06.F64Back", spec := "f64Back", apart := false }
def F64BackSaid : Prop := f64BackRow.holds Try.pinned (OpenSpec.ofChange f64BackSpec)

/-- ITS FALSE NEIGHBOUR: 'it returns false'. Refute it at one input. -/
def f64BackWrong : ChangeSpec := { name := "f64Back", fn := fun _ => fun
  | [d1, d2] => { results := [.lit (.bool false)], args := [d1, d2] }
  | _ => none }
def F64BackWrongFalsely : Prop := f64BackRow.holds Try.pinned (OpenSpec.ofChange f64BackWrong)

/-- 'plumblaw06.F64Neighbours': WHATEVER THE INPUT: true; the input reads as it did. -/
def f64NeighboursSpec : ChangeSpec := { name := "f64Neighbours", fn := fun _ => fun
  | [d1, d2] => { results := [.lit (.bool true)], args := [d1, d2] }
  | _ => none }
def f64NeighboursRow : OpenClaim := { program := "ytpnndhbeahajkaa", sum := "f6bc30d9d02a3de2d5b257fcb48a069cd26cad3fc3077426b4ebd483e548c28c", func := "plumb/plumblaw06.F64Neighbours", spec := "f64Neighbours", apart := false }
def F64NeighboursSaid : Prop := f64NeighboursRow.holds Try.pinned (OpenSpec.ofChange f64NeighboursSpec)

/-- ITS FALSE NEIGHBOUR: 'it returns false'. Refute it at one input. -/
def f64NeighboursWrong : ChangeSpec := { name := "f64Neighbours", fn := fun _ => fun
  | [d1, d2] => { results := [.lit (.bool false)], args := [d1, d2] }
  | _ => none }
def F64NeighboursWrongFalsely : Prop := f64NeighboursRow.holds Try.pinned (OpenSpec.ofChange f64NeighboursWrong)

/-- 'plumblaw06.F64Turns': WHATEVER THE INPUT: true; the input reads as it did. -/
def f64TurnsSpec : ChangeSpec := { name := "f64Turns", fn := fun _ => fun
  | [d1, d2] => { results := [.lit (.bool true)], args := [d1, d2] }
  | _ => none }
def f64TurnsRow : OpenClaim := { program := "ytpnndhbeahajkaa", sum := "f6bc30d9d02a3de2d5b257fcb48a069cd26cad3fc3077426b4ebd483e548c28c", func := "plumb/plumblaw06.F64Turns", spec := "f64Turns", apart := false }
def F64TurnsSaid : Prop := f64TurnsRow.holds Try.pinned (OpenSpec.ofChange f64TurnsSpec)

/-- ITS FALSE NEIGHBOUR: 'it returns false'. Refute it at one input. -/
def f64TurnsWrong : ChangeSpec := { name := "f64Turns", fn := fun _ => fun
  | [d1, d2] => { results := [.lit (.bool false)], args := [d1, d2] }
  | _ => none }
def F64TurnsWrongFalsely : Prop := f64TurnsRow.holds Try.pinned (OpenSpec.ofChange f64TurnsWrong)

/-- 'plumblaw06.F64Orders': WHATEVER THE INPUT: true; the input reads as it did. -/
def f64OrdersSpec : ChangeSpec := { name := "f64Orders", fn := fun _ => fun
  | [d1, d2, d3] => { results := [.lit (.bool true)], args := [d1, d2, d3] }
  | _ => none }
def f64OrdersRow : OpenClaim := { program := "ytpnndhbeahajkaa", sum := "f6bc30d9d02a3de2d5b257fcb48a069cd26cad3fc3077426b4ebd483e548c28c", func := "plumb/plumblaw06.F64Orders", spec := "f64Orders", apart := false }
def F64OrdersSaid : Prop := f64OrdersRow.holds Try.pinned (OpenSpec.ofChange f64OrdersSpec)

/-- ITS FALSE NEIGHBOUR: 'it returns false'. Refute it at one input. -/
def f64OrdersWrong : ChangeSpec := { name := "f64Orders", fn := fun _ => fun
  | [d1, d2, d3] => { results := [.lit (.bool false)], args := [d1, d2, d3] }
  | _ => none }
def F64OrdersWrongFalsely : Prop := f64OrdersRow.holds Try.pinned (OpenSpec.ofChange f64OrdersWrong)

/-- 'plumblaw06.F64Exact': WHATEVER THE INPUT: true; the input reads as it did. -/
def f64ExactSpec : ChangeSpec := { name := "f64Exact", fn := fun _ => fun
  | [d1, d2, d3] => { results := [.lit (.bool true)], args := [d1, d2, d3] }
  | _ => none }
def f64ExactRow : OpenClaim := { program := "ytpnndhbeahajkaa", sum := "f6bc30d9d02a3de2d5b257fcb48a069cd26cad3fc3077426b4ebd483e548c28c", func := "plumb/plumblaw06.F64Exact", spec := "f64Exact", apart := false }
def F64ExactSaid : Prop := f64ExactRow.holds Try.pinned (OpenSpec.ofChange f64ExactSpec)

/-- ITS FALSE NEIGHBOUR: 'it returns false'. Refute it at one input. -/
def f64ExactWrong : ChangeSpec := { name := "f64Exact", fn := fun _ => fun
  | [d1, d2, d3] => { results := [.lit (.bool false)], args := [d1, d2, d3] }
  | _ => none }
def F64ExactWrongFalsely : Prop := f64ExactRow.holds Try.pinned (OpenSpec.ofChange f64ExactWrong)

/-- 'plumblaw06.F64Numbers': WHATEVER THE INPUT: true; the input reads as it did. -/
def f64NumbersSpec : ChangeSpec := { name := "f64Numbers", fn := fun _ => fun
  | [d1, d2] => { results := [.lit (.bool true)], args := [d1, d2] }
  | _ => none }
def f64NumbersRow : OpenClaim := { program := "ytpnndhbeahajkaa", sum := "f6bc30d9d02a3de2d5b257fcb48a069cd26cad3fc3077426b4ebd483e548c28c", func := "plumb/plumblaw06.F64Numbers", spec := "f64Numbers", apart := false }
def F64NumbersSaid : Prop := f64NumbersRow.holds Try.pinned (OpenSpec.ofChange f64NumbersSpec)

/-- ITS FALSE NEIGHBOUR: 'it returns false'. Refute it at one input. -/
def f64NumbersWrong : ChangeSpec := { name := "f64Numbers", fn := fun _ => fun
  | [d1, d2] => { results := [.lit (.bool false)], args := [d1, d2] }
  | _ => none }
def F64NumbersWrongFalsely : Prop := f64NumbersRow.holds Try.pinned (OpenSpec.ofChange f64NumbersWrong)

/- THE SECOND FORM. 'bulk': how many values and letters a reading holds, each counted each time it is reached (what is shared counts as often as it is met; a slice's spare places count too). A statement '..UptoSaid' is the law's where the arguments, and the package variables that the reading takes, are together of bulk at most 1048576: NARROWER than '..Said'. Prove '..Said' where nothing that the law and all that it calls make is longer than what came in: it says more and counts as full. Else prove '..UptoSaid'. A law counts once. -/
mutual
def uptoBulk {H : Type} : DataW H → Nat
  | .lit (.string bytes) => bytes.length + 1
  | .lit _ => 1
  | .nil => 1
  | .ptr d => uptoBulk d + 1
  | .slice elems spare => uptoBulkAll elems + uptoBulkAll spare + 1
  | .agg parts => uptoBulkAll parts + 1
  | .iface _ d => uptoBulk d + 1
  | .map entries => uptoBulkEntries entries + 1
  | .held _ => 1
def uptoBulkAll {H : Type} : List (DataW H) → Nat
  | [] => 0
  | d :: r => uptoBulk d + uptoBulkAll r
def uptoBulkEntries {H : Type} : List (Lit × DataW H) → Nat
  | [] => 0
  | x :: r => uptoBulkEntry x + uptoBulkEntries r
def uptoBulkEntry {H : Type} : Lit × DataW H → Nat
  | (.string bytes, d) => bytes.length + uptoBulk d + 1
  | (_, d) => uptoBulk d + 1
 end
def uptoSmall : (H : Type) → List (DataW H) → Bool := fun _ ds => decide (uptoBulkAll ds ≤ 1048576)
def OpenSpec.upto (s : _root_.Go.ChangeSpec) : _root_.Go.OpenSpec := { _root_.Go.OpenSpec.ofChange s with cond := some uptoSmall }

/-- 'plumblaw06.F64Joins', WHERE WHAT IT READS IS OF BULK AT MOST 1048576: true; the input reads as it did. -/
def f64JoinsUptoRow : OpenClaim := { program := "ytpnndhbeahajkaa", sum := "f6bc30d9d02a3de2d5b257fcb48a069cd26cad3fc3077426b4ebd483e548c28c", func := "plumb/plumblaw06.F64Joins", spec := "f64Joins", apart := false, narrowed := true }
def F64JoinsUptoSaid : Prop := f64JoinsUptoRow.holds Try.pinned (OpenSpec.upto f64JoinsSpec)

/-- 'plumblaw06.F64Fields', WHERE WHAT IT READS IS OF BULK AT MOST 1048576: true; the input reads as it did. -/
def f64FieldsUptoRow : OpenClaim := { program := "ytpnndhbeahajkaa", sum := "f6bc30d9d02a3de2d5b257fcb48a069cd26cad3fc3077426b4ebd483e548c28c", func := "plumb/plumblaw06.F64Fields", spec := "f64Fields", apart := false, narrowed := true }
def F64FieldsUptoSaid : Prop := f64FieldsUptoRow.holds Try.pinned (OpenSpec.upto f64FieldsSpec)

/-- 'plumblaw06.F64Back', WHERE WHAT IT READS IS OF BULK AT MOST 1048576: true; the input reads as it did. -/
def f64BackUptoRow : OpenClaim := { program := "ytpnndhbeahajkaa", sum := "f6bc30d9d02a3de2d5b257fcb48a069cd26cad3fc3077426b4ebd483e548c28c", func := "plumb/plumblaw06.F64Back", spec := "f64Back", apart := false, narrowed := true }
def F64BackUptoSaid : Prop := f64BackUptoRow.holds Try.pinned (OpenSpec.upto f64BackSpec)

/-- 'plumblaw06.F64Neighbours', WHERE WHAT IT READS IS OF BULK AT MOST 1048576: true; the input reads as it did. -/
def f64NeighboursUptoRow : OpenClaim := { program := "ytpnndhbeahajkaa", sum := "f6bc30d9d02a3de2d5b257fcb48a069cd26cad3fc3077426b4ebd483e548c28c", func := "plumb/plumblaw06.F64Neighbours", spec := "f64Neighbours", apart := false, narrowed := true }
def F64NeighboursUptoSaid : Prop := f64NeighboursUptoRow.holds Try.pinned (OpenSpec.upto f64NeighboursSpec)

/-- 'plumblaw06.F64Turns', WHERE WHAT IT READS IS OF BULK AT MOST 1048576: true; the input reads as it did. -/
def f64TurnsUptoRow : OpenClaim := { program := "ytpnndhbeahajkaa", sum := "f6bc30d9d02a3de2d5b257fcb48a069cd26cad3fc3077426b4ebd483e548c28c", func := "plumb/plumblaw06.F64Turns", spec := "f64Turns", apart := false, narrowed := true }
def F64TurnsUptoSaid : Prop := f64TurnsUptoRow.holds Try.pinned (OpenSpec.upto f64TurnsSpec)

/-- 'plumblaw06.F64Orders', WHERE WHAT IT READS IS OF BULK AT MOST 1048576: true; the input reads as it did. -/
def f64OrdersUptoRow : OpenClaim := { program := "ytpnndhbeahajkaa", sum := "f6bc30d9d02a3de2d5b257fcb48a069cd26cad3fc3077426b4ebd483e548c28c", func := "plumb/plumblaw06.F64Orders", spec := "f64Orders", apart := false, narrowed := true }
def F64OrdersUptoSaid : Prop := f64OrdersUptoRow.holds Try.pinned (OpenSpec.upto f64OrdersSpec)

/-- 'plumblaw06.F64Exact', WHERE WHAT IT READS IS OF BULK AT MOST 1048576: true; the input reads as it did. -/
def f64ExactUptoRow : OpenClaim := { program := "ytpnndhbeahajkaa", sum := "f6bc30d9d02a3de2d5b257fcb48a069cd26cad3fc3077426b4ebd483e548c28c", func := "plumb/plumblaw06.F64Exact", spec := "f64Exact", apart := false, narrowed := true }
def F64ExactUptoSaid : Prop := f64ExactUptoRow.holds Try.pinned (OpenSpec.upto f64ExactSpec)

/-- 'plumblaw06.F64Numbers', WHERE WHAT IT READS IS OF BULK AT MOST 1048576: true; the input reads as it did. -/
def f64NumbersUptoRow : OpenClaim := { program := "ytpnndhbeahajkaa", sum := "f6bc30d9d02a3de2d5b257fcb48a069cd26cad3fc3077426b4ebd483e548c28c", func := "plumb/plumblaw06.F64Numbers", spec := "f64Numbers", apart := false, narrowed := true }
def F64NumbersUptoSaid : Prop := f64NumbersUptoRow.holds Try.pinned (OpenSpec.upto f64NumbersSpec)

end Rows
end Go.Proofs.Ytpnndhbeahajkaa
