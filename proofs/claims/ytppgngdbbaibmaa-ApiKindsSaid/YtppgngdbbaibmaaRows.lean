/-
  No cell of these rows narrows 'for every input' (looked for: loops, veiled, ifaces, maps, wideKeys, modest, calm, conditions, laid).
  DERIVED. THE GIVEN ROWS OF THIS SEAT. 3 by the template 'for every input the law returns true; each argument reads behind the call as it read before'; 0 by the template 'total and deterministic' (their statements: YtppgngdbbaibmaaTotals.lean).
  GIVEN WITH THE SEED: the statements are not yours to turn. If you find one false, say at which input.
  Laid BY PROGRAM, IN A SANDBOX (cutbox-rows.mjs): the forced cells as the released guide's own fill.sh prints them over the translation c96b901c1955b180… (all of the seat's roots in one cut). By AI agents, Wed Nov 11 2026. No macro, syntax, notation, axiom, sorry.
-/
import Derived.Test.YtppgngdbbaibmaaChecked
import GoSem.Claim
import GoSem.ClaimJoined
import GoSem.ClaimMapViews
import Derived.JoinedTies
import Derived.KernelRfl
namespace Go.Proofs.Ytppgngdbbaibmaa
/- THE CELL 'sum', in the pinned program and in every row, IS THE sha256 OF THE DUMP (.gsa) THAT YtppgngdbbaibmaaProg.lean LOADS. Nothing in Lean hashes anything: it is a label: what it is worth is what the hold of that sum in a sandbox is worth. -/
noncomputable def Try.pinned : Pinned := { name := "ytppgngdbbaibmaa", sum := "c96b901c1955b180dd1e0d2f3cafadcbb21238db25be075cf572f4b21c22b7f2", checked := Try.checked }
namespace Rows
def none {H : Type} : Left H := { results := [], args := [] }

/-- 'plumbtop.ApiErrors': WHATEVER THE INPUT: true; the input reads as it did. -/
def apiErrorsSpec : ChangeSpec := { name := "apiErrors", fn := fun _ => fun
  | [] => { results := [.lit (.bool true)], args := [] }
  | _ => none }
def apiErrorsRow : OpenClaim := { program := "ytppgngdbbaibmaa", sum := "c96b901c1955b180dd1e0d2f3cafadcbb21238db25be075cf572f4b21c22b7f2", func := "plumb/plumbtop.ApiErrors", spec := "apiErrors", apart := false }
def ApiErrorsSaid : Prop := apiErrorsRow.holds Try.pinned (OpenSpec.ofChange apiErrorsSpec)

/-- ITS FALSE NEIGHBOUR: 'it returns false'. Refute it at one input. -/
def apiErrorsWrong : ChangeSpec := { name := "apiErrors", fn := fun _ => fun
  | [] => { results := [.lit (.bool false)], args := [] }
  | _ => none }
def ApiErrorsWrongFalsely : Prop := apiErrorsRow.holds Try.pinned (OpenSpec.ofChange apiErrorsWrong)

/-- 'plumbtop.ApiLimits': WHATEVER THE INPUT: true; the input reads as it did. -/
def apiLimitsSpec : ChangeSpec := { name := "apiLimits", fn := fun _ => fun
  | [] => { results := [.lit (.bool true)], args := [] }
  | _ => none }
def apiLimitsRow : OpenClaim := { program := "ytppgngdbbaibmaa", sum := "c96b901c1955b180dd1e0d2f3cafadcbb21238db25be075cf572f4b21c22b7f2", func := "plumb/plumbtop.ApiLimits", spec := "apiLimits", apart := false }
def ApiLimitsSaid : Prop := apiLimitsRow.holds Try.pinned (OpenSpec.ofChange apiLimitsSpec)

/-- ITS FALSE NEIGHBOUR: 'it returns false'. Refute it at one input. -/
def apiLimitsWrong : ChangeSpec := { name := "apiLimits", fn := fun _ => fun
  | [] => { results := [.lit (.bool false)], args := [] }
  | _ => none }
def ApiLimitsWrongFalsely : Prop := apiLimitsRow.holds Try.pinned (OpenSpec.ofChange apiLimitsWrong)

/-- 'plumbtop.ApiKinds': WHATEVER THE INPUT: true; the input reads as it did. -/
def apiKindsSpec : ChangeSpec := { name := "apiKinds", fn := fun _ => fun
  | [] => { results := [.lit (.bool true)], args := [] }
  | _ => none }
def apiKindsRow : OpenClaim := { program := "ytppgngdbbaibmaa", sum := "c96b901c1955b180dd1e0d2f3cafadcbb21238db25be075cf572f4b21c22b7f2", func := "plumb/plumbtop.ApiKinds", spec := "apiKinds", apart := false }
def ApiKindsSaid : Prop := apiKindsRow.holds Try.pinned (OpenSpec.ofChange apiKindsSpec)

/-- ITS FALSE NEIGHBOUR: 'it returns false'. Refute it at one input. -/
def apiKindsWrong : ChangeSpec := { name := "apiKinds", fn := fun _ => fun
  | [] => { results := [.lit (.bool false)], args := [] }
  | _ => none }
def ApiKindsWrongFalsely : Prop := apiKindsRow.holds Try.pinned (OpenSpec.ofChange apiKindsWrong)

/- THE SECOND FORM. 'bulk': how many values and letters a reading holds, each counted each time it is reached (what is shared counts as often as it is met; a slice's spare places count too). A statement '..UptoSaid' is the law's where the arguments, and the package variables that the reading takes, are together of bulk at most 1048576: NARROWER than '..Said'. Prove '..Said' where nothing that the law and all that it calls make is longer than what came in: it says more and counts as full. Else prove '..UptoSaid'. A law counts once. -/
mutual
def uptoBulk {H : Type} : DataW H → Nat
  | .lit (.string bytes) => bytes.length + 1
  | .lit _ => 1
  | .nil => 1
  | .ptr d => uptoBulk d + 1
  | .slice elems spare => uptoBulkAll elems + uptoBulkAll spare + 1
  | .agg parts => uptoBulkAll parts + 1
  | .iface _ d => uptoBulk d + 1
  | .map entries => uptoBulkEntries entries + 1
  | .held _ => 1
def uptoBulkAll {H : Type} : List (DataW H) → Nat
  | [] => 0
  | d :: r => uptoBulk d + uptoBulkAll r
def uptoBulkEntries {H : Type} : List (Lit × DataW H) → Nat
  | [] => 0
  | x :: r => uptoBulkEntry x + uptoBulkEntries r
def uptoBulkEntry {H : Type} : Lit × DataW H → Nat
  | (.string bytes, d) => bytes.length + uptoBulk d + 1
  | (_, d) => uptoBulk d + 1
 end
def uptoSmall : (H : Type) → List (DataW H) → Bool := fun _ ds => decide (uptoBulkAll ds ≤ 1048576)
def OpenSpec.upto (s : _root_.Go.ChangeSpec) : _root_.Go.OpenSpec := { _root_.Go.OpenSpec.ofChange s with cond := some uptoSmall }

/-- 'plumbtop.ApiErrors', WHERE WHAT IT READS IS OF BULK AT MOST 1048576: true; the input reads as it did. -/
def apiErrorsUptoRow : OpenClaim := { program := "ytppgngdbbaibmaa", sum := "c96b901c1955b180dd1e0d2f3cafadcbb21238db25be075cf572f4b21c22b7f2", func := "plumb/plumbtop.ApiErrors", spec := "apiErrors", apart := false, narrowed := true }
def ApiErrorsUptoSaid : Prop := apiErrorsUptoRow.holds Try.pinned (OpenSpec.upto apiErrorsSpec)

/-- 'plumbtop.ApiLimits', WHERE WHAT IT READS IS OF BULK AT MOST 1048576: true; the input reads as it did. -/
def apiLimitsUptoRow : OpenClaim := { program := "ytppgngdbbaibmaa", sum := "c96b901c1955b180dd1e0d2f3cafadcbb21238db25be075cf572f4b21c22b7f2", func := "plumb/plumbtop.ApiLimits", spec := "apiLimits", apart := false, narrowed := true }
def ApiLimitsUptoSaid : Prop := apiLimitsUptoRow.holds Try.pinned (OpenSpec.upto apiLimitsSpec)

/-- 'plumbtop.ApiKinds', WHERE WHAT IT READS IS OF BULK AT MOST 1048576: true; the input reads as it did. -/
def apiKindsUptoRow : OpenClaim := { program := "ytppgngdbbaibmaa", sum := "c96b901c1955b180dd1e0d2f3cafadcbb21238db25be075cf572f4b21c22b7f2", func := "plumb/plumbtop.ApiKinds", spec := "apiKinds", apart := false, narrowed := true }
def ApiKindsUptoSaid : Prop := apiKindsUptoRow.holds Try.pinned (OpenSpec.upto apiKindsSpec)

end Rows
end Go.Proofs.Ytppgngdbbaibmaa
