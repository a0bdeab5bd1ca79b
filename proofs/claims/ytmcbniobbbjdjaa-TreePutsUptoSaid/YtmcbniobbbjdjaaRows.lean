/-
  NARROWER THAN 'FOR EVERY INPUT', by the rows' own cells (each row's printed sentence says how): TreeFinds: loops · TreeTells: loops · TreeEquals: loops · TreePuts: loops · TreeFresh: loops.
  DERIVED. THE GIVEN ROWS OF THIS SEAT. 5 by the template 'for every input the law returns true; each argument reads behind the call as it read before'; 0 by the template 'total and deterministic' (their statements: YtmcbniobbbjdjaaTotals.lean).
  GIVEN WITH THE SEED: the statements are not yours to turn. If you find one false, say at which input.
  Laid BY PROGRAM, IN A SANDBOX (cutbox-rows.mjs): the forced cells as the released guide's own fill.sh prints them over the translation b0c4f29b49e13f24… (all of the seat's roots in one cut). By AI agents, Wed Nov 11 2026. No macro, syntax, notation, axiom, sorry.
-/
import Derived.Test.YtmcbniobbbjdjaaChecked
import GoSem.Claim
import GoSem.ClaimJoined
import GoSem.ClaimMapViews
import Derived.JoinedTies
import Derived.KernelRfl
namespace Go.Proofs.Ytmcbniobbbjdjaa
/- THE CELL 'sum', in the pinned program and in every row, IS THE sha256 OF THE DUMP (.gsa) THAT YtmcbniobbbjdjaaProg.lean LOADS. Nothing in Lean hashes anything: it is a label: what it is worth is what the hold of that sum in a sandbox is worth. -/
noncomputable def Try.pinned : Pinned := { name := "ytmcbniobbbjdjaa", sum := "b0c4f29b49e13f24f18020696d80553c8830745a6215241cb73d0befd78da712", checked := Try.checked }
namespace Rows
def none {H : Type} : Left H := { results := [], args := [] }

/-- 'plumblaw15.TreeFinds': WHATEVER THE INPUT: true; the input reads as it did. -/
def treeFindsSpec : ChangeSpec := { name := "treeFinds", fn := fun _ => fun
  | [d1, d2, d3] => { results := [.lit (.bool true)], args := [d1, d2, d3] }
  | _ => none }
def treeFindsRow : OpenClaim := { program := "ytmcbniobbbjdjaa", sum := "b0c4f29b49e13f24f18020696d80553c8830745a6215241cb73d0befd78da712", func := "plumb/plumblaw15.TreeFinds", spec := "treeFinds", unfollowed := true, recurses := true, loops := true, apart := false }
def TreeFindsSaid : Prop := treeFindsRow.holds Try.pinned (OpenSpec.ofChange treeFindsSpec)

/-- ITS FALSE NEIGHBOUR: 'it returns false'. Refute it at one input. -/
def treeFindsWrong : ChangeSpec := { name := "treeFinds", fn := fun _ => fun
  | [d1, d2, d3] => { results := [.lit (.bool false)], args := [d1, d2, d3] }
  | _ => none }
def TreeFindsWrongFalsely : Prop := treeFindsRow.holds Try.pinned (OpenSpec.ofChange treeFindsWrong)

/-- 'plumblaw15.TreeTells': WHATEVER THE INPUT: true; the input reads as it did. -/
def treeTellsSpec : ChangeSpec := { name := "treeTells", fn := fun _ => fun
  | [d] => { results := [.lit (.bool true)], args := [d] }
  | _ => none }
def treeTellsRow : OpenClaim := { program := "ytmcbniobbbjdjaa", sum := "b0c4f29b49e13f24f18020696d80553c8830745a6215241cb73d0befd78da712", func := "plumb/plumblaw15.TreeTells", spec := "treeTells", unfollowed := true, recurses := true, loops := true, apart := false }
def TreeTellsSaid : Prop := treeTellsRow.holds Try.pinned (OpenSpec.ofChange treeTellsSpec)

/-- ITS FALSE NEIGHBOUR: 'it returns false'. Refute it at one input. -/
def treeTellsWrong : ChangeSpec := { name := "treeTells", fn := fun _ => fun
  | [d] => { results := [.lit (.bool false)], args := [d] }
  | _ => none }
def TreeTellsWrongFalsely : Prop := treeTellsRow.holds Try.pinned (OpenSpec.ofChange treeTellsWrong)

/-- 'plumblaw15.TreeEquals': WHATEVER THE INPUT: true; the input reads as it did. -/
def treeEqualsSpec : ChangeSpec := { name := "treeEquals", fn := fun _ => fun
  | [d1, d2] => { results := [.lit (.bool true)], args := [d1, d2] }
  | _ => none }
def treeEqualsRow : OpenClaim := { program := "ytmcbniobbbjdjaa", sum := "b0c4f29b49e13f24f18020696d80553c8830745a6215241cb73d0befd78da712", func := "plumb/plumblaw15.TreeEquals", spec := "treeEquals", unfollowed := true, recurses := true, loops := true, apart := false }
def TreeEqualsSaid : Prop := treeEqualsRow.holds Try.pinned (OpenSpec.ofChange treeEqualsSpec)

/-- ITS FALSE NEIGHBOUR: 'it returns false'. Refute it at one input. -/
def treeEqualsWrong : ChangeSpec := { name := "treeEquals", fn := fun _ => fun
  | [d1, d2] => { results := [.lit (.bool false)], args := [d1, d2] }
  | _ => none }
def TreeEqualsWrongFalsely : Prop := treeEqualsRow.holds Try.pinned (OpenSpec.ofChange treeEqualsWrong)

/-- 'plumblaw15.TreePuts': WHATEVER THE INPUT: true; the input reads as it did. -/
def treePutsSpec : ChangeSpec := { name := "treePuts", fn := fun _ => fun
  | [d1, d2, d3, d4] => { results := [.lit (.bool true)], args := [d1, d2, d3, d4] }
  | _ => none }
def treePutsRow : OpenClaim := { program := "ytmcbniobbbjdjaa", sum := "b0c4f29b49e13f24f18020696d80553c8830745a6215241cb73d0befd78da712", func := "plumb/plumblaw15.TreePuts", spec := "treePuts", unfollowed := true, recurses := true, loops := true, apart := false }
def TreePutsSaid : Prop := treePutsRow.holds Try.pinned (OpenSpec.ofChange treePutsSpec)

/-- ITS FALSE NEIGHBOUR: 'it returns false'. Refute it at one input. -/
def treePutsWrong : ChangeSpec := { name := "treePuts", fn := fun _ => fun
  | [d1, d2, d3, d4] => { results := [.lit (.bool false)], args := [d1, d2, d3, d4] }
  | _ => none }
def TreePutsWrongFalsely : Prop := treePutsRow.holds Try.pinned (OpenSpec.ofChange treePutsWrong)

/-- 'plumblaw15.TreeFresh': WHATEVER THE INPUT: true; the input reads as it did. -/
def treeFreshSpec : ChangeSpec := { name := "treeFresh", fn := fun _ => fun
  | [d1, d2] => { results := [.lit (.bool true)], args := [d1, d2] }
  | _ => none }
def treeFreshRow : OpenClaim := { program := "ytmcbniobbbjdjaa", sum := "b0c4f29b49e13f24f18020696d80553c8830745a6215241cb73d0befd78da712", func := "plumb/plumblaw15.TreeFresh", spec := "treeFresh", unfollowed := true, recurses := true, loops := true, apart := false }
def TreeFreshSaid : Prop := treeFreshRow.holds Try.pinned (OpenSpec.ofChange treeFreshSpec)

/-- ITS FALSE NEIGHBOUR: 'it returns false'. Refute it at one input. -/
def treeFreshWrong : ChangeSpec := { name := "treeFresh", fn := fun _ => fun
  | [d1, d2] => { results := [.lit (.bool false)], args := [d1, d2] }
  | _ => none }
def TreeFreshWrongFalsely : Prop := treeFreshRow.holds Try.pinned (OpenSpec.ofChange treeFreshWrong)

/- THE SECOND FORM. 'bulk': how many values and letters a reading holds, each counted each time it is reached (what is shared counts as often as it is met; a slice's spare places count too). A statement '..UptoSaid' is the law's where the arguments, and the package variables that the reading takes, are together of bulk at most 1048576: NARROWER than '..Said'. Prove '..Said' where nothing that the law and all that it calls make is longer than what came in: it says more and counts as full. Else prove '..UptoSaid'. A law counts once. -/
mutual
def uptoBulk {H : Type} : DataW H → Nat
  | .lit (.string bytes) => bytes.length + 1
  | .lit _ => 1
  | .nil => 1
  | .ptr d => uptoBulk d + 1
  | .slice elems spare => uptoBulkAll elems + uptoBulkAll spare + 1
  | .agg parts => uptoBulkAll parts + 1
  | .iface _ d => uptoBulk d + 1
  | .map entries => uptoBulkEntries entries + 1
  | .held _ => 1
def uptoBulkAll {H : Type} : List (DataW H) → Nat
  | [] => 0
  | d :: r => uptoBulk d + uptoBulkAll r
def uptoBulkEntries {H : Type} : List (Lit × DataW H) → Nat
  | [] => 0
  | x :: r => uptoBulkEntry x + uptoBulkEntries r
def uptoBulkEntry {H : Type} : Lit × DataW H → Nat
  | (.string bytes, d) => bytes.length + uptoBulk d + 1
  | (_, d) => uptoBulk d + 1
 end
def uptoSmall : (H : Type) → List (DataW H) → Bool := fun _ ds => decide (uptoBulkAll ds ≤ 1048576)
def OpenSpec.upto (s : _root_.Go.ChangeSpec) : _root_.Go.OpenSpec := { _root_.Go.OpenSpec.ofChange s with cond := some uptoSmall }

/-- 'plumblaw15.TreeFinds', WHERE WHAT IT READS IS OF BULK AT MOST 1048576: true; the input reads as it did. -/
def treeFindsUptoRow : OpenClaim := { program := "ytmcbniobbbjdjaa", sum := "b0c4f29b49e13f24f18020696d80553c8830745a6215241cb73d0befd78da712", func := "plumb/plumblaw15.TreeFinds", spec := "treeFinds", unfollowed := true, recurses := true, loops := true, apart := false, narrowed := true }
def TreeFindsUptoSaid : Prop := treeFindsUptoRow.holds Try.pinned (OpenSpec.upto treeFindsSpec)

/-- 'plumblaw15.TreeTells', WHERE WHAT IT READS IS OF BULK AT MOST 1048576: true; the input reads as it did. -/
def treeTellsUptoRow : OpenClaim := { program := "ytmcbniobbbjdjaa", sum := "b0c4f29b49e13f24f18020696d80553c8830745a6215241cb73d0befd78da712", func := "plumb/plumblaw15.TreeTells", spec := "treeTells", unfollowed := true, recurses := true, loops := true, apart := false, narrowed := true }
def TreeTellsUptoSaid : Prop := treeTellsUptoRow.holds Try.pinned (OpenSpec.upto treeTellsSpec)

/-- 'plumblaw15.TreeEquals', WHERE WHAT IT READS IS OF BULK AT MOST 1048576: true; the input reads as it did. -/
def treeEqualsUptoRow : OpenClaim := { program := "ytmcbniobbbjdjaa", sum := "b0c4f29b49e13f24f18020696d80553c8830745a6215241cb73d0befd78da712", func := "plumb/plumblaw15.TreeEquals", spec := "treeEquals", unfollowed := true, recurses := true, loops := true, apart := false, narrowed := true }
def TreeEqualsUptoSaid : Prop := treeEqualsUptoRow.holds Try.pinned (OpenSpec.upto treeEqualsSpec)

/-- 'plumblaw15.TreePuts', WHERE WHAT IT READS IS OF BULK AT MOST 1048576: true; the input reads as it did. -/
def treePutsUptoRow : OpenClaim := { program := "ytmcbniobbbjdjaa", sum := "b0c4f29b49e13f24f18020696d80553c8830745a6215241cb73d0befd78da712", func := "plumb/plumblaw15.TreePuts", spec := "treePuts", unfollowed := true, recurses := true, loops := true, apart := false, narrowed := true }
def TreePutsUptoSaid : Prop := treePutsUptoRow.holds Try.pinned (OpenSpec.upto treePutsSpec)

/-- 'plumblaw15.TreeFresh', WHERE WHAT IT READS IS OF BULK AT MOST 1048576: true; the input reads as it did. -/
def treeFreshUptoRow : OpenClaim := { program := "ytmcbniobbbjdjaa", sum := "b0c4f29b49e13f24f18020696d80553c8830745a6215241cb73d0befd78da712", func := "plumb/plumblaw15.TreeFresh", spec := "treeFresh", unfollowed := true, recurses := true, loops := true, apart := false, narrowed := true }
def TreeFreshUptoSaid : Prop := treeFreshUptoRow.holds Try.pinned (OpenSpec.upto treeFreshSpec)

end Rows
end Go.Proofs.Ytmcbniobbbjdjaa
