/- Go functions as Lean functions and their contracts: each call comes to what the Lean function says; or a law's row out of them. No conditions. Written by this session's wip/hprint.py (the kit's print with contracts and repairs of my own). -/
import Derived.Test.YtppgngdbbaibmaaProg
import Derived.Below
import Derived.Deep.Draws
import Derived.Deep.AppendLies
import Derived.Maps.AppendAt
import Derived.OwnWalk
import Derived.Laws.BytesArg
import Derived.Laws.MakeOwn
import Derived.Laws.OwnMore
import Derived.Deep.OwnRows
import Derived.Tactics
import Derived.Lib.ConvBytes
import Derived.Laws.Slices
import Derived.WalkKit
import Derived.KernelRfl
import Derived.RowKit3
import Derived.Deep.LoopGhost
import Derived.Deep.QuietTactic
import Derived.BigQuiet
import Derived.WideLaws
import Derived.Deep.DeepCutAuto
import Derived.Deep.CutBlock
import Derived.Deep.RegionHeld3
import Derived.Laws.Rows
import Derived.Lib.AppendStr
import Derived.ArgAppend
import Derived.Laws.IdiomCopy
import Derived.OrdersHeld
import Derived.Laws.BitsLemmas
import Derived.RowKit
import Derived.Test.YtppgngdbbaibmaaMathBits
import Derived.IntWalk
import Derived.Laws.BitsAllLaws
import Derived.RegionTactic
import Derived.Test.YtppgngdbbaibmaaWWords
import Derived.Test.YtppgngdbbaibmaaWLast
import Derived.Test.YtppgngdbbaibmaaWTab
import Derived.Test.YtppgngdbbaibmaaWFour
import Derived.Test.YtppgngdbbaibmaaWQPut
import Derived.Test.YtppgngdbbaibmaaWApart
import Derived.Test.YtppgngdbbaibmaaWArr
import Derived.Test.YtppgngdbbaibmaaWZeros
import Derived.Test.YtppgngdbbaibmaaWFoot
import Derived.Test.YtppgngdbbaibmaaWKept
import Derived.Test.YtppgngdbbaibmaaWShare
import Derived.Test.YtppgngdbbaibmaaWN
import Derived.Test.YtppgngdbbaibmaaWFootNe
import Derived.Test.YtppgngdbbaibmaaWAt
import Derived.Test.YtppgngdbbaibmaaWEqStruct
import Derived.Test.YtppgngdbbaibmaaWRepsOne
import Derived.Test.YtppgngdbbaibmaaWInv
import Derived.Test.YtppgngdbbaibmaaWInvWords
import Derived.Test.YtppgngdbbaibmaaWGuard
import Derived.Test.YtppgngdbbaibmaaWNEv
import Derived.Test.YtppgngdbbaibmaaWMore
namespace Go.Proofs.Ytppgngdbbaibmaa.PApiKinds
open Go.RowKit Go.Proofs.YtppgngdbbaibmaaW.PrintWords Go.Proofs.YtppgngdbbaibmaaW.PrintLast Go.Proofs.YtppgngdbbaibmaaW.PrintMore
attribute [local go_sem] max2_int min2_int max_two min_two max_three min_three max_four min_four   -- for this text's walks alone
set_option linter.unusedVariables false
set_option linter.unusedSimpArgs false



def errW : Option Int → Value
  | none => .nilIface
  | some c => .iface 0 (.int .i64 c)
theorem errW_none : errW none = .nilIface := rfl
theorem errW_some (c : Int) : errW (some c) = .iface 0 (.int .i64 c) := rfl

theorem info3 : (Try.prog.info? 3).map (fun i => (i.zero, i.size, i.bytes)) = some (some (.int .i64 0), 1, 8) := by kernel_rfl
-- the values' own types

end Go.Proofs.Ytppgngdbbaibmaa.PApiKinds
