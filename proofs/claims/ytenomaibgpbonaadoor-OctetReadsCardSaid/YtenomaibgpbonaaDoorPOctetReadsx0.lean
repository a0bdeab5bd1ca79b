/- Go functions as Lean functions and their contracts: each call comes to what the Lean function says; or a law's row out of them. No conditions. Written by this session's wip/hprint.py (the kit's print with contracts and repairs of my own). -/
import Derived.Test.YtenomaibgpbonaaDoorProg
import Derived.Below
import Derived.Deep.Draws
import Derived.Deep.AppendLies
import Derived.Maps.AppendAt
import Derived.OwnWalk
import Derived.Laws.BytesArg
import Derived.Laws.MakeOwn
import Derived.Laws.OwnMore
import Derived.Deep.OwnRows
import Derived.Tactics
import Derived.Lib.ConvBytes
import Derived.Laws.Slices
import Derived.WalkKit
import Derived.KernelRfl
import Derived.RowKit3
import Derived.Deep.LoopGhost
import Derived.Deep.QuietTactic
import Derived.BigQuiet
import Derived.WideLaws
import Derived.Deep.DeepCutAuto
import Derived.Deep.CutBlock
import Derived.Deep.RegionHeld3
import Derived.Laws.Rows
import Derived.Lib.AppendStr
import Derived.ArgAppend
import Derived.Laws.IdiomCopy
import Derived.OrdersHeld
import Derived.Laws.BitsLemmas
import Derived.RowKit
import Derived.Test.YtenomaibgpbonaaDoorErrs
import Derived.Test.YtenomaibgpbonaaDoorMathCopy
import Derived.Test.YtenomaibgpbonaaDoorMathMake
import Derived.BigQuiet
import Derived.IntWalk
import Derived.Laws.BitsAllLaws
import Derived.RegionTactic
import Derived.Test.YtenomaibgpbonaaDoorWWords
import Derived.Test.YtenomaibgpbonaaDoorWLast
import Derived.Test.YtenomaibgpbonaaDoorWTab
import Derived.Test.YtenomaibgpbonaaDoorWFour
import Derived.Test.YtenomaibgpbonaaDoorWQPut
import Derived.Test.YtenomaibgpbonaaDoorWApart
import Derived.Test.YtenomaibgpbonaaDoorWArr
import Derived.Test.YtenomaibgpbonaaDoorWZeros
import Derived.Test.YtenomaibgpbonaaDoorWFoot
import Derived.Test.YtenomaibgpbonaaDoorWKept
import Derived.Test.YtenomaibgpbonaaDoorWShare
import Derived.Test.YtenomaibgpbonaaDoorWN
import Derived.Test.YtenomaibgpbonaaDoorWFootNe
import Derived.Test.YtenomaibgpbonaaDoorWAt
import Derived.Test.YtenomaibgpbonaaDoorWEqStruct
import Derived.Test.YtenomaibgpbonaaDoorWRepsOne
import Derived.Test.YtenomaibgpbonaaDoorWInv
import Derived.Test.YtenomaibgpbonaaDoorWInvWords
import Derived.Test.YtenomaibgpbonaaDoorWGuard
import Derived.Test.YtenomaibgpbonaaDoorWNEv
import Derived.Test.YtenomaibgpbonaaDoorWMore
namespace Go.Proofs.YtenomaibgpbonaaDoor.POctetReads
open Go.RowKit Go.Proofs.YtenomaibgpbonaaDoorW.PrintWords Go.Proofs.YtenomaibgpbonaaDoorW.PrintLast Go.Proofs.YtenomaibgpbonaaDoorW.PrintMore
attribute [local go_sem] max2_int min2_int max_two min_two max_three min_three max_four min_four   -- for this text's walks alone
set_option linter.unusedVariables false
set_option linter.unusedSimpArgs false



def errW : Option Int → Value
  | none => .nilIface
  | some c => .iface 0 (.int .i64 c)
theorem errW_none : errW none = .nilIface := rfl
theorem errW_some (c : Int) : errW (some c) = .iface 0 (.int .i64 c) := rfl

theorem info5 : (Tryd.prog.info? 5).map (fun i => (i.zero, i.size, i.bytes)) = some (some (.int .u8 0), 1, 1) := by kernel_rfl
-- the values' own types

end Go.Proofs.YtenomaibgpbonaaDoor.POctetReads
