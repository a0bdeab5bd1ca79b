/- Go functions as Lean functions and their contracts: each call comes to what the Lean function says; or a law's row out of them. No conditions. Written by this session's wip/hprint.py (the kit's print with contracts and repairs of my own). -/
import Derived.Test.YtpnndhbeahajkaaProg
import Derived.Below
import Derived.Deep.Draws
import Derived.Deep.AppendLies
import Derived.Maps.AppendAt
import Derived.OwnWalk
import Derived.Laws.BytesArg
import Derived.Laws.MakeOwn
import Derived.Laws.OwnMore
import Derived.Deep.OwnRows
import Derived.Tactics
import Derived.Lib.ConvBytes
import Derived.Laws.Slices
import Derived.WalkKit
import Derived.KernelRfl
import Derived.RowKit3
import Derived.Deep.LoopGhost
import Derived.Deep.QuietTactic
import Derived.BigQuiet
import Derived.WideLaws
import Derived.Deep.DeepCutAuto
import Derived.Deep.CutBlock
import Derived.Deep.RegionHeld3
import Derived.Laws.Rows
import Derived.Lib.AppendStr
import Derived.ArgAppend
import Derived.Laws.IdiomCopy
import Derived.OrdersHeld
import Derived.Laws.BitsLemmas
import Derived.RowKit
import Derived.Test.YtpnndhbeahajkaaMath
import Derived.Test.YtpnndhbeahajkaaMathBits
import Derived.Test.YtpnndhbeahajkaaMathCopy
import Derived.Test.YtpnndhbeahajkaaMathMake
import Derived.BigQuiet
import Derived.Deep.AppendLies
import Derived.Deep.RegionHeld3
import Derived.IntWalk
import Derived.Laws.BitsAllLaws
import Derived.RegionTactic
import Derived.Test.YtpnndhbeahajkaaWWords
import Derived.Test.YtpnndhbeahajkaaWLast
import Derived.Test.YtpnndhbeahajkaaWTab
import Derived.Test.YtpnndhbeahajkaaWFour
import Derived.Test.YtpnndhbeahajkaaWQPut
import Derived.Test.YtpnndhbeahajkaaWApart
import Derived.Test.YtpnndhbeahajkaaWArr
import Derived.Test.YtpnndhbeahajkaaWZeros
import Derived.Test.YtpnndhbeahajkaaWFoot
import Derived.Test.YtpnndhbeahajkaaWKept
import Derived.Test.YtpnndhbeahajkaaWShare
import Derived.Test.YtpnndhbeahajkaaWN
import Derived.Test.YtpnndhbeahajkaaWFootNe
import Derived.Test.YtpnndhbeahajkaaWAt
import Derived.Test.YtpnndhbeahajkaaWEqStruct
import Derived.Test.YtpnndhbeahajkaaWRepsOne
import Derived.Test.YtpnndhbeahajkaaWInv
import Derived.Test.YtpnndhbeahajkaaWInvWords
import Derived.Test.YtpnndhbeahajkaaWGuard
import Derived.Test.YtpnndhbeahajkaaWNEv
import Derived.Test.YtpnndhbeahajkaaWMore
namespace Go.Proofs.Ytpnndhbeahajkaa.PF64Exact
open Go.RowKit Go.Proofs.YtpnndhbeahajkaaW.PrintWords Go.Proofs.YtpnndhbeahajkaaW.PrintLast Go.Proofs.YtpnndhbeahajkaaW.PrintMore
attribute [local go_sem] max2_int min2_int max_two min_two max_three min_three max_four min_four   -- for this text's walks alone
set_option linter.unusedVariables false
set_option linter.unusedSimpArgs false



def errW : Option Int → Value
  | none => .nilIface
  | some c => .iface 0 (.int .i64 c)
theorem errW_none : errW none = .nilIface := rfl
theorem errW_some (c : Int) : errW (some c) = .iface 0 (.int .i64 c) := rfl

theorem info22 : (Try.prog.info? 22).map (fun i => (i.zero, i.size, i.bytes)) = some (some (.int .u64 0), 1, 8) := by kernel_rfl
-- the values' own types

end Go.Proofs.Ytpnndhbeahajkaa.PF64Exact
