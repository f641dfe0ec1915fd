-- Written by a program of this session (wip/ownprint.py) over the translation. Lean checks it.
import Derived.Test.YtpahpebchjajfaaProg
import Derived.Below
import Derived.Deep.Draws
import Derived.Deep.AppendLies
import Derived.Maps.AppendAt
import Derived.OwnWalk
import Derived.Laws.BytesArg
import Derived.Laws.MakeOwn
import Derived.Laws.OwnMore
import Derived.Deep.OwnRows
import Derived.Tactics
import Derived.Lib.ConvBytes
import Derived.Laws.Slices
import Derived.WalkKit
import Derived.KernelRfl
import Derived.RowKit3
import Derived.Deep.LoopGhost
import Derived.Deep.QuietTactic
import Derived.BigQuiet
import Derived.WideLaws
import Derived.Deep.DeepCutAuto
import Derived.Deep.CutBlock
import Derived.Deep.RegionHeld3
import Derived.Laws.Rows
import Derived.Lib.AppendStr
import Derived.ArgAppend
import Derived.Laws.IdiomCopy
import Derived.OrdersHeld
import Derived.Laws.BitsLemmas
import Derived.RowKit
import Derived.Test.YtpahpebchjajfaaWWords
import Derived.Test.YtpahpebchjajfaaWLast
import Derived.Test.YtpahpebchjajfaaWTab
import Derived.Test.YtpahpebchjajfaaWFour
import Derived.Test.YtpahpebchjajfaaWQPut
import Derived.Test.YtpahpebchjajfaaWApart
import Derived.Test.YtpahpebchjajfaaWArr
import Derived.Test.YtpahpebchjajfaaWZeros
import Derived.Test.YtpahpebchjajfaaWFoot
import Derived.Test.YtpahpebchjajfaaWKept
import Derived.Test.YtpahpebchjajfaaWShare
import Derived.Test.YtpahpebchjajfaaWN
import Derived.Test.YtpahpebchjajfaaWFootNe
import Derived.Test.YtpahpebchjajfaaWAt
import Derived.Test.YtpahpebchjajfaaWEqStruct
import Derived.Test.YtpahpebchjajfaaWRepsOne
import Derived.Test.YtpahpebchjajfaaWInv
import Derived.Test.YtpahpebchjajfaaWInvWords
import Derived.Test.YtpahpebchjajfaaWGuard
import Derived.Test.YtpahpebchjajfaaWNEv
import Derived.Test.YtpahpebchjajfaaWMore
namespace Go.Proofs.Ytpahpebchjajfaa.M
open Go.RowKit Go.Proofs.YtpahpebchjajfaaW.PrintWords Go.Proofs.YtpahpebchjajfaaW.PrintLast Go.Proofs.YtpahpebchjajfaaW.PrintMore
attribute [local go_sem] max2_int min2_int max_two min_two max_three min_three max_four min_four   -- for this text's walks alone
set_option linter.unusedVariables false
set_option linter.unusedSimpArgs false



def errW : Option Int → Value
  | none => .nilIface
  | some c => .iface 0 (.int .i64 c)
theorem errW_none : errW none = .nilIface := rfl
theorem errW_some (c : Int) : errW (some c) = .iface 0 (.int .i64 c) := rfl

theorem info3 : (Try.prog.info? 3).map (fun i => (i.zero, i.size, i.bytes)) = some (some (.int .i64 0), 1, 8) := by kernel_rfl
theorem info5 : (Try.prog.info? 5).map (fun i => (i.zero, i.size, i.bytes)) = some (some (.int .u8 0), 1, 1) := by kernel_rfl
theorem info29 : (Try.prog.info? 29).map (fun i => (i.zero, i.size, i.bytes)) = some (some (.int .u64 0), 1, 8) := by kernel_rfl
-- the values' own types

end Go.Proofs.Ytpahpebchjajfaa.M
