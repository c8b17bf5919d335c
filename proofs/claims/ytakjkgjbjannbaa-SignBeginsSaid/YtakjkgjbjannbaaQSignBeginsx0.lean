/- Written by a program of this session: functions, and their walks. -/
import Derived.Test.YtakjkgjbjannbaaProg
import Derived.Below
import Derived.Deep.Draws
import Derived.Deep.AppendLies
import Derived.Maps.AppendAt
import Derived.OwnWalk
import Derived.Laws.BytesArg
import Derived.Laws.MakeOwn
import Derived.Laws.OwnMore
import Derived.Deep.OwnRows
import Derived.Tactics
import Derived.Lib.ConvBytes
import Derived.Laws.Slices
import Derived.WalkKit
import Derived.KernelRfl
import Derived.RowKit3
import Derived.Deep.LoopGhost
import Derived.Deep.QuietTactic
import Derived.BigQuiet
import Derived.WideLaws
import Derived.Deep.DeepCutAuto
import Derived.Deep.CutBlock
import Derived.Deep.RegionHeld3
import Derived.Laws.Rows
import Derived.Lib.AppendStr
import Derived.ArgAppend
import Derived.Laws.IdiomCopy
import Derived.OrdersHeld
import Derived.Laws.BitsLemmas
import Derived.RowKit
import Derived.Test.YtakjkgjbjannbaaHand2
import Derived.Test.YtakjkgjbjannbaaWWords
import Derived.Test.YtakjkgjbjannbaaWLast
import Derived.Test.YtakjkgjbjannbaaWTab
import Derived.Test.YtakjkgjbjannbaaWFour
import Derived.Test.YtakjkgjbjannbaaWQPut
import Derived.Test.YtakjkgjbjannbaaWApart
import Derived.Test.YtakjkgjbjannbaaWArr
import Derived.Test.YtakjkgjbjannbaaWZeros
import Derived.Test.YtakjkgjbjannbaaWFoot
import Derived.Test.YtakjkgjbjannbaaWKept
import Derived.Test.YtakjkgjbjannbaaWShare
import Derived.Test.YtakjkgjbjannbaaWN
import Derived.Test.YtakjkgjbjannbaaWFootNe
import Derived.Test.YtakjkgjbjannbaaWAt
import Derived.Test.YtakjkgjbjannbaaWEqStruct
import Derived.Test.YtakjkgjbjannbaaWRepsOne
import Derived.Test.YtakjkgjbjannbaaWInv
import Derived.Test.YtakjkgjbjannbaaWInvWords
import Derived.Test.YtakjkgjbjannbaaWGuard
import Derived.Test.YtakjkgjbjannbaaWNEv
import Derived.Test.YtakjkgjbjannbaaWMore
namespace Go.Proofs.Ytakjkgjbjannbaa.QSignBegins
open Go.RowKit Go.Proofs.YtakjkgjbjannbaaW.PrintWords Go.Proofs.YtakjkgjbjannbaaW.PrintLast Go.Proofs.YtakjkgjbjannbaaW.PrintMore Go.Proofs.Ytakjkgjbjannbaa.Hand
attribute [local go_sem] max2_int min2_int max_two min_two max_three min_three max_four min_four   -- for this text's walks alone
set_option linter.unusedVariables false
set_option linter.unusedSimpArgs false



def errW : Option Int → Value
  | none => .nilIface
  | some c => .iface 0 (.int .i64 c)
theorem errW_none : errW none = .nilIface := rfl
theorem errW_some (c : Int) : errW (some c) = .iface 0 (.int .i64 c) := rfl

theorem info3 : (Try.prog.info? 3).map (fun i => (i.zero, i.size, i.bytes)) = some (some (.int .i64 0), 1, 8) := by kernel_rfl
theorem info5 : (Try.prog.info? 5).map (fun i => (i.zero, i.size, i.bytes)) = some (some (.int .u8 0), 1, 1) := by kernel_rfl
theorem info35 : (Try.prog.info? 35).map (fun i => (i.zero, i.size, i.bytes)) = some (some (.int .u32 0), 1, 4) := by kernel_rfl
-- the values' own types

end Go.Proofs.Ytakjkgjbjannbaa.QSignBegins
