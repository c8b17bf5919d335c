/- Written by a program of this session: functions, and their walks. -/
import Derived.Test.YtnidohbleffjkaaProg
import Derived.Below
import Derived.Deep.Draws
import Derived.Deep.AppendLies
import Derived.Maps.AppendAt
import Derived.OwnWalk
import Derived.Laws.BytesArg
import Derived.Laws.MakeOwn
import Derived.Laws.OwnMore
import Derived.Deep.OwnRows
import Derived.Tactics
import Derived.Lib.ConvBytes
import Derived.Laws.Slices
import Derived.WalkKit
import Derived.KernelRfl
import Derived.RowKit3
import Derived.Deep.LoopGhost
import Derived.Deep.QuietTactic
import Derived.BigQuiet
import Derived.WideLaws
import Derived.Deep.DeepCutAuto
import Derived.Deep.CutBlock
import Derived.Deep.RegionHeld3
import Derived.Laws.Rows
import Derived.Lib.AppendStr
import Derived.ArgAppend
import Derived.Laws.IdiomCopy
import Derived.OrdersHeld
import Derived.Laws.BitsLemmas
import Derived.RowKit
import Derived.Test.YtnidohbleffjkaaHand
import Derived.Test.YtnidohbleffjkaaWWords
import Derived.Test.YtnidohbleffjkaaWLast
import Derived.Test.YtnidohbleffjkaaWTab
import Derived.Test.YtnidohbleffjkaaWFour
import Derived.Test.YtnidohbleffjkaaWQPut
import Derived.Test.YtnidohbleffjkaaWApart
import Derived.Test.YtnidohbleffjkaaWArr
import Derived.Test.YtnidohbleffjkaaWZeros
import Derived.Test.YtnidohbleffjkaaWFoot
import Derived.Test.YtnidohbleffjkaaWKept
import Derived.Test.YtnidohbleffjkaaWShare
import Derived.Test.YtnidohbleffjkaaWN
import Derived.Test.YtnidohbleffjkaaWFootNe
import Derived.Test.YtnidohbleffjkaaWAt
import Derived.Test.YtnidohbleffjkaaWEqStruct
import Derived.Test.YtnidohbleffjkaaWRepsOne
import Derived.Test.YtnidohbleffjkaaWInv
import Derived.Test.YtnidohbleffjkaaWInvWords
import Derived.Test.YtnidohbleffjkaaWGuard
import Derived.Test.YtnidohbleffjkaaWNEv
import Derived.Test.YtnidohbleffjkaaWMore
namespace Go.Proofs.Ytnidohbleffjkaa.QWindowIndexes
open Go.RowKit Go.Proofs.YtnidohbleffjkaaW.PrintWords Go.Proofs.YtnidohbleffjkaaW.PrintLast Go.Proofs.YtnidohbleffjkaaW.PrintMore Go.Proofs.Ytnidohbleffjkaa.Hand
attribute [local go_sem] max2_int min2_int max_two min_two max_three min_three max_four min_four   -- for this text's walks alone
set_option linter.unusedVariables false
set_option linter.unusedSimpArgs false



def errW : Option Int → Value
  | none => .nilIface
  | some c => .iface 0 (.int .i64 c)
theorem errW_none : errW none = .nilIface := rfl
theorem errW_some (c : Int) : errW (some c) = .iface 0 (.int .i64 c) := rfl

theorem info22 : (Try.prog.info? 22).map (fun i => (i.zero, i.size, i.bytes)) = some (some (.int .u32 0), 1, 4) := by kernel_rfl
-- the values' own types

end Go.Proofs.Ytnidohbleffjkaa.QWindowIndexes
