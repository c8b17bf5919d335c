/- Written by a program of this session: functions, and their walks. -/
import Derived.Test.YthpenelaieohkaaProg
import Derived.Below
import Derived.Deep.Draws
import Derived.Deep.AppendLies
import Derived.Maps.AppendAt
import Derived.OwnWalk
import Derived.Laws.BytesArg
import Derived.Laws.MakeOwn
import Derived.Laws.OwnMore
import Derived.Deep.OwnRows
import Derived.Tactics
import Derived.Lib.ConvBytes
import Derived.Laws.Slices
import Derived.WalkKit
import Derived.KernelRfl
import Derived.RowKit3
import Derived.Deep.LoopGhost
import Derived.Deep.QuietTactic
import Derived.BigQuiet
import Derived.WideLaws
import Derived.Deep.DeepCutAuto
import Derived.Deep.CutBlock
import Derived.Deep.RegionHeld3
import Derived.Laws.Rows
import Derived.Lib.AppendStr
import Derived.ArgAppend
import Derived.Laws.IdiomCopy
import Derived.OrdersHeld
import Derived.Laws.BitsLemmas
import Derived.RowKit
import Derived.Test.YthpenelaieohkaaWWords
import Derived.Test.YthpenelaieohkaaWLast
import Derived.Test.YthpenelaieohkaaWTab
import Derived.Test.YthpenelaieohkaaWFour
import Derived.Test.YthpenelaieohkaaWQPut
import Derived.Test.YthpenelaieohkaaWApart
import Derived.Test.YthpenelaieohkaaWArr
import Derived.Test.YthpenelaieohkaaWZeros
import Derived.Test.YthpenelaieohkaaWFoot
import Derived.Test.YthpenelaieohkaaWKept
import Derived.Test.YthpenelaieohkaaWShare
import Derived.Test.YthpenelaieohkaaWN
import Derived.Test.YthpenelaieohkaaWFootNe
import Derived.Test.YthpenelaieohkaaWAt
import Derived.Test.YthpenelaieohkaaWEqStruct
import Derived.Test.YthpenelaieohkaaWRepsOne
import Derived.Test.YthpenelaieohkaaWInv
import Derived.Test.YthpenelaieohkaaWInvWords
import Derived.Test.YthpenelaieohkaaWGuard
import Derived.Test.YthpenelaieohkaaWNEv
import Derived.Test.YthpenelaieohkaaWMore
namespace Go.Proofs.Ythpenelaieohkaa.QBiasOne
open Go.RowKit Go.Proofs.YthpenelaieohkaaW.PrintWords Go.Proofs.YthpenelaieohkaaW.PrintLast Go.Proofs.YthpenelaieohkaaW.PrintMore
attribute [local go_sem] max2_int min2_int max_two min_two max_three min_three max_four min_four   -- for this text's walks alone
set_option linter.unusedVariables false
set_option linter.unusedSimpArgs false



def errW : Option Int → Value
  | none => .nilIface
  | some c => .iface 0 (.int .i64 c)
theorem errW_none : errW none = .nilIface := rfl
theorem errW_some (c : Int) : errW (some c) = .iface 0 (.int .i64 c) := rfl

theorem info5 : (Try.prog.info? 5).map (fun i => (i.zero, i.size, i.bytes)) = some (some (.int .u8 0), 1, 1) := by kernel_rfl
-- the values' own types

end Go.Proofs.Ythpenelaieohkaa.QBiasOne
