/- Written by a program of this session: functions, and their walks. -/
import Derived.Test.YtfpbeadgpkkknaaProg
import Derived.Below
import Derived.Deep.Draws
import Derived.Deep.AppendLies
import Derived.Maps.AppendAt
import Derived.OwnWalk
import Derived.Laws.BytesArg
import Derived.Laws.MakeOwn
import Derived.Laws.OwnMore
import Derived.Deep.OwnRows
import Derived.Tactics
import Derived.Lib.ConvBytes
import Derived.Laws.Slices
import Derived.WalkKit
import Derived.KernelRfl
import Derived.RowKit3
import Derived.Deep.LoopGhost
import Derived.Deep.QuietTactic
import Derived.BigQuiet
import Derived.WideLaws
import Derived.Deep.DeepCutAuto
import Derived.Deep.CutBlock
import Derived.Deep.RegionHeld3
import Derived.Laws.Rows
import Derived.Lib.AppendStr
import Derived.ArgAppend
import Derived.Laws.IdiomCopy
import Derived.OrdersHeld
import Derived.Laws.BitsLemmas
import Derived.RowKit
import Derived.Test.YtfpbeadgpkkknaaHand
import Derived.Test.YtfpbeadgpkkknaaWWords
import Derived.Test.YtfpbeadgpkkknaaWLast
import Derived.Test.YtfpbeadgpkkknaaWTab
import Derived.Test.YtfpbeadgpkkknaaWFour
import Derived.Test.YtfpbeadgpkkknaaWQPut
import Derived.Test.YtfpbeadgpkkknaaWApart
import Derived.Test.YtfpbeadgpkkknaaWArr
import Derived.Test.YtfpbeadgpkkknaaWZeros
import Derived.Test.YtfpbeadgpkkknaaWFoot
import Derived.Test.YtfpbeadgpkkknaaWKept
import Derived.Test.YtfpbeadgpkkknaaWShare
import Derived.Test.YtfpbeadgpkkknaaWN
import Derived.Test.YtfpbeadgpkkknaaWFootNe
import Derived.Test.YtfpbeadgpkkknaaWAt
import Derived.Test.YtfpbeadgpkkknaaWEqStruct
import Derived.Test.YtfpbeadgpkkknaaWRepsOne
import Derived.Test.YtfpbeadgpkkknaaWInv
import Derived.Test.YtfpbeadgpkkknaaWInvWords
import Derived.Test.YtfpbeadgpkkknaaWGuard
import Derived.Test.YtfpbeadgpkkknaaWNEv
import Derived.Test.YtfpbeadgpkkknaaWMore
namespace Go.Proofs.Ytfpbeadgpkkknaa.QCrcSums
open Go.RowKit Go.Proofs.YtfpbeadgpkkknaaW.PrintWords Go.Proofs.YtfpbeadgpkkknaaW.PrintLast Go.Proofs.YtfpbeadgpkkknaaW.PrintMore Go.Proofs.Ytfpbeadgpkkknaa.Hand
attribute [local go_sem] max2_int min2_int max_two min_two max_three min_three max_four min_four   -- for this text's walks alone
set_option linter.unusedVariables false
set_option linter.unusedSimpArgs false



def errW : Option Int → Value
  | none => .nilIface
  | some c => .iface 0 (.int .i64 c)
theorem errW_none : errW none = .nilIface := rfl
theorem errW_some (c : Int) : errW (some c) = .iface 0 (.int .i64 c) := rfl

theorem info5 : (Try.prog.info? 5).map (fun i => (i.zero, i.size, i.bytes)) = some (some (.int .u8 0), 1, 1) := by kernel_rfl
theorem info9 : (Try.prog.info? 9).map (fun i => (i.zero, i.size, i.bytes)) = some (some (.string ⟨#[]⟩), 1, 16) := by kernel_rfl
-- the values' own types

end Go.Proofs.Ytfpbeadgpkkknaa.QCrcSums
