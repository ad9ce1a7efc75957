-- Written by the kit's print.py over several roots (printall.sh)
import Derived.Test.YtpdpgppaoipnlaaDoorProg
import Derived.Below
import Derived.Deep.Draws
import Derived.Deep.AppendLies
import Derived.Maps.AppendAt
import Derived.OwnWalk
import Derived.Laws.BytesArg
import Derived.Laws.MakeOwn
import Derived.Laws.OwnMore
import Derived.Deep.OwnRows
import Derived.Tactics
import Derived.Lib.ConvBytes
import Derived.Laws.Slices
import Derived.WalkKit
import Derived.KernelRfl
import Derived.RowKit3
import Derived.Deep.LoopGhost
import Derived.Deep.QuietTactic
import Derived.BigQuiet
import Derived.WideLaws
import Derived.Deep.DeepCutAuto
import Derived.Deep.CutBlock
import Derived.Deep.RegionHeld3
import Derived.Laws.Rows
import Derived.Lib.AppendStr
import Derived.ArgAppend
import Derived.Laws.IdiomCopy
import Derived.OrdersHeld
import Derived.Laws.BitsLemmas
import Derived.RowKit
import Derived.Test.YtpdpgppaoipnlaaDoorWWords
import Derived.Test.YtpdpgppaoipnlaaDoorWLast
import Derived.Test.YtpdpgppaoipnlaaDoorWTab
import Derived.Test.YtpdpgppaoipnlaaDoorWFour
import Derived.Test.YtpdpgppaoipnlaaDoorWQPut
import Derived.Test.YtpdpgppaoipnlaaDoorWApart
import Derived.Test.YtpdpgppaoipnlaaDoorWArr
import Derived.Test.YtpdpgppaoipnlaaDoorWZeros
import Derived.Test.YtpdpgppaoipnlaaDoorWFoot
import Derived.Test.YtpdpgppaoipnlaaDoorWKept
import Derived.Test.YtpdpgppaoipnlaaDoorWShare
import Derived.Test.YtpdpgppaoipnlaaDoorWN
import Derived.Test.YtpdpgppaoipnlaaDoorWFootNe
import Derived.Test.YtpdpgppaoipnlaaDoorWAt
import Derived.Test.YtpdpgppaoipnlaaDoorWEqStruct
import Derived.Test.YtpdpgppaoipnlaaDoorWRepsOne
import Derived.Test.YtpdpgppaoipnlaaDoorWInv
import Derived.Test.YtpdpgppaoipnlaaDoorWInvWords
import Derived.Test.YtpdpgppaoipnlaaDoorWGuard
import Derived.Test.YtpdpgppaoipnlaaDoorWNEv
import Derived.Test.YtpdpgppaoipnlaaDoorWMore
namespace Go.Proofs.YtpdpgppaoipnlaaDoor.PAll
open Go.RowKit Go.Proofs.YtpdpgppaoipnlaaDoorW.PrintWords Go.Proofs.YtpdpgppaoipnlaaDoorW.PrintLast Go.Proofs.YtpdpgppaoipnlaaDoorW.PrintMore
attribute [local go_sem] max2_int min2_int max_two min_two max_three min_three max_four min_four   -- for this text's walks alone
set_option linter.unusedVariables false
set_option linter.unusedSimpArgs false



def errW : Option Int → Value
  | none => .nilIface
  | some c => .iface 0 (.int .i64 c)
theorem errW_none : errW none = .nilIface := rfl
theorem errW_some (c : Int) : errW (some c) = .iface 0 (.int .i64 c) := rfl

theorem info5 : (Tryd.prog.info? 5).map (fun i => (i.zero, i.size, i.bytes)) = some (some (.int .u8 0), 1, 1) := by kernel_rfl
theorem info21 : (Tryd.prog.info? 21).map (fun i => (i.zero, i.size, i.bytes)) = some (some (.int .i32 0), 1, 4) := by kernel_rfl
-- the values' own types

end Go.Proofs.YtpdpgppaoipnlaaDoor.PAll
