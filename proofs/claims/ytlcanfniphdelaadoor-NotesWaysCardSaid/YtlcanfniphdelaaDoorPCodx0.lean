-- PRINTED anew over substituted functions by hook.py
import Derived.Test.YtlcanfniphdelaaDoorProg
import Derived.Below
import Derived.Deep.Draws
import Derived.Deep.AppendLies
import Derived.Maps.AppendAt
import Derived.OwnWalk
import Derived.Laws.BytesArg
import Derived.Laws.MakeOwn
import Derived.Laws.OwnMore
import Derived.Deep.OwnRows
import Derived.Tactics
import Derived.Lib.ConvBytes
import Derived.Laws.Slices
import Derived.WalkKit
import Derived.KernelRfl
import Derived.RowKit3
import Derived.Deep.LoopGhost
import Derived.Deep.QuietTactic
import Derived.BigQuiet
import Derived.WideLaws
import Derived.Deep.DeepCutAuto
import Derived.Deep.CutBlock
import Derived.Deep.RegionHeld3
import Derived.Laws.Rows
import Derived.Lib.AppendStr
import Derived.ArgAppend
import Derived.Laws.IdiomCopy
import Derived.OrdersHeld
import Derived.Laws.BitsLemmas
import Derived.RowKit
import Derived.Test.YtlcanfniphdelaaDoorWWords
import Derived.Test.YtlcanfniphdelaaDoorWLast
import Derived.Test.YtlcanfniphdelaaDoorWTab
import Derived.Test.YtlcanfniphdelaaDoorWFour
import Derived.Test.YtlcanfniphdelaaDoorWQPut
import Derived.Test.YtlcanfniphdelaaDoorWApart
import Derived.Test.YtlcanfniphdelaaDoorWArr
import Derived.Test.YtlcanfniphdelaaDoorWZeros
import Derived.Test.YtlcanfniphdelaaDoorWFoot
import Derived.Test.YtlcanfniphdelaaDoorWKept
import Derived.Test.YtlcanfniphdelaaDoorWShare
import Derived.Test.YtlcanfniphdelaaDoorWN
import Derived.Test.YtlcanfniphdelaaDoorWFootNe
import Derived.Test.YtlcanfniphdelaaDoorWAt
import Derived.Test.YtlcanfniphdelaaDoorWEqStruct
import Derived.Test.YtlcanfniphdelaaDoorWRepsOne
import Derived.Test.YtlcanfniphdelaaDoorWInv
import Derived.Test.YtlcanfniphdelaaDoorWInvWords
import Derived.Test.YtlcanfniphdelaaDoorWGuard
import Derived.Test.YtlcanfniphdelaaDoorWNEv
import Derived.Test.YtlcanfniphdelaaDoorWMore
namespace Go.Proofs.YtlcanfniphdelaaDoor.PCod
open Go.RowKit Go.Proofs.YtlcanfniphdelaaDoorW.PrintWords Go.Proofs.YtlcanfniphdelaaDoorW.PrintLast Go.Proofs.YtlcanfniphdelaaDoorW.PrintMore
attribute [local go_sem] max2_int min2_int max_two min_two max_three min_three max_four min_four   -- for this text's walks alone
set_option linter.unusedVariables false
set_option linter.unusedSimpArgs false



def errW : Option Int → Value
  | none => .nilIface
  | some c => .iface 0 (.int .i64 c)
theorem errW_none : errW none = .nilIface := rfl
theorem errW_some (c : Int) : errW (some c) = .iface 0 (.int .i64 c) := rfl

theorem info3 : (Tryd.prog.info? 3).map (fun i => (i.zero, i.size, i.bytes)) = some (some (.int .i64 0), 1, 8) := by kernel_rfl
theorem info5 : (Tryd.prog.info? 5).map (fun i => (i.zero, i.size, i.bytes)) = some (some (.int .u8 0), 1, 1) := by kernel_rfl
-- the values' own types

end Go.Proofs.YtlcanfniphdelaaDoor.PCod
