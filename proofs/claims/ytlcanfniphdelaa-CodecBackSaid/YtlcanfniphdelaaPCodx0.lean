-- PRINTED anew over substituted functions by hook.py
import Derived.Test.YtlcanfniphdelaaProg
import Derived.Below
import Derived.Deep.Draws
import Derived.Deep.AppendLies
import Derived.Maps.AppendAt
import Derived.OwnWalk
import Derived.Laws.BytesArg
import Derived.Laws.MakeOwn
import Derived.Laws.OwnMore
import Derived.Deep.OwnRows
import Derived.Tactics
import Derived.Lib.ConvBytes
import Derived.Laws.Slices
import Derived.WalkKit
import Derived.KernelRfl
import Derived.RowKit3
import Derived.Deep.LoopGhost
import Derived.Deep.QuietTactic
import Derived.BigQuiet
import Derived.WideLaws
import Derived.Deep.DeepCutAuto
import Derived.Deep.CutBlock
import Derived.Deep.RegionHeld3
import Derived.Laws.Rows
import Derived.Lib.AppendStr
import Derived.ArgAppend
import Derived.Laws.IdiomCopy
import Derived.OrdersHeld
import Derived.Laws.BitsLemmas
import Derived.RowKit
import Derived.Test.YtlcanfniphdelaaWWords
import Derived.Test.YtlcanfniphdelaaWLast
import Derived.Test.YtlcanfniphdelaaWTab
import Derived.Test.YtlcanfniphdelaaWFour
import Derived.Test.YtlcanfniphdelaaWQPut
import Derived.Test.YtlcanfniphdelaaWApart
import Derived.Test.YtlcanfniphdelaaWArr
import Derived.Test.YtlcanfniphdelaaWZeros
import Derived.Test.YtlcanfniphdelaaWFoot
import Derived.Test.YtlcanfniphdelaaWKept
import Derived.Test.YtlcanfniphdelaaWShare
import Derived.Test.YtlcanfniphdelaaWN
import Derived.Test.YtlcanfniphdelaaWFootNe
import Derived.Test.YtlcanfniphdelaaWAt
import Derived.Test.YtlcanfniphdelaaWEqStruct
import Derived.Test.YtlcanfniphdelaaWRepsOne
import Derived.Test.YtlcanfniphdelaaWInv
import Derived.Test.YtlcanfniphdelaaWInvWords
import Derived.Test.YtlcanfniphdelaaWGuard
import Derived.Test.YtlcanfniphdelaaWNEv
import Derived.Test.YtlcanfniphdelaaWMore
namespace Go.Proofs.Ytlcanfniphdelaa.PCod
open Go.RowKit Go.Proofs.YtlcanfniphdelaaW.PrintWords Go.Proofs.YtlcanfniphdelaaW.PrintLast Go.Proofs.YtlcanfniphdelaaW.PrintMore
attribute [local go_sem] max2_int min2_int max_two min_two max_three min_three max_four min_four   -- for this text's walks alone
set_option linter.unusedVariables false
set_option linter.unusedSimpArgs false



def errW : Option Int → Value
  | none => .nilIface
  | some c => .iface 0 (.int .i64 c)
theorem errW_none : errW none = .nilIface := rfl
theorem errW_some (c : Int) : errW (some c) = .iface 0 (.int .i64 c) := rfl

theorem info5 : (Try.prog.info? 5).map (fun i => (i.zero, i.size, i.bytes)) = some (some (.int .u8 0), 1, 1) := by kernel_rfl
-- the values' own types

end Go.Proofs.Ytlcanfniphdelaa.PCod
