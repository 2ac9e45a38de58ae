-- PRINTED anew over substituted functions by hook.py
import Derived.Test.YtnajdnhgoakgaaaProg
import Derived.Below
import Derived.Deep.Draws
import Derived.Deep.AppendLies
import Derived.Maps.AppendAt
import Derived.OwnWalk
import Derived.Laws.BytesArg
import Derived.Laws.MakeOwn
import Derived.Laws.OwnMore
import Derived.Deep.OwnRows
import Derived.Tactics
import Derived.Lib.ConvBytes
import Derived.Laws.Slices
import Derived.WalkKit
import Derived.KernelRfl
import Derived.RowKit3
import Derived.Deep.LoopGhost
import Derived.Deep.QuietTactic
import Derived.BigQuiet
import Derived.WideLaws
import Derived.Deep.DeepCutAuto
import Derived.Deep.CutBlock
import Derived.Deep.RegionHeld3
import Derived.Laws.Rows
import Derived.Lib.AppendStr
import Derived.ArgAppend
import Derived.Laws.IdiomCopy
import Derived.OrdersHeld
import Derived.Laws.BitsLemmas
import Derived.RowKit
import Derived.Test.YtnajdnhgoakgaaaWWords
import Derived.Test.YtnajdnhgoakgaaaWLast
import Derived.Test.YtnajdnhgoakgaaaWTab
import Derived.Test.YtnajdnhgoakgaaaWFour
import Derived.Test.YtnajdnhgoakgaaaWQPut
import Derived.Test.YtnajdnhgoakgaaaWApart
import Derived.Test.YtnajdnhgoakgaaaWArr
import Derived.Test.YtnajdnhgoakgaaaWZeros
import Derived.Test.YtnajdnhgoakgaaaWFoot
import Derived.Test.YtnajdnhgoakgaaaWKept
import Derived.Test.YtnajdnhgoakgaaaWShare
import Derived.Test.YtnajdnhgoakgaaaWN
import Derived.Test.YtnajdnhgoakgaaaWFootNe
import Derived.Test.YtnajdnhgoakgaaaWAt
import Derived.Test.YtnajdnhgoakgaaaWEqStruct
import Derived.Test.YtnajdnhgoakgaaaWRepsOne
import Derived.Test.YtnajdnhgoakgaaaWInv
import Derived.Test.YtnajdnhgoakgaaaWInvWords
import Derived.Test.YtnajdnhgoakgaaaWGuard
import Derived.Test.YtnajdnhgoakgaaaWNEv
import Derived.Test.YtnajdnhgoakgaaaWMore
namespace Go.Proofs.Ytnajdnhgoakgaaa.PBlk
open Go.RowKit Go.Proofs.YtnajdnhgoakgaaaW.PrintWords Go.Proofs.YtnajdnhgoakgaaaW.PrintLast Go.Proofs.YtnajdnhgoakgaaaW.PrintMore
attribute [local go_sem] max2_int min2_int max_two min_two max_three min_three max_four min_four   -- for this text's walks alone
set_option linter.unusedVariables false
set_option linter.unusedSimpArgs false



def errW : Option Int → Value
  | none => .nilIface
  | some c => .iface 0 (.int .i64 c)
theorem errW_none : errW none = .nilIface := rfl
theorem errW_some (c : Int) : errW (some c) = .iface 0 (.int .i64 c) := rfl

theorem info5 : (Try.prog.info? 5).map (fun i => (i.zero, i.size, i.bytes)) = some (some (.int .u8 0), 1, 1) := by kernel_rfl
theorem info9 : (Try.prog.info? 9).map (fun i => (i.zero, i.size, i.bytes)) = some (some (.string ⟨#[]⟩), 1, 16) := by kernel_rfl
-- the values' own types

end Go.Proofs.Ytnajdnhgoakgaaa.PBlk
