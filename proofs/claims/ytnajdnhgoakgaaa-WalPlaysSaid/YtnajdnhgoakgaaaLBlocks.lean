/- The law WalBlocks. -/
import Derived.Test.YtnajdnhgoakgaaaAwk9
import Derived.Test.YtnajdnhgoakgaaaRef9
namespace Go.Proofs.Ytnajdnhgoakgaaa.Wal
open Go.RowKit Go.Proofs.YtnajdnhgoakgaaaW.PrintWords Go.Proofs.YtnajdnhgoakgaaaW.PrintLast Go.Proofs.YtnajdnhgoakgaaaW.PrintMore Go.Proofs.Ytnajdnhgoakgaaa.Mem Go.Proofs.Ytnajdnhgoakgaaa.PWal Go.Proofs.Ytnajdnhgoakgaaa.Blk
set_option linter.unusedVariables false
set_option linter.unusedSimpArgs false
set_option maxRecDepth 100000
set_option maxHeartbeats 8000000
section
variable {P : Program} {ops : Array Oper} {rest : List Oper} {o : Oper} {a : Act} {Q : Exit → Act → World → Prop}
end
/-- Some bytes, as the law has them: in a row of its own. -/
structure CAt (w wr : World) (g m c : Nat) (cb : List Int) : Prop where
  bl : Below w.heap.size w wr
  ms : m = cb.length
  mc : m ≤ c
  by_ : Byt cb
  ml : cb.length ≤ 200
  rd_ : Kd.C (Kd.int .u8) wr (some ⟨g, 0, none⟩) cb.length cb
section
variable {w : World}
def InR (w : World) (a : Option Addr) (len cap : Nat) (zs : List Int) : Prop :=
  (a = none ∧ len = 0 ∧ cap = 0 ∧ zs = []) ∨
  ∃ x, a = some x ∧ len ≤ cap ∧ cap ≤ maxLen ∧ zs.length = cap ∧ (∀ i, i < zs.length → w.cell? (x.add i) = some (.int .u8 (zs.getD i 0))) ∧ ∀ n ∈ zs, (Lit.int .u8 n).wf = true
end
end Go.Proofs.Ytnajdnhgoakgaaa.Wal
