/- The walk of the law CutterEnds, out of the printed contracts. -/
import Derived.Test.YtogbalmfojkgnaaCutLaws3
import Derived.Test.YtogbalmfojkgnaaPCutx7
namespace Go.Proofs.Ytogbalmfojkgnaa.CutWalk
open Go.RowKit Go.Proofs.Ytogbalmfojkgnaa.PCut Go.Proofs.YtogbalmfojkgnaaW.PrintWords Go.Proofs.YtogbalmfojkgnaaW.PrintLast Go.Proofs.YtogbalmfojkgnaaW.PrintMore
set_option linter.unusedVariables false
theorem ends (a0 : Option Addr) (len0 cap0 : Nat) (z0 : List Int) (x y z : Int) (w : World) (w0 : (a0 = none ∧ len0 = 0 ∧ cap0 = 0 ∧ z0 = []) ∨ ∃ x, a0 = some x ∧ len0 ≤ cap0 ∧ cap0 ≤ maxLen ∧ z0.length = cap0 ∧ (∀ i, i < z0.length → w.cell? (x.add i) = some (.int .u8 (z0.getD i 0))) ∧ ∀ n ∈ z0, (Lit.int .u8 n).wf = true) :
    Calls Try.prog 3 #[.slice a0 len0 cap0, .agg #[.int .i64 x, .int .i64 y, .int .i64 z]] w fun e w' => e = .returned (.bool true) ∧ Below w.heap.size w w' := by
  obtain ⟨l0, rfl, hr0, hm0, hw0, hc0⟩ := ReadsInt.ofRowC w0
  obtain ⟨k, h⟩ := CutPure.CutterEnds l0 x y z hw0
  exact baileelaw07_CutterEnds.calls k _ _ l0 x y z true w (Kd.C_of_reads (d := (0 : Int)) (h1 := fun _ => rfl) hr0) hc0 h
end Go.Proofs.Ytogbalmfojkgnaa.CutWalk
