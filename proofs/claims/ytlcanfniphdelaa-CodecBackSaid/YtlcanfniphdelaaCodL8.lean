/- The law CodecBack, of a row that came in. -/
import Derived.Test.YtlcanfniphdelaaCodL7
namespace Go.Proofs.Ytlcanfniphdelaa.Cod
open Go.RowKit Go.Proofs.YtlcanfniphdelaaW.PrintWords Go.Proofs.Ytlcanfniphdelaa.Mem Go.Proofs.Ytlcanfniphdelaa.Open
section
variable {w : World}
theorem back_row {H : Type} {enc : TypeId × Value → H} {base : Nat} {held : Bool} {B : Option Addr} {m d : Nat} {dd : DataW H} {p : List MemPlace} (hB : DataW.Trod enc Try.prog w base (fun _ => true) held 22 (.slice B m d) dd p) :
    Calls Try.prog 3 #[.slice B m d] w fun e w' => e = .returned (.bool true) ∧ Below w.heap.size w w' := by
  obtain ⟨l, e1, e2, e3, e4⟩ := open_parts Try.underlying22 Try.underlying29 (by kernel_rfl) ⟨rfl, rfl, rfl⟩ rfl rfl rfl Try.underlying3 Try.underlying26 Try.underlying27 Try.underlying5 ⟨by kernel_rfl, by kernel_rfl, by kernel_rfl, by kernel_rfl⟩ hB
  exact back_law B m d l e1 e2 e4
end
end Go.Proofs.Ytlcanfniphdelaa.Cod
