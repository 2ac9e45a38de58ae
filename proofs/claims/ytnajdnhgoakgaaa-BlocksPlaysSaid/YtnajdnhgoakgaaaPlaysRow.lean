/- The law BlocksPlays, of a script that came in. -/
import Derived.Test.YtnajdnhgoakgaaaPlays
namespace Go.Proofs.Ytnajdnhgoakgaaa.Blk
open Go.RowKit Go.Proofs.YtnajdnhgoakgaaaW.PrintWords Go.Proofs.Ytnajdnhgoakgaaa.Mem Go.Proofs.Ytnajdnhgoakgaaa.Open
section
variable {w : World}
theorem plays_row {H : Type} {enc : TypeId × Value → H} {base : Nat} {spare : Nat → Bool} {held : Bool} {B : Option Addr} {m d : Nat} {dd : DataW H} {p : List MemPlace} {n : Int} (hn : (Lit.int .i64 n).wf = true) (hB : DataW.Trod enc Try.prog w base spare held 22 (.slice B m d) dd p) :
    Calls Try.prog 3 #[.int .i64 n, .slice B m d] w fun e w' => e = .returned (.bool true) ∧ Below w.heap.size w w' := by
  obtain ⟨l, e1, e2, e3, e4⟩ := open_acts Try.underlying22 Try.underlying34 (by kernel_rfl) ⟨rfl, rfl, rfl, rfl, rfl, rfl⟩ ⟨rfl, rfl, rfl, rfl, rfl, rfl⟩ Try.underlying3 Try.underlying5 (by kernel_rfl) (by kernel_rfl) hB
  exact plays_law n (i64_of_wf hn) B m d l e1 e2 e4
end
end Go.Proofs.Ytnajdnhgoakgaaa.Blk
