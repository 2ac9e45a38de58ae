/- The law WalPlays, of a script that came in. -/
import Derived.Test.YtnajdnhgoakgaaaLPlays
namespace Go.Proofs.Ytnajdnhgoakgaaa.Blk
open Go.RowKit Go.Proofs.YtnajdnhgoakgaaaW.PrintWords Go.Proofs.Ytnajdnhgoakgaaa.Mem Go.Proofs.Ytnajdnhgoakgaaa.Open
section
variable {w : World}
theorem plays9_row {H : Type} {enc : TypeId × Value → H} {base : Nat} {held : Bool} {B : Option Addr} {m d : Nat} {dd : DataW H} {p : List MemPlace} (fr n : Int) {l : Int} (hl : 0 ≤ l ∧ l ≤ 18446744073709551615) (hB : DataW.Trod enc Try.prog w base (fun _ => true) held 73 (.slice B m d) dd p) :
    Calls Try.prog 12 #[.int .i64 fr, .int .i64 n, .int .u64 l, .slice B m d] w fun e w' => e = .returned (.bool true) ∧ Below w.heap.size w w' := by
  obtain ⟨s, e1, e2, _, e4⟩ := open_acts9 Try.underlying73 Try.underlying79 (by kernel_rfl) ⟨rfl, rfl, rfl, rfl, rfl⟩ ⟨rfl, rfl, rfl, rfl, rfl⟩ Try.underlying3 Try.underlying35 Try.underlying5 ⟨by kernel_rfl, by kernel_rfl, by kernel_rfl⟩ hB
  exact plays9_law fr n l hl B m d s e1 e2 e4
end
end Go.Proofs.Ytnajdnhgoakgaaa.Blk
