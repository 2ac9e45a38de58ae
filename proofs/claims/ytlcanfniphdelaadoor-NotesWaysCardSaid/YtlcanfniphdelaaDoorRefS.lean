/- Which fields a kind has, by the document: the bits of the table. -/
import Derived.Test.YtlcanfniphdelaaDoorPut
namespace Go.Proofs.YtlcanfniphdelaaDoor.Not
open Go.RowKit Go.Proofs.YtlcanfniphdelaaDoorW.PrintWords Go.Proofs.YtlcanfniphdelaaDoor.Mem Go.Proofs.YtlcanfniphdelaaDoor.Cod Go.Proofs.YtlcanfniphdelaaDoor.PCod
set_option linter.unusedVariables false
section
variable {w : World}
theorem pack_k : ∀ k : Nat, k < 15 → 1 ≤ k → baileeref20_pack.f k = some (fbit (fld k) 1) := by decide +kernel
theorem number_k : ∀ k : Nat, k < 15 → 1 ≤ k → baileeref20_number.f 20 k = some (fbit (fld k) 2) := by decide +kernel
theorem nonce_k : ∀ k : Nat, k < 15 → 1 ≤ k → baileeref20_nonce.f k = some (fbit (fld k) 4) := by decide +kernel
theorem bytes_k : ∀ k : Nat, k < 15 → 1 ≤ k → baileeref20_bytes.f 20 k = some (fbit (fld k) 8) := by decide +kernel
theorem way_k : ∀ k : Nat, k < 15 → 1 ≤ k → baileeref20_way.f k = some (fbit (fld k) 16) := by decide +kernel
variable {k : Nat} (h1 : 1 ≤ k) (h2 : k ≤ 14)
include h1 h2
theorem r_pack : Calls Tryd.prog 22 #[.int .i64 k] w fun e w' => e = .returned (.bool (fbit (fld k) 1)) ∧ Below w.heap.size w w' := (baileeref20_pack.calls k _ w (pack_k k (by omega) h1)).mono fun e w' h => ⟨h.1, h.2.below⟩
theorem r_number : Calls Tryd.prog 23 #[.int .i64 k] w fun e w' => e = .returned (.bool (fbit (fld k) 2)) ∧ Below w.heap.size w w' := baileeref20_number.calls 20 k _ w (number_k k (by omega) h1)
theorem r_nonce : Calls Tryd.prog 24 #[.int .i64 k] w fun e w' => e = .returned (.bool (fbit (fld k) 4)) ∧ Below w.heap.size w w' := (baileeref20_nonce.calls k _ w (nonce_k k (by omega) h1)).mono fun e w' h => ⟨h.1, h.2.below⟩
theorem r_bytes : Calls Tryd.prog 25 #[.int .i64 k] w fun e w' => e = .returned (.bool (fbit (fld k) 8)) ∧ Below w.heap.size w w' := baileeref20_bytes.calls 20 k _ w (bytes_k k (by omega) h1)
theorem r_way : Calls Tryd.prog 27 #[.int .i64 k] w fun e w' => e = .returned (.bool (fbit (fld k) 16)) ∧ Below w.heap.size w w' := (baileeref20_way.calls k _ w (way_k k (by omega) h1)).mono fun e w' h => ⟨h.1, h.2.below⟩
omit h1 h2 in
theorem r_most (k : Int) : Calls Tryd.prog 31 #[.int .i64 k] w fun e w' => e = .returned (.int .i64 (mostOf k)) ∧ Below w.heap.size w w' := (baileeref20_most.calls k _ w (by unfold baileeref20_most.f mostOf; split <;> rfl)).mono fun e w' h => ⟨h.1, h.2.below⟩
end
end Go.Proofs.YtlcanfniphdelaaDoor.Not
