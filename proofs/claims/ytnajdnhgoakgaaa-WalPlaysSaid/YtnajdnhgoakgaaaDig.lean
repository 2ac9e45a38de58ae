/- wal's numbers: eight bytes, the highest first. -/
import Derived.Test.YtnajdnhgoakgaaaParts
import Derived.Test.YtnajdnhgoakgaaaPWalx1
namespace Go.Proofs.Ytnajdnhgoakgaaa.Wal
open Go.RowKit Go.Proofs.YtnajdnhgoakgaaaW.PrintWords Go.Proofs.YtnajdnhgoakgaaaW.PrintLast Go.Proofs.YtnajdnhgoakgaaaW.PrintMore Go.Proofs.Ytnajdnhgoakgaaa.Mem Go.Proofs.Ytnajdnhgoakgaaa.PWal
set_option linter.unusedVariables false
set_option linter.unusedSimpArgs false
set_option maxRecDepth 8000
set_option maxHeartbeats 4000000
/-- A number's eight bytes; the number of bytes. -/
def num8 (x : Int) : List Int := [x / 72057594037927936 % 256, x / 281474976710656 % 256, x / 1099511627776 % 256, x / 4294967296 % 256, x / 16777216 % 256, x / 65536 % 256, x / 256 % 256, x % 256]
def valB (xs : List Int) : Int := xs.foldl (fun a c => a * 256 + c) 0
theorem num8_len (x : Int) : (num8 x).length = 8 := rfl
theorem num8_byt (x : Int) : Byt (num8 x) := by
  intro y hy
  simp only [num8, List.mem_cons, List.not_mem_nil, or_false] at hy
  rcases hy with rfl | rfl | rfl | rfl | rfl | rfl | rfl | rfl <;> omega
theorem val_num8 {x : Int} (h0 : 0 ≤ x) (h1 : x ≤ 18446744073709551615) : valB (num8 x) = x := by
  unfold valB num8
  simp only [List.foldl_cons, List.foldl_nil]
  omega
theorem num8_val {xs : List Int} (hl : xs.length = 8) (hb : Byt xs) : num8 (valB xs) = xs ∧ 0 ≤ valB xs ∧ valB xs ≤ 18446744073709551615 := by
  match xs, hl with
  | [a, b, c, d, e, f, g, h], _ =>
    have ha := hb a (by simp); have hb' := hb b (by simp); have hc := hb c (by simp); have hd := hb d (by simp)
    have he := hb e (by simp); have hf := hb f (by simp); have hg := hb g (by simp); have hh := hb h (by simp)
    unfold valB num8
    simp only [List.foldl_cons, List.foldl_nil, List.cons.injEq, and_true]
    omega
theorem wraps_u64 (n : Int) (h0 : 0 ≤ n) (h1 : n < 2 ^ 64) : IntKind.u64.wrap n = n := by
  have e : IntKind.u64.wrap n = n % 18446744073709551616 := by simp [IntKind.wrap, IntKind.bits, IntKind.signed]
  rw [e]
  omega
theorem or_byte {a c : Int} (ha : 0 ≤ a) (ha1 : a ≤ 72057594037927935) (hc0 : 0 ≤ c) (hc1 : c ≤ 255) : Go.bits .or .u64 (IntKind.u64.wrap (a * 256)) (IntKind.u64.wrap c) = a * 256 + c := by
  rw [wraps_u64 _ (by omega) (by omega), wraps_u64 _ (by omega) (by omega)]
  exact bits_join .u64 64 (by decide) wraps_u64 8 _ _ (by omega) (by omega) (by omega) hc0 (by omega) (by omega)
theorem val_l0 : ∀ (n i : Nat) (xs : List Int) (a : Int) (k : Nat), Byt xs → xs.length ≤ 8 → i + n = xs.length → n < k → 0 ≤ a → a < 256 ^ i → wal_value.l0 k a xs (xs.length : Int) i = some ((xs.drop i).foldl (fun a c => a * 256 + c) a) := by
  intro n
  induction n with
  | zero =>
    intro i xs a k hb hl hi hk h0 h1
    obtain ⟨k', rfl⟩ : ∃ k', k = k' + 1 := ⟨k - 1, by omega⟩
    unfold wal_value.l0
    rw [if_neg (by omega), List.drop_of_length_le (by omega)]
    rfl
  | succ n ih =>
    intro i xs a k hb hl hi hk h0 h1
    obtain ⟨k', rfl⟩ : ∃ k', k = k' + 1 := ⟨k - 1, by omega⟩
    have hlt : i < xs.length := by omega
    have hd : xs.drop i = rd xs i :: xs.drop (i + 1) := by
      rw [List.drop_eq_getElem_cons hlt]
      unfold rd
      rw [Int.toNat_natCast, List.getD_eq_getElem?_getD, List.getElem?_eq_getElem hlt]; rfl
    have hc : 0 ≤ rd xs i ∧ rd xs i ≤ 255 := by
      have hm : rd xs i ∈ xs.drop i := by rw [hd]; exact List.mem_cons_self
      exact hb _ (List.mem_of_mem_drop hm)
    have hp : (256 : Int) ^ i ≤ 72057594037927936 := by
      exact (by decide : ∀ i : Nat, i ≤ 7 → (256 : Int) ^ i ≤ 72057594037927936) i (by omega)
    unfold wal_value.l0
    rw [if_pos (by omega), if_pos (by omega), if_pos (by omega), or_byte h0 (by omega) hc.1 hc.2, show wrap64 ((i : Int) + 1) = ((i + 1 : Nat) : Int) from (IntWalk.wrap64_in _ ⟨by omega, by omega⟩).trans (by omega), hd, List.foldl_cons]
    exact ih (i + 1) xs _ k' hb hl (by omega) (by omega) (by omega) (by rw [Int.pow_succ]; omega)
section
variable {w : World}
theorem value_calls {xs : List Int} (A : Option Addr) (c : Nat) (hr : Kd.C (Kd.int .u8) w A xs.length xs) (hc : xs.length ≤ c) (hb : Byt xs) (hl : xs.length ≤ 8) : Calls Try.prog 51 #[.slice A xs.length c] w fun e w' => e = .returned (.int .u64 (valB xs)) ∧ Below w.heap.size w w' := by
  have h := wal_value.calls 10 A c xs (valB xs) w hr hc (by
    have h := val_l0 xs.length 0 xs 0 10 hb hl (by omega) (by omega) (by omega) (by decide)
    rw [List.drop_zero] at h
    exact h)
  exact h.mono fun e w' h => ⟨h.1, h.2.below⟩
end
end Go.Proofs.Ytnajdnhgoakgaaa.Wal
