/- The codec: what is put is read, whole and cut (plain). -/
import Derived.Test.YtlcanfniphdelaaDoorCodA
namespace Go.Proofs.YtlcanfniphdelaaDoor.Cod
open Go.RowKit Go.Proofs.YtlcanfniphdelaaDoorW.PrintWords Go.Proofs.YtlcanfniphdelaaDoorW.PrintLast Go.Proofs.YtlcanfniphdelaaDoorW.PrintMore Go.Proofs.YtlcanfniphdelaaDoor.Mem Go.Proofs.YtlcanfniphdelaaDoor.PCod Go.Proofs.YtlcanfniphdelaaDoor.Conv
set_option linter.unusedVariables false
set_option linter.unusedSimpArgs false
section
variable {w : World} {R : RM} {b r xs : List Int}
theorem rd_put : ∀ (k i : Nat) (x y : Int) (r : List Int), i + k = 9 → 0 ≤ y → 0 ≤ x → y < 128 ^ (k + 1) → y * 128 ^ i ≤ 18446744073709551615 → (0 < i → 0 < y) → rdNum i x (128 ^ i) (putN k y ++ r) = (r, 0, x + 128 ^ i * y) := by
  intro k
  induction k with
  | zero =>
    intro i x y r hik h0 hx h1 h9 hp
    obtain rfl : i = 9 := by omega
    have e9 : (128 : Int) ^ 9 = 9223372036854775808 := by decide
    have hy : y ≤ 1 := by rw [e9] at h9; omega
    show rdNum 9 x (128 ^ 9) (y :: r) = _
    unfold rdNum
    rw [if_neg (by omega), if_pos (by omega), show y % 128 = y by omega]
  | succ k ih =>
    intro i x y r hik h0 hx h1 h9 hp
    by_cases h : y < 128
    · rw [putN_small _ h]
      show rdNum i x (128 ^ i) (y :: r) = _
      unfold rdNum
      rw [if_neg (by omega), if_pos h, show y % 128 = y by omega]
    · rw [putN_great _ h]
      show rdNum i x (128 ^ i) ((y % 128 + 128) :: (putN k (y / 128) ++ r)) = _
      unfold rdNum
      rw [pow_128] at h1
      have hp128 : 0 ≤ (128 : Int) ^ i := by have := (pow_le i (by omega)).2; omega
      rw [if_neg (by omega), if_neg (by omega), show (y % 128 + 128) % 128 = y % 128 by omega, ← pow_128,
        ih (i + 1) _ (y / 128) r (by omega) (by omega) (Int.add_nonneg hx (Int.mul_nonneg hp128 (by omega))) (by omega) ?_ (by omega)]
      · congr 2
        rw [pow_128, Int.add_assoc, Int.mul_assoc, ← Int.mul_add]
        congr 2
        omega
      · rw [pow_128, Int.mul_comm (128 ^ i) 128, ← Int.mul_assoc]
        exact Int.le_trans (Int.mul_le_mul_of_nonneg_right (by omega) hp128) h9
/-- Cut inside a number: short. -/
theorem rd_cut : ∀ (k i : Nat) (x y m : Int) (t : Nat), i + k ≤ 9 → 0 ≤ y → t < (putN k y).length → rdNum i x m ((putN k y).take t) = ([], 10, 0) := by
  intro k
  induction k with
  | zero =>
    intro i x y m t _ _ ht
    have : t = 0 := by simp [putN] at ht; omega
    subst this
    rfl
  | succ k ih =>
    intro i x y m t hik h0 ht
    by_cases h : y < 128
    · rw [putN_small _ h] at ht ⊢
      have : t = 0 := by simp at ht; omega
      subst this
      rfl
    · rw [putN_great _ h] at ht ⊢
      cases t with
      | zero => rfl
      | succ t =>
        simp only [List.length_cons] at ht
        rw [List.take_succ_cons]
        unfold rdNum
        rw [if_neg (by omega), if_neg (by omega)]
        exact ih (i + 1) _ (y / 128) _ t (by omega) (by omega) (by omega)
theorem RM.uint_0 (b : List Int) : (⟨b, 0⟩ : RM).uint = (⟨(rdNum 0 0 1 b).1, (rdNum 0 0 1 b).2.1⟩, (rdNum 0 0 1 b).2.2) := by unfold RM.uint; rw [if_neg (by simp)]
theorem uint_put {y : Int} (h0 : 0 ≤ y) (h1 : y < 18446744073709551616) (r : List Int) : (⟨putNum y ++ r, 0⟩ : RM).uint = (⟨r, 0⟩, y) := by
  have hp : (128 : Int) ^ (9 + 1) = 1180591620717411303424 := by decide
  have h := rd_put 9 0 0 y r (by omega) h0 (by omega) (by omega) (by rw [Int.pow_zero]; omega) (fun h => by omega)
  rw [RM.uint_0]
  have e : rdNum 0 0 1 (putNum y ++ r) = (r, 0, y) := by
    have h2 : rdNum 0 0 1 (putNum y ++ r) = (r, 0, 0 + 128 ^ 0 * y) := h
    rw [h2]; simp
  rw [e]
theorem uint_cut {y : Int} (h0 : 0 ≤ y) {t : Nat} (ht : t < (putNum y).length) : (⟨(putNum y).take t, 0⟩ : RM).uint = (⟨[], 10⟩, 0) := by
  have e : rdNum 0 0 1 ((putNum y).take t) = ([], 10, 0) := rd_cut 9 0 0 y 1 t (by omega) h0 ht
  rw [RM.uint_0, e]
/-- Numbers, one behind the other. -/
def putAll (l : List Int) : List Int := (l.map putNum).flatten
theorem putAll_snoc (l : List Int) (y : Int) : putAll (l ++ [y]) = putAll l ++ putNum y := by simp [putAll]
theorem putAll_cons (l : List Int) (y : Int) : putAll (y :: l) = putNum y ++ putAll l := by simp [putAll]
theorem putAll_len (l : List Int) : (putAll l).length ≤ l.length * 10 := by
  induction l with
  | nil => simp [putAll]
  | cons y l ih => rw [putAll_cons, List.length_append, List.length_cons]; have := (putNum_len y).1; omega
theorem putAll_byt {l : List Int} (h : ∀ y ∈ l, 0 ≤ y ∧ y < 18446744073709551616) : Byt (putAll l) := by
  intro x hx
  unfold putAll at hx
  rw [List.mem_flatten] at hx
  obtain ⟨s, hs, hx⟩ := hx
  obtain ⟨y, hy, rfl⟩ := List.mem_map.1 hs
  exact putNum_byt (h y hy).1 (h y hy).2 x hx
theorem take_snoc {l : List Int} {i : Nat} (hi : i < l.length) : l.take (i + 1) = l.take i ++ [l.getD i 0] := by
  rw [List.take_add_one, List.getD_eq_getElem?_getD, List.getElem?_eq_getElem hi]
  rfl
theorem drop_cons {l : List Int} {i : Nat} (hi : i < l.length) : l.drop i = l.getD i 0 :: l.drop (i + 1) := by
  rw [List.drop_eq_getElem_cons hi, List.getD_eq_getElem?_getD, List.getElem?_eq_getElem hi]
  rfl
/-- What is left of a row of numbers that was cut, behind some of them. -/
def restOf (l : List Int) (k i : Nat) : List Int := (putAll (l.drop i)).take (k - (putAll (l.take i)).length)
theorem rest_0 (l : List Int) (k : Nat) : restOf l k 0 = (putAll l).take k := by
  unfold restOf
  rw [List.drop_zero, List.take_zero]
  rfl
theorem rest_whole {l : List Int} {k i : Nat} (hi : i < l.length) (hb : ∀ y ∈ l, 0 ≤ y ∧ y < 18446744073709551616) (hk : (putAll (l.take (i + 1))).length ≤ k) :
    (⟨restOf l k i, 0⟩ : RM).uint = (⟨restOf l k (i + 1), 0⟩, l.getD i 0) := by
  have hy : l.getD i 0 ∈ l := by rw [List.getD_eq_getElem?_getD, List.getElem?_eq_getElem hi]; exact List.getElem_mem hi
  have e : restOf l k i = putNum (l.getD i 0) ++ restOf l k (i + 1) := by
    unfold restOf
    rw [take_snoc hi, putAll_snoc, List.length_append] at hk ⊢
    rw [drop_cons hi, putAll_cons, List.take_append, List.take_of_length_le (by omega)]
    congr 2
    omega
  rw [e]
  exact uint_put (hb _ hy).1 (hb _ hy).2 _
theorem rest_cut {l : List Int} {k i : Nat} (hi : i < l.length) (hb : ∀ y ∈ l, 0 ≤ y ∧ y < 18446744073709551616) (hk0 : (putAll (l.take i)).length ≤ k) (hk : k < (putAll (l.take (i + 1))).length) :
    (⟨restOf l k i, 0⟩ : RM).uint = (⟨[], 10⟩, 0) := by
  have hy : l.getD i 0 ∈ l := by rw [List.getD_eq_getElem?_getD, List.getElem?_eq_getElem hi]; exact List.getElem_mem hi
  have e : restOf l k i = (putNum (l.getD i 0)).take (k - (putAll (l.take i)).length) := by
    unfold restOf
    rw [take_snoc hi, putAll_snoc, List.length_append] at hk
    rw [drop_cons hi, putAll_cons, List.take_append_of_le_length (by omega)]
  rw [e]
  refine uint_cut (hb _ hy).1 ?_
  rw [take_snoc hi, putAll_snoc, List.length_append] at hk
  omega
theorem rest_end (l : List Int) (k : Nat) : restOf l k l.length = [] := by
  unfold restOf
  rw [List.drop_length]
  simp [putAll]
end
end Go.Proofs.YtlcanfniphdelaaDoor.Cod
