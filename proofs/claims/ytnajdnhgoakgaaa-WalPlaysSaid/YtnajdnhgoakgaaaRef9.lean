/- The document's log: what its small functions answer. -/
import Derived.Test.YtnajdnhgoakgaaaWalI
import Derived.Test.YtnajdnhgoakgaaaPWalx2
namespace Go.Proofs.Ytnajdnhgoakgaaa.Wal
open Go.RowKit Go.Proofs.YtnajdnhgoakgaaaW.PrintWords Go.Proofs.Ytnajdnhgoakgaaa.Mem Go.Proofs.Ytnajdnhgoakgaaa.PWal Go.Proofs.Ytnajdnhgoakgaaa.Blk
set_option linter.unusedVariables false
set_option linter.unusedSimpArgs false
set_option maxRecDepth 8000
theorem str_app (a b : List Int) : strOfNums a ++ strOfNums b = strOfNums (a ++ b) := by
  apply ByteArray.ext
  apply Array.ext'
  rw [ByteArray.data_append, Array.toList_append, strOfNums_data, strOfNums_data, strOfNums_data, List.map_append]
theorem str_nil : (⟨#[]⟩ : ByteArray) = strOfNums [] := rfl
theorem str_zero : (⟨#[0]⟩ : ByteArray) = strOfNums [0] := by kernel_rfl
theorem toList_inj {a b : ByteArray} : a.toList = b.toList ↔ a = b := by
  constructor
  · intro h
    rw [← str_bytesOf a, ← str_bytesOf b]
    congr 1
    unfold bytesOf
    rw [← ByteArray.toList_eq, ← ByteArray.toList_eq, h]
  · intro h; rw [h]
/-! ### Number -/
theorem number_step (k : Nat) {x : Int} (h0 : 0 ≤ x) (h1 : x ≤ 18446744073709551615) (i : Nat) (hi : i < 8) (l : List Int) (hl : l.length ≤ 8) :
    baileeref09_Number.l0 (k + 1) x (strOfNums l) i = baileeref09_Number.l0 k (x / 256) (strOfNums (x % 256 :: l)) ((i + 1 : Nat) : Int) := by
  show (if (i : Int) < 8 then _ else _) = _
  rw [if_pos (by omega), Option.bind_some, if_pos (by rw [str_size, str_size]; show 1 + l.length ≤ _; omega), str_app, Int.tdiv_eq_ediv_of_nonneg h0, Int.tmod_eq_emod_of_nonneg h0, wraps_u64 _ (by omega) (by omega), show wrap64 ((i : Int) + 1) = ((i + 1 : Nat) : Int) from (IntWalk.wrap64_in _ ⟨by omega, by omega⟩).trans (by omega), show x % 256 % 256 = x % 256 by omega]
  rfl
theorem number_f (k : Nat) {n : Int} (h0 : 0 ≤ n) (h1 : n ≤ 18446744073709551615) : baileeref09_Number.f (k + 9) n = some (strOfNums (num8 n)) := by
  unfold baileeref09_Number.f
  rw [str_nil]
  have e0 := number_step (k + 8) h0 h1 0 (by omega) [] (by decide)
  have e1 := number_step (k + 7) (x := n / 256) (by omega) (by omega) 1 (by omega) [n % 256] (by simp)
  have e2 := number_step (k + 6) (x := n / 256 / 256) (by omega) (by omega) 2 (by omega) [n / 256 % 256, n % 256] (by simp)
  have e3 := number_step (k + 5) (x := n / 256 / 256 / 256) (by omega) (by omega) 3 (by omega) [n / 256 / 256 % 256, n / 256 % 256, n % 256] (by simp)
  have e4 := number_step (k + 4) (x := n / 256 / 256 / 256 / 256) (by omega) (by omega) 4 (by omega) [n / 256 / 256 / 256 % 256, n / 256 / 256 % 256, n / 256 % 256, n % 256] (by simp)
  have e5 := number_step (k + 3) (x := n / 256 / 256 / 256 / 256 / 256) (by omega) (by omega) 5 (by omega) [n / 256 / 256 / 256 / 256 % 256, n / 256 / 256 / 256 % 256, n / 256 / 256 % 256, n / 256 % 256, n % 256] (by simp)
  have e6 := number_step (k + 2) (x := n / 256 / 256 / 256 / 256 / 256 / 256) (by omega) (by omega) 6 (by omega) [n / 256 / 256 / 256 / 256 / 256 % 256, n / 256 / 256 / 256 / 256 % 256, n / 256 / 256 / 256 % 256, n / 256 / 256 % 256, n / 256 % 256, n % 256] (by simp)
  have e7 := number_step (k + 1) (x := n / 256 / 256 / 256 / 256 / 256 / 256 / 256) (by omega) (by omega) 7 (by omega) [n / 256 / 256 / 256 / 256 / 256 / 256 % 256, n / 256 / 256 / 256 / 256 / 256 % 256, n / 256 / 256 / 256 / 256 % 256, n / 256 / 256 / 256 % 256, n / 256 / 256 % 256, n / 256 % 256, n % 256] (by simp)
  refine (e0.trans (e1.trans (e2.trans (e3.trans (e4.trans (e5.trans (e6.trans e7))))))).trans ?_
  show (if (8 : Int) < 8 then _ else _) = _
  rw [if_neg (by omega)]
  congr 2
  unfold num8
  simp only [List.cons.injEq, and_true]
  omega
/-! ### Value -/
theorem value_l0 (X : ByteArray) (hs : X.size ≤ 8) : ∀ (n i : Nat) (a : Int) (k : Nat), i + n = X.size → n < k → 0 ≤ a → a < 256 ^ i → baileeref09_Value.l0 k X a i = some (((bytesOf X).drop i).foldl (fun a c => a * 256 + c) a) := by
  have hl : (bytesOf X).length = X.size := bytesOf_length X
  intro n
  induction n with
  | zero =>
    intro i a k hi hk h0 h1
    obtain ⟨k', rfl⟩ : ∃ k', k = k' + 1 := ⟨k - 1, by omega⟩
    unfold baileeref09_Value.l0
    rw [if_neg (by omega), List.drop_of_length_le (by omega)]
    rfl
  | succ n ih =>
    intro i a k hi hk h0 h1
    obtain ⟨k', rfl⟩ : ∃ k', k = k' + 1 := ⟨k - 1, by omega⟩
    have hlt : i < (bytesOf X).length := by omega
    have hd : (bytesOf X).drop i = bt X i :: (bytesOf X).drop (i + 1) := by
      rw [List.drop_eq_getElem_cons hlt, ← rd_bytesOf]
      unfold rd
      rw [Int.toNat_natCast, List.getD_eq_getElem?_getD, List.getElem?_eq_getElem hlt]; rfl
    have hc := bt_range X i
    have hp : (256 : Int) ^ i ≤ 72057594037927936 := by
      exact (by decide : ∀ i : Nat, i ≤ 7 → (256 : Int) ^ i ≤ 72057594037927936) i (by omega)
    unfold baileeref09_Value.l0
    rw [if_pos (by omega), if_pos (by omega), wraps_u64 (a * 256) (by omega) (by omega), wraps_u64 (bt X i) (by omega) (by omega), wraps_u64 (a * 256 + bt X i) (by omega) (by omega), show wrap64 ((i : Int) + 1) = ((i + 1 : Nat) : Int) from (IntWalk.wrap64_in _ ⟨by omega, by omega⟩).trans (by omega), hd, List.foldl_cons]
    exact ih (i + 1) _ k' (by omega) (by omega) (by omega) (by rw [Int.pow_succ]; omega)
theorem value_f (k : Nat) (X : ByteArray) (hs : X.size ≤ 8) : baileeref09_Value.f (k + 9) X = some (valB (bytesOf X)) := by
  have h := value_l0 X hs X.size 0 0 (k + 9) (by omega) (by omega) (by omega) (by decide)
  rw [List.drop_zero] at h
  exact h
/-! ### Block -/
theorem block_l0 {n : Int} (h0 : 0 ≤ n) (h1 : n ≤ 18446744073709551615) : ∀ (d k : Nat) (l : List Int), l.length + d = 120 → baileeref09_Block.l0 (k + d + 10) n (strOfNums l) = some (strOfNums (l ++ List.replicate d 0 ++ num8 n)) := by
  intro d
  induction d with
  | zero =>
    intro k l hl
    show (if ((strOfNums l).size : Int) < 120 then _ else _) = _
    rw [str_size, if_neg (by omega), number_f k h0 h1, Option.bind_some, if_pos (by rw [str_size, num8_len]; omega), str_app]
    rw [List.replicate_zero, List.append_nil]
  | succ d ih =>
    intro k l hl
    have h := ih k (l ++ [0]) (by rw [List.length_append, List.length_singleton]; omega)
    show (if ((strOfNums l).size : Int) < 120 then _ else _) = _
    rw [str_size, if_pos (by omega), if_pos (by omega), str_zero, str_app]
    show baileeref09_Block.l0 (k + d + 10) n _ = _
    rw [h, List.replicate_succ, List.append_assoc l [0]]
    rfl
theorem block_f (k : Nat) {n : Int} (h0 : 0 ≤ n) (h1 : n ≤ 18446744073709551615) (P : ByteArray) (hP : P.size ≤ 110) (e : Bool) : baileeref09_Block.f (k + 130) n P e = some (strOfNums (laidM n (bytesOf P) e)) := by
  have hp : (bytesOf P).length = P.size := bytesOf_length P
  have key : ∀ eb : Int, baileeref09_Block.j0 (k + 130) n P eb = some (strOfNums (num8 n ++ [(P.size : Int), eb] ++ (bytesOf P ++ List.replicate (110 - P.size) 0) ++ num8 n)) := by
    intro eb
    show (baileeref09_Number.f (k + 120 + 9) n).bind _ = _
    rw [number_f (k + 120) h0 h1, Option.bind_some, Option.bind_some, show ((P.size : Int)) % 256 = P.size by omega, if_pos (by rw [str_size, str_size, num8_len]; show 8 + 2 ≤ _; omega), str_app, if_pos (by rw [str_size, List.length_append, num8_len]; show 8 + 2 + P.size ≤ _; omega)]
    have h := block_l0 (n := n) h0 h1 (110 - P.size) (k + P.size + 9) (num8 n ++ [(P.size : Int), eb] ++ bytesOf P) (by rw [List.length_append, List.length_append, num8_len, hp]; show 8 + 2 + P.size + (110 - P.size) = 120; omega)
    rw [show k + P.size + 9 + (110 - P.size) + 10 = k + 129 by omega] at h
    rw [← str_app, str_bytesOf] at h
    rw [h, List.append_assoc (num8 n ++ [(P.size : Int), eb])]
  unfold baileeref09_Block.f laidM ebit
  cases e
  · rw [if_neg (by decide), key, hp]; rfl
  · rw [if_pos rfl, key, hp]; rfl
theorem blocks_l0 : ∀ (d k : Nat) (n x : Int), 1 ≤ x → n ≤ 100000 → x ≤ 1000 → (n - 110 * x ≤ 110 * d) → d < k → ∃ r, baileeref09_Blocks.l0 k n x = some r ∧ (r = x ∨ (x < r ∧ 110 * (r - 1) < n)) ∧ n ≤ 110 * r
  | 0, k, n, x, h1, h2, h3, h4, h5 => by
    obtain ⟨k', rfl⟩ : ∃ k', k = k' + 1 := ⟨k - 1, by omega⟩
    refine ⟨x, ?_, .inl rfl, by omega⟩
    unfold baileeref09_Blocks.l0
    rw [IntWalk.wrap64_in (110 * x) ⟨by omega, by omega⟩, if_neg (by omega)]
  | d + 1, k, n, x, h1, h2, h3, h4, h5 => by
    obtain ⟨k', rfl⟩ : ∃ k', k = k' + 1 := ⟨k - 1, by omega⟩
    unfold baileeref09_Blocks.l0
    rw [IntWalk.wrap64_in (110 * x) ⟨by omega, by omega⟩]
    by_cases hgt : n > 110 * x
    · rw [if_pos hgt, IntWalk.wrap64_in (x + 1) ⟨by omega, by omega⟩]
      obtain ⟨r, hr, hc, hn⟩ := blocks_l0 d k' n (x + 1) (by omega) h2 (by omega) (by omega) (by omega)
      exact ⟨r, hr, .inr (by omega), hn⟩
    · rw [if_neg hgt]
      exact ⟨x, rfl, .inl rfl, by omega⟩
theorem blocks_f (n : Int) (h : n ≤ 100000) : baileeref09_Blocks.f 1000 n = some (blocksM n) := by
  obtain ⟨r, hr, hc, hn⟩ := blocks_l0 910 1000 n 1 (by omega) h (by omega) (by omega) (by omega)
  have e : r = blocksM n := by unfold blocksM; split <;> omega
  rw [← e]
  exact hr
/-! ### Read -/
theorem sub_bytes (X : ByteArray) (a b : Nat) : bytesOf (X.extract a b) = ((bytesOf X).take b).drop a := bytesOf_extract X a b
theorem read_f (k : Nat) (X : ByteArray) : baileeref09_Read.f (k + 140) X = some ((readM (bytesOf X)).1, strOfNums (readM (bytesOf X)).2.1, (readM (bytesOf X)).2.2) := by
  have hl : (bytesOf X).length = X.size := bytesOf_length X
  have hy := byt_bytesOf X
  have hno : ∀ {x : Bool}, x = true → (¬ okB (bytesOf X)) → baileeref09_Read.j0 (k + 140) X x = some ((readM (bytesOf X)).1, strOfNums (readM (bytesOf X)).2.1, (readM (bytesOf X)).2.2) := by
    intro x hx ho
    rw [read_no ho]
    show (if x = true then _ else _) = _
    rw [if_pos hx]
    rfl
  unfold baileeref09_Read.f
  by_cases h128 : X.size = 128
  · have e8 : bt X 8 = b8 (bytesOf X) := by rw [← rd_bytesOf]; rfl
    have e9 : bt X 9 = (bytesOf X).getD 9 0 := by rw [← rd_bytesOf]; rfl
    have r8 := bt_range X 8
    have r9 := bt_range X 9
    rw [if_pos (by omega), if_pos (by omega)]
    by_cases h110 : bt X 8 > 110
    · rw [if_pos h110]
      exact hno rfl (fun ho => by have := ho.2.1; omega)
    · rw [if_neg h110, if_pos (by omega)]
      by_cases h1 : bt X 9 > 1
      · refine hno (decide_eq_true h1) (fun ho => ?_)
        have h2 := congrArg (fun l => l.getD 9 0) ho.2.2.1
        have h3 : (laidM (numOf (bytesOf X)) (partOf (bytesOf X)) (b9 (bytesOf X))).getD 9 0 = ebit (b9 (bytesOf X)) := rfl
        have h4 : ebit (b9 (bytesOf X)) = bt X 9 := by rw [e9]; exact h3.symm.trans h2
        have h5 : ebit (b9 (bytesOf X)) ≤ 1 := by unfold ebit; split <;> omega
        omega
      · have hd : decide (bt X 9 > 1) = false := decide_eq_false h1
        rw [hd]
        have hw1 : wrap64 (bt X 8) = bt X 8 := IntWalk.wrap64_in _ ⟨by omega, by omega⟩
        have hw2 : wrap64 (10 + bt X 8) = 10 + bt X 8 := IntWalk.wrap64_in _ ⟨by omega, by omega⟩
        have hv : bytesOf (X.extract 0 8) = (bytesOf X).take 8 := by rw [sub_bytes, List.drop_zero]
        have hv8 : (X.extract 0 8).size ≤ 8 := by rw [ByteArray.size_extract]; omega
        have hpt : bytesOf (X.extract 10 (10 + bt X 8).toNat) = partOf (bytesOf X) := by
          rw [sub_bytes, e8]
          unfold partOf
          rw [show (10 + b8 (bytesOf X)).toNat = 10 + (b8 (bytesOf X)).toNat by omega, List.drop_take, Nat.add_sub_cancel_left]
        have hps : (X.extract 10 (10 + bt X 8).toNat).size = (bt X 8).toNat := by rw [ByteArray.size_extract]; omega
        have hn := row_val (b := bytesOf X) ⟨by omega, hy⟩
        have hb9 : (bt X 9 == 1) = b9 (bytesOf X) := by rw [e9]; rfl
        have hj : baileeref09_Read.j0 (k + 140) X false = (if (strOfNums (laidM (numOf (bytesOf X)) (partOf (bytesOf X)) (b9 (bytesOf X)))).toList = X.toList then (if (bt X 9) = 0 then (if ((X.extract 10 (10 + bt X 8).toNat).size : Int) < 110 then some (0, (⟨#[]⟩ : ByteArray), false) else some (numOf (bytesOf X), X.extract 10 (10 + bt X 8).toNat, (bt X 9 == 1))) else some (numOf (bytesOf X), X.extract 10 (10 + bt X 8).toNat, (bt X 9 == 1))) else some (0, (⟨#[]⟩ : ByteArray), false)) := by
          rw [show k + 140 = (k + 139) + 1 from rfl, baileeref09_Read.j0]
          rw [if_neg (by decide), if_pos (by omega), if_pos (by omega), value_f (k + 130) _ hv8, Option.bind_some, hw1, hw2, if_pos (by omega), if_pos (by omega), if_pos (by omega), if_pos (by omega), hv, block_f (k + 9) hn.1.1 hn.1.2 _ (by omega), Option.bind_some, hpt, hb9]
          rfl
        rw [hj]
        have hbl : Byt (laidM (numOf (bytesOf X)) (partOf (bytesOf X)) (b9 (bytesOf X))) := laidM_byt _ (byt_part hy) (by have := part_len hy (by omega) (show b8 (bytesOf X) ≤ 110 by omega); omega)
        by_cases heq : (strOfNums (laidM (numOf (bytesOf X)) (partOf (bytesOf X)) (b9 (bytesOf X)))).toList = X.toList
        · rw [if_pos heq]
          have heq2 : laidM (numOf (bytesOf X)) (partOf (bytesOf X)) (b9 (bytesOf X)) = bytesOf X := by
            have h2 := congrArg bytesOf (toList_inj.1 heq)
            rw [bytesOf_str hbl] at h2
            exact h2
          have hyes : (b9 (bytesOf X) = true ∨ b8 (bytesOf X) = 110) → some (numOf (bytesOf X), X.extract 10 (10 + bt X 8).toNat, (bt X 9 == 1)) = some ((readM (bytesOf X)).1, strOfNums (readM (bytesOf X)).2.1, (readM (bytesOf X)).2.2) := fun h => by
            rw [read_yes ⟨by omega, by omega, heq2, h⟩, hb9]
            show some (_, _, _) = some (numOf (bytesOf X), strOfNums (partOf (bytesOf X)), b9 (bytesOf X))
            rw [← hpt, str_bytesOf]
          by_cases h0 : bt X 9 = 0
          · have hb0 : b9 (bytesOf X) = false := by rw [← hb9, h0]; rfl
            rw [if_pos h0, hps]
            by_cases hlt : (((bt X 8).toNat : Nat) : Int) < 110
            · rw [if_pos hlt, read_no (fun ho => by rcases ho.2.2.2 with h | h; rw [hb0] at h; cases h; omega)]
              rfl
            · rw [if_neg hlt]
              exact hyes (.inr (by omega))
          · rw [if_neg h0]
            exact hyes (.inl (by rw [← hb9, show bt X 9 = 1 by omega]; rfl))
        · rw [if_neg heq, read_no (fun ho => heq (by rw [ho.2.2.1, str_bytesOf]))]
          rfl
  · rw [if_neg (by omega)]
    exact hno rfl (fun ho => by have := ho.1; omega)
section
variable {w : World}
theorem r9block_calls {n : Int} (h0 : 0 ≤ n) (h1 : n ≤ 18446744073709551615) (P : ByteArray) (hP : P.size ≤ 110) (e : Bool) : Calls Try.prog 38 #[.int .u64 n, .string P, .bool e] w fun x w' => x = .returned (.string (strOfNums (laidM n (bytesOf P) e))) ∧ Below w.heap.size w w' :=
  baileeref09_Block.calls 130 n P e _ w (block_f 0 h0 h1 P hP e)
theorem r9blocks_calls (n : Int) (h : n ≤ 100000) : Calls Try.prog 41 #[.int .i64 n] w fun x w' => x = .returned (.int .i64 (blocksM n)) ∧ Below w.heap.size w w' :=
  (baileeref09_Blocks.calls 1000 n _ w (blocks_f n h)).mono fun e w' h => ⟨h.1, h.2.below⟩
end
end Go.Proofs.Ytnajdnhgoakgaaa.Wal
