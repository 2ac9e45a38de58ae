/- The codec's reference: what is printed of it answers as the reader's and the writer's model. -/
import Derived.Test.YtgjdcdhfijkoiaaDoorCoA
import Derived.Test.YtgjdcdhfijkoiaaDoorPxC
import Derived.Test.YtgjdcdhfijkoiaaDoorWWa
import Derived.Lib.SlBytesConst
import Derived.ChangeKeysEq
section
namespace Go.Proofs.YtgjdcdhfijkoiaaDoor.Cod
open Go.RowKit Go.Proofs.YtgjdcdhfijkoiaaDoorW.PrintWords Go.Proofs.YtgjdcdhfijkoiaaDoorW.PrintLast Go.Proofs.YtgjdcdhfijkoiaaDoorW.PrintMore Go.Proofs.YtgjdcdhfijkoiaaDoor.Mem Go.Proofs.YtgjdcdhfijkoiaaDoor.PCod
set_option linter.unusedVariables false
set_option linter.unusedSimpArgs false
section
variable {w : World} {R : RM} {b r : List Int}
abbrev S (b : List Int) : ByteArray := strOfNums b
theorem S_size (b : List Int) : (S b).size = b.length := by
  show (S b).data.size = _
  rw [← Array.length_toList, strOfNums_data, List.length_map]
theorem S_ext (hb : Byt b) (i j : Nat) : (S b).extract i j = S ((b.take j).drop i) := by
  rw [← str_bytesOf ((S b).extract i j), bytesOf_extract, bytesOf_str hb]
theorem S_toList (b : List Int) : (S b).toList = [] ↔ b = [] := by
  rw [Lib.strOfNums_toList]
  unfold Lib.bytesOf
  rw [List.map_eq_nil_iff]
theorem S_bt {c : Int} (h : Byt (c :: r)) : bt (S (c :: r)) 0 = c := by
  have hc := h c List.mem_cons_self
  have hs : (0 : Int).toNat < (S (c :: r)).size := by rw [S_size]; simp
  rw [← bt_at _ 0 hs]
  have e : (S (c :: r)).data[0]? = some (UInt8.ofNat c.toNat) := by
    rw [← Array.getElem?_toList, strOfNums_data]
    rfl
  have e2 : (S (c :: r))[(0 : Int).toNat]'hs = UInt8.ofNat c.toNat := by
    have h3 : (S (c :: r)).data[0]? = some ((S (c :: r))[(0 : Int).toNat]'hs) := Array.getElem?_eq_getElem (by exact hs)
    rw [e] at h3
    exact (Option.some.inj h3).symm
  rw [e2, UInt8.toNat_ofNat']
  omega
theorem w64_small {n : Int} (h0 : -9223372036854775808 ≤ n) (h1 : n ≤ 9223372036854775807) : wrap64 n = n := IntWalk.wrap64_in n ⟨h0, h1⟩
theorem u64_small {n : Int} (h0 : 0 ≤ n) (h1 : n ≤ 18446744073709551615) : IntKind.u64.wrap n = n := wraps_u64 n h0 (by omega)

/-! ### Uint -/
theorem j1_bad (k : Nat) (x m i c : Int) (s : ByteArray) (e : Int) : baileeref01_Uint.j1 (k + 1) x m i c true s e = some (s, 11, 0) := by
  unfold baileeref01_Uint.j1; rw [if_pos rfl]
theorem j1_good (k : Nat) (x m i c : Int) (s : ByteArray) (e : Int) (hc0 : 0 ≤ c) (hc1 : c ≤ 255) (hm : 0 ≤ m * (c % 128)) (hm1 : m * (c % 128) ≤ 18446744073709551615) (hx : 0 ≤ x + m * (c % 128)) (hx1 : x + m * (c % 128) ≤ 18446744073709551615) :
    baileeref01_Uint.j1 (k + 1) x m i c false s e = if c < 128 then some (s, e, x + m * (c % 128)) else baileeref01_Uint.l0 k (x + m * (c % 128)) (IntKind.u64.wrap (m * 128)) (wrap64 (i + 1)) s e := by
  have e1 : Int.tmod c 128 = c % 128 := Int.tmod_eq_emod_of_nonneg hc0
  unfold baileeref01_Uint.j1
  rw [if_neg (by simp), e1, u64_small (n := c % 128) (by omega) (by omega), u64_small hm hm1, u64_small hx hx1]
theorem l0_nil (k : Nat) (x m i : Int) (hi : i < 10) : baileeref01_Uint.l0 (k + 1) x m i (S []) 0 = some (S [], 10, 0) := by
  unfold baileeref01_Uint.l0
  rw [if_pos hi, if_pos ((S_toList []).2 rfl)]
theorem l0_cons (k : Nat) (x m : Int) (i : Nat) (hi : i < 10) {c : Int} (hb : Byt (c :: r)) :
    baileeref01_Uint.l0 (k + 1) x m i (S (c :: r)) 0 = baileeref01_Uint.j1 k x m i c (decide ((i = 9 ∧ 1 < c) ∨ (0 < i ∧ c = 0))) (S r) 0 := by
  have ht : (S (c :: r)).extract 1 (S (c :: r)).size = S r := by
    rw [S_ext hb, S_size, List.take_of_length_le (Nat.le_refl _)]; rfl
  have hsz : ((S (c :: r)).size : Int) = r.length + 1 := by rw [S_size]; simp
  unfold baileeref01_Uint.l0
  rw [if_pos (by omega), if_neg (fun h => by have := (S_toList _).1 h; cases this), if_pos (by omega), if_pos (by omega), S_bt hb, ht]
  by_cases h9 : (i : Int) = 9
  · rw [if_pos h9]
    by_cases h1 : c > 1
    · rw [if_pos h1]
      rw [show decide ((i = 9 ∧ 1 < c) ∨ (0 < i ∧ c = 0)) = true from decide_eq_true (.inl ⟨by omega, h1⟩)]
    · rw [if_neg h1, if_pos (by omega)]
      congr 1
      by_cases h0 : c = 0
      · rw [show decide ((i = 9 ∧ 1 < c) ∨ (0 < i ∧ c = 0)) = true from decide_eq_true (.inr ⟨by omega, h0⟩), h0]; rfl
      · rw [show decide ((i = 9 ∧ 1 < c) ∨ (0 < i ∧ c = 0)) = false from decide_eq_false (by omega)]
        exact beq_eq_false_iff_ne.2 h0
  · rw [if_neg h9]
    by_cases hi0 : (i : Int) > 0
    · rw [if_pos hi0]
      congr 1
      by_cases h0 : c = 0
      · rw [show decide ((i = 9 ∧ 1 < c) ∨ (0 < i ∧ c = 0)) = true from decide_eq_true (.inr ⟨by omega, h0⟩), h0]; rfl
      · rw [show decide ((i = 9 ∧ 1 < c) ∨ (0 < i ∧ c = 0)) = false from decide_eq_false (by omega)]
        exact beq_eq_false_iff_ne.2 h0
    · rw [if_neg hi0]
      rw [show decide ((i = 9 ∧ 1 < c) ∨ (0 < i ∧ c = 0)) = false from decide_eq_false (by omega)]
theorem l0_rd : ∀ (b : List Int) (k i : Nat) (x : Int), Byt b → i ≤ 9 → 2 * (10 - i) < k → 0 ≤ x → x < 128 ^ i → baileeref01_Uint.l0 k x (128 ^ i) i (S b) 0 = some (S (rdNum i x (128 ^ i) b).1, (rdNum i x (128 ^ i) b).2.1, (rdNum i x (128 ^ i) b).2.2) := by
  intro b
  induction b with
  | nil =>
    intro k i x _ hi hk _ _
    obtain ⟨k, rfl⟩ : ∃ m, k = m + 1 := ⟨k - 1, by omega⟩
    rw [l0_nil k x _ _ (by omega)]
    rfl
  | cons c r ih =>
    intro k i x hb hi hk h0 h1
    obtain ⟨k, rfl⟩ : ∃ m, k = m + 2 := ⟨k - 2, by omega⟩
    have hc := hb c List.mem_cons_self
    have hp := pow_le i hi
    rw [l0_cons (k + 1) x _ i (by omega) hb]
    unfold rdNum
    by_cases hbad : (i = 9 ∧ 1 < c) ∨ (0 < i ∧ c = 0)
    · rw [decide_eq_true hbad, if_pos hbad, j1_bad]
    · rw [decide_eq_false hbad, if_neg hbad]
      obtain ⟨_, hy0, hy1, hy2⟩ := or_digit i x c hi (fun h => by omega) h0 h1 hc.1 hc.2
      have hnn : 0 ≤ (128 : Int) ^ i * (c % 128) := Int.mul_nonneg (by omega) (by omega)
      rw [j1_good k x _ _ c _ _ hc.1 hc.2 hnn (by omega) hy0 hy2]
      by_cases hlt : c < 128
      · rw [if_pos hlt, if_pos hlt]
      · rw [if_neg hlt, if_neg hlt]
        have h9 : i < 9 := by omega
        have hp2 := pow_le (i + 1) (by omega)
        have e1 : IntKind.u64.wrap ((128 : Int) ^ i * 128) = 128 ^ (i + 1) := by rw [← pow_128]; exact u64_small (by omega) (by omega)
        have e2 : wrap64 ((i : Int) + 1) = ((i + 1 : Nat) : Int) := by rw [w64_small (by omega) (by omega)]; rfl
        rw [e1, e2, ← pow_128]
        exact ih k (i + 1) _ (fun x hx => hb x (List.mem_cons_of_mem _ hx)) (by omega) (by omega) hy0 (hy1 h9)
abbrev stV (R : RM) : Value := .agg #[.string (S R.b), .int .i64 R.e]
theorem uint_f (hb : Byt R.b) : baileeref01_Uint.f 22 (S R.b) R.e = some (S R.uint.1.b, R.uint.1.e, R.uint.2) := by
  unfold baileeref01_Uint.f RM.uint
  by_cases he : R.e = 0
  · rw [if_pos he, if_neg (by simpa using he), he]
    exact l0_rd R.b 22 0 0 hb (by omega) (by omega) (by omega) (by decide)
  · rw [if_neg he, if_pos he]
theorem ref_uint (hb : Byt R.b) : Calls Tryd.prog 55 #[stV R] w fun e w' => e = .returned (.tuple #[stV R.uint.1, .int .u64 R.uint.2]) ∧ Below w.heap.size w w' :=
  baileeref01_Uint.calls 22 (S R.b) R.e _ _ _ w (uint_f hb)
theorem RM.fixed_e (he : R.e ≠ 0) (n : Int) : R.fixed n = (R, []) := by unfold RM.fixed; rw [if_pos he]
theorem RM.fixed_neg (he : R.e = 0) {n : Int} (h : n < 0) : R.fixed n = (⟨R.b, 1⟩, []) := by unfold RM.fixed; rw [if_neg (by simpa using he), if_pos h]
theorem RM.fixed_short (he : R.e = 0) {n : Int} (h0 : ¬ n < 0) (h : (R.b.length : Int) < n) : R.fixed n = (⟨R.b, 10⟩, []) := by unfold RM.fixed; rw [if_neg (by simpa using he), if_neg h0, if_pos h]
theorem RM.fixed_ok (he : R.e = 0) {n : Int} (h0 : ¬ n < 0) (h : ¬ (R.b.length : Int) < n) : R.fixed n = (⟨R.b.drop n.toNat, 0⟩, R.b.take n.toNat) := by unfold RM.fixed; rw [if_neg (by simpa using he), if_neg h0, if_neg h]
theorem fixed_f (hb : Byt R.b) (n : Int) : baileeref01_Fixed.f (S R.b) R.e n = some (S (R.fixed n).1.b, (R.fixed n).1.e, S (R.fixed n).2) := by
  unfold baileeref01_Fixed.f
  by_cases he : R.e = 0
  · rw [if_pos he]
    by_cases hn : n < 0
    · rw [if_pos hn, RM.fixed_neg he hn]; rfl
    · rw [if_neg hn, S_size]
      by_cases hs : (R.b.length : Int) < n
      · rw [if_pos hs, RM.fixed_short he hn hs]; rfl
      · rw [if_neg hs, RM.fixed_ok he hn hs, if_pos (by omega), if_pos (by omega), S_ext hb, S_ext hb, he, List.take_of_length_le (Nat.le_refl _), List.drop_zero]
  · rw [if_neg he, RM.fixed_e he]; rfl
theorem ref_fixed (hb : Byt R.b) (n : Int) : Calls Tryd.prog 77 #[stV R, .int .i64 n] w fun e w' => e = .returned (.tuple #[stV (R.fixed n).1, .string (S (R.fixed n).2)]) ∧ Below w.heap.size w w' :=
  baileeref01_Fixed.calls (S R.b) R.e n _ _ _ w (fixed_f hb n)
theorem rdNum_sub : ∀ (b : List Int) (i : Nat) (x m : Int), ∀ y ∈ (rdNum i x m b).1, y ∈ b := by
  intro b
  induction b with
  | nil => intro i x m y hy; exact hy
  | cons c r ih =>
    intro i x m y hy
    unfold rdNum at hy
    split at hy
    · exact List.mem_cons_of_mem _ hy
    · split at hy
      · exact List.mem_cons_of_mem _ hy
      · exact List.mem_cons_of_mem _ (ih _ _ _ y hy)
theorem RM.uint_byt (hb : Byt R.b) : Byt R.uint.1.b := by
  unfold RM.uint
  split
  · exact hb
  · exact fun x hx => hb x (rdNum_sub _ _ _ _ x hx)
theorem RM.fixed_byt (hb : Byt R.b) (n : Int) : Byt (R.fixed n).1.b ∧ Byt (R.fixed n).2 := by
  have h0 : Byt [] := fun x hx => by cases hx
  unfold RM.fixed
  split
  · exact ⟨hb, h0⟩
  · split
    · exact ⟨hb, h0⟩
    · split
      · exact ⟨hb, h0⟩
      · exact ⟨fun x hx => hb x (List.mem_of_mem_drop hx), fun x hx => hb x (List.mem_of_mem_take hx)⟩
theorem RM.bytes_byt (hb : Byt R.b) (n : Int) : Byt (R.bytes n).1.b ∧ Byt (R.bytes n).2 := by
  have h0 : Byt [] := fun x hx => by cases hx
  have hu := RM.uint_byt hb
  unfold RM.bytes
  split
  · exact ⟨hu, h0⟩
  · split
    · exact ⟨hu, h0⟩
    · exact RM.fixed_byt hu _
theorem RM.bytes_e (h : R.uint.1.e ≠ 0) (n : Int) : R.bytes n = (R.uint.1, []) := by unfold RM.bytes; rw [if_pos h]
theorem RM.bytes_big (h : R.uint.1.e = 0) {n : Int} (h1 : n < 0 ∨ n < R.uint.2) : R.bytes n = (⟨R.uint.1.b, 13⟩, []) := by unfold RM.bytes; rw [if_neg (by simpa using h), if_pos h1]
theorem RM.bytes_ok (h : R.uint.1.e = 0) {n : Int} (h1 : ¬ (n < 0 ∨ n < R.uint.2)) : R.bytes n = R.uint.1.fixed R.uint.2 := by unfold RM.bytes; rw [if_neg (by simpa using h), if_neg h1]
theorem bytes_f (hb : Byt R.b) (n : Int) (hn : n ≤ 9223372036854775807) : baileeref01_Bytes.f 22 (S R.b) R.e n = some (S (R.bytes n).1.b, (R.bytes n).1.e, S (R.bytes n).2) := by
  obtain ⟨hn0, hn1⟩ := RM.uint_bd hb
  have hu := RM.uint_byt hb
  unfold baileeref01_Bytes.f
  rw [uint_f hb, Option.bind_some]
  simp only
  by_cases he : R.uint.1.e = 0
  · rw [if_pos he]
    by_cases h0 : n < 0
    · rw [if_pos h0, RM.bytes_big he (.inl h0)]; rfl
    · rw [if_neg h0, u64_small (n := n) (by omega) (by omega)]
      by_cases h1 : R.uint.2 > n
      · rw [if_pos h1, RM.bytes_big he (.inr (by omega))]; rfl
      · rw [if_neg h1, RM.bytes_ok he (by omega), w64_small (by omega) (by omega), fixed_f hu, Option.bind_some]
  · rw [if_neg he, RM.bytes_e he]; rfl
theorem ref_bytes (hb : Byt R.b) (n : Int) (hn : n ≤ 9223372036854775807) : Calls Tryd.prog 56 #[stV R, .int .i64 n] w fun e w' => e = .returned (.tuple #[stV (R.bytes n).1, .string (S (R.bytes n).2)]) ∧ Below w.heap.size w w' :=
  baileeref01_Bytes.calls 22 (S R.b) R.e n _ _ _ w (bytes_f hb n hn)
/-- The reference's yes or no: none where there is an error. -/
def RM.rbool (R : RM) : Bool := if R.bool.1.e = 0 then R.bool.2 else false
theorem RM.end_e (he : R.e ≠ 0) : R.end_ = R.e := by unfold RM.end_; rw [if_pos he]
theorem RM.end_0 (he : R.e = 0) : R.end_ = if R.b = [] then 0 else 12 := by unfold RM.end_; rw [if_neg (by simpa using he)]
theorem ref_end : Calls Tryd.prog 57 #[stV R] w fun e w' => e = .returned (.int .i64 R.end_) ∧ Below w.heap.size w w' := by
  refine baileeref01_End.calls (S R.b) R.e _ w ?_
  unfold baileeref01_End.f
  by_cases he : R.e = 0
  · rw [if_pos he, RM.end_0 he]
    by_cases hb : R.b = []
    · rw [if_pos ((S_toList _).2 hb), if_pos hb]
    · rw [if_neg (fun h => hb ((S_toList _).1 h)), if_neg hb]
  · rw [if_neg he, RM.end_e he]

/-! ### Put, With -/
end
end Go.Proofs.YtgjdcdhfijkoiaaDoor.Cod
end
section
namespace Go.Proofs.YtgjdcdhfijkoiaaDoor.Cod
open Go.RowKit Go.Proofs.YtgjdcdhfijkoiaaDoorW.PrintWords Go.Proofs.YtgjdcdhfijkoiaaDoorW.PrintLast Go.Proofs.YtgjdcdhfijkoiaaDoorW.PrintMore Go.Proofs.YtgjdcdhfijkoiaaDoor.Mem Go.Proofs.YtgjdcdhfijkoiaaDoor.PCod
set_option linter.unusedVariables false
set_option linter.unusedSimpArgs false
section
variable {w : World} {R : RM} {b r xs : List Int}
def idAt (xs : List Int) (i : Nat) : List Int := xs.take i ++ List.replicate (32 - i) 0
theorem idAt_0 (xs : List Int) : nums .u8 (idAt xs 0) = zidL := by unfold idAt; rw [List.take_zero, List.nil_append]; exact zid_cells
theorem idAt_set (xs : List Int) (i : Nat) (hi : i < xs.length) (h32 : xs.length ≤ 32) : (idAt xs i).set i (xs.getD i 0) = idAt xs (i + 1) := by
  unfold idAt
  apply List.ext_getElem?
  intro j
  have hl : (xs.take i).length = i := by rw [List.length_take]; omega
  rw [List.getElem?_set]
  by_cases hj : i = j
  · subst hj
    rw [if_pos rfl, if_pos (by simp; omega), List.getElem?_append_left (by rw [List.length_take]; omega), List.getElem?_take, if_pos (by omega), List.getD_eq_getElem?_getD, List.getElem?_eq_getElem hi]
    rfl
  · rw [if_neg hj]
    rcases Nat.lt_or_ge j i with h | h
    · rw [List.getElem?_append_left (by omega), List.getElem?_append_left (by rw [List.length_take]; omega), List.getElem?_take, List.getElem?_take, if_pos h, if_pos (by omega)]
    · rw [List.getElem?_append_right (by omega), List.getElem?_append_right (by rw [List.length_take]; omega), hl, List.length_take, List.getElem?_replicate, List.getElem?_replicate, Nat.min_eq_left (by omega)]
      by_cases h2 : j < 32
      · rw [if_pos (by omega), if_pos (by omega)]
      · rw [if_neg (by omega), if_neg (by omega)]
theorem idAt_end (h : xs = [] ∨ xs.length = 32) : idAt xs xs.length = idOf xs := by
  unfold idAt idOf
  rcases h with rfl | h
  · rfl
  · rw [if_neg (fun e => by rw [e] at h; cases h), List.take_of_length_le (Nat.le_refl _), h]
    simp
/-- What is there behind a call of Id's. -/
def IdW (w : World) (A B : Array Value) (w1 : World) : Prop := w1.heap[w.heap.size]? = some (.cells A 99 (0, 0)) ∧ w1.heap[w.heap.size + 1]? = some (.cells B 99 (0, 0)) ∧ w1.heap[w.heap.size + 2]? = some (.cells zidL.toArray 74 (0, 0)) ∧ Below w.heap.size w w1
theorem idW_1 (A B : Array Value) (w1 : World) (hb : Below (((w.alloc (.cells A 99)).alloc (.cells B 99)).alloc (.cells zidL.toArray 74)).heap.size (((w.alloc (.cells A 99)).alloc (.cells B 99)).alloc (.cells zidL.toArray 74)) w1) : IdW w A B w1 := by
  have e1 : (((w.alloc (.cells A 99)).alloc (.cells B 99)).alloc (.cells zidL.toArray 74)).heap[w.heap.size]? = some (.cells A 99 (0, 0)) := by rw [Below.heap_alloc _ _ _ (by simp; omega), Below.heap_alloc _ _ _ (by simp)]; exact blk_new w _
  have e2 : (((w.alloc (.cells A 99)).alloc (.cells B 99)).alloc (.cells zidL.toArray 74)).heap[w.heap.size + 1]? = some (.cells B 99 (0, 0)) := by
    rw [Below.heap_alloc _ _ _ (by simp)]
    have := blk_new (w.alloc (.cells A 99)) (.cells B 99)
    simpa using this
  have e3 : (((w.alloc (.cells A 99)).alloc (.cells B 99)).alloc (.cells zidL.toArray 74)).heap[w.heap.size + 2]? = some (.cells zidL.toArray 74 (0, 0)) := by
    have := blk_new ((w.alloc (.cells A 99)).alloc (.cells B 99)) (.cells zidL.toArray 74)
    simpa using this
  exact ⟨(hb.block _ (by simp; omega)).trans e1, (hb.block _ (by simp)).trans e2, (hb.block _ (by simp)).trans e3, below_step (below_alloc (below_alloc (below_alloc (Below.refl _ _) _) _) _) hb⟩
theorem idW_2 {A A2 B : Array Value} {w1 : World} (hA : A.size = 2) (h : IdW w A B w1) (u v : Value) (h2 : (A.setIfInBounds 0 u).setIfInBounds 1 v = A2) :
    IdW w A2 B (((w1.setCell ⟨w.heap.size, 0, none⟩ u).setCell ⟨w.heap.size, 1, none⟩ v).alloc (.cells zidL.toArray 74)) ∧
    (((w1.setCell ⟨w.heap.size, 0, none⟩ u).setCell ⟨w.heap.size, 1, none⟩ v).alloc (.cells zidL.toArray 74)).heap[w1.heap.size]? = some (.cells zidL.toArray 74 (0, 0)) ∧ w.heap.size + 2 < w1.heap.size := by
  obtain ⟨k1, k2, k3, k4⟩ := h
  have hsz : ((w1.setCell ⟨w.heap.size, 0, none⟩ u).setCell ⟨w.heap.size, 1, none⟩ v).heap.size = w1.heap.size := by simp
  have l3 := blk_lt k3
  have hk : ∀ {g : Nat} {o : Obj}, g ≠ w.heap.size → w1.heap[g]? = some o → (((w1.setCell ⟨w.heap.size, 0, none⟩ u).setCell ⟨w.heap.size, 1, none⟩ v).alloc (.cells zidL.toArray 74)).heap[g]? = some o := fun {g o} hne hg => by
    rw [Below.heap_alloc _ _ _ (by rw [hsz]; exact blk_lt hg), Below.heap_setCell _ _ _ _ hne, Below.heap_setCell _ _ _ _ hne]
    exact hg
  refine ⟨⟨?_, hk (by omega) k2, hk (by omega) k3, below_alloc (below_set (below_set k4 (Nat.le_refl _)) (Nat.le_refl _)) _⟩, ?_, l3⟩
  · rw [Below.heap_alloc _ _ _ (by rw [hsz]; omega), ← h2]
    exact blk_set (blk_set k1 0 u) 1 v
  · have := blk_new ((w1.setCell ⟨w.heap.size, 0, none⟩ u).setCell ⟨w.heap.size, 1, none⟩ v) (.cells zidL.toArray 74)
    rwa [hsz] at this
theorem IdW.set {A B : Array Value} {w1 : World} (h : IdW w A B w1) {g k : Nat} (hp : w.heap.size + 2 < g) (u : Value) : IdW w A B (w1.setCell ⟨g, k, none⟩ u) :=
  ⟨blk_far h.1 (p := ⟨g, k, none⟩) (show w.heap.size ≠ g by omega) u, blk_far h.2.1 (p := ⟨g, k, none⟩) (show w.heap.size + 1 ≠ g by omega) u, blk_far h.2.2.1 (p := ⟨g, k, none⟩) (show w.heap.size + 2 ≠ g by omega) u, below_set h.2.2.2 (by omega)⟩
section
variable {P : Program} {o : Oper} {ev : Operand → Value}
theorem exec_load_row (W : World) (ty : TypeId) (x : Operand) (ho : o.op = .load ty x) (g : Nat) (hx : ev x = .pointer (some ⟨g, 0, none⟩)) (t : TypeId) (cs : Array Value) (fr : Nat × Nat) (d : TypeDesc) (hg : W.heap[g]? = some (.cells cs t fr))
    (hu : P.underlying ty = some d) (hd : (match d with | .struct _ | .array _ _ => true | _ => false) = true) (hi : (P.info? ty).map (·.size) = some cs.size) : (execOp ev o).run P W = .ok (.value (.agg cs)) W := by
  unfold execOp
  simp only [ho, hx, Instr.loadAt, Instr.sureAddr, Sem.run_bind, Sem.run_pure, Result.andThen_ok, run_loadVar_row W g t ty cs fr d hg hu hd hi]
theorem exec_store_row (W : World) (ty : TypeId) (x y : Operand) (ho : o.op = .store ty x y) (g : Nat) (cells : Array Value) (hx : ev x = .pointer (some ⟨g, 0, none⟩)) (hy : ev y = .agg cells)
    (t : TypeId) (old : Array Value) (hg : W.heap[g]? = some (.cells old t (0, 0))) (hi : (P.info? ty).map (·.size) = some cells.size) (hold : old.size = cells.size) (h1 : cells.all (·.oneCell') = true) :
    (execOp ev o).run P W = .ok .skip (W.setRow g cells) := by
  unfold execOp
  simp only [ho, hx, hy, Instr.storeAt, Instr.sureAddr, Sem.run_bind, Sem.run_pure, Result.andThen_ok, run_storeVar_row W g t ty old cells hg hi hold h1]
end
end
end Go.Proofs.YtgjdcdhfijkoiaaDoor.Cod
end
section
namespace Go.Proofs.YtgjdcdhfijkoiaaDoor.Conv
open Go.RowKit Go.Proofs.YtgjdcdhfijkoiaaDoorW.PrintWords Go.Proofs.YtgjdcdhfijkoiaaDoorW.PrintLast Go.Proofs.YtgjdcdhfijkoiaaDoorW.PrintMore
set_option linter.unusedVariables false
set_option linter.unusedSimpArgs false

theorem mark_run {P : Program} {W : World} {t e : TypeId} {g n c : Nat} {cur : Array Value} (ht : P.underlying t = some (.slice e)) (he : P.underlying e = some (.int .u8)) (hb : W.heap[g]? = some (.cells cur e (0, 0))) :
    ∃ W', (convert t t (.slice (some ⟨g, 0, none⟩) n c)).run P W = .ok (.slice (some ⟨g, 0, none⟩) n c) W' ∧ W.grownBy W' (some g) ∧ W'.heap[g]? = some (.cells cur e (cur.size, cur.size + 1)) := by
  have hsh : W.shape? g = some (e, cur.size) := by
    unfold World.shape?
    rw [hb]
  refine ⟨W.freeze ⟨g, cur.size, none⟩ 1, ?_, ?_, ?_⟩
  · simp [convert, run_underlying ht, run_underlying he, markStringish, hsh]
  · unfold World.freeze
    rw [if_neg (by decide)]
    refine ⟨rfl, rfl, rfl, by simp, fun k hk hne => ?_⟩
    simp only [Array.getElem?_modify]
    rw [if_neg (fun h => hne (by rw [h]))]
  · unfold World.freeze
    rw [if_neg (by decide)]
    simp [Array.getElem?_modify, hb]

section
variable {P : Program} {ops : Array Oper} {rest : List Oper} {o : Oper} {a : Act} {Q : Exit → Act → World → Prop}
theorem conv_event {w0 W : World} {base : Nat} {t e : TypeId} {x : Operand} (hgd : o.guard = none) (ho : o.op = .convert t t x) (ht : P.underlying t = some (.slice e)) (he : P.underlying e = some (.int .u8))
    {ok : Nat → Prop} {A : Option Addr} {n c : Nat} {xs : List Int} (hx : a.eval x = .slice A n c) (HO : Kd.R (Kd.int .u8) e W base ok (.slice A n c) xs) (hpos : 0 < xs.length) (HB : Below base w0 W) (hbase : base ≤ W.heap.size)
    (h : ∀ W', n = xs.length → xs.length ≤ c → Kd.C (Kd.int .u8) W' A xs.length xs → W.grownBy W' (Value.slice A n c).ownBlock → Below base w0 W' → wpList P ops Q rest (a.put o.dst (.slice A n c)) W') :
    wpList P ops Q (o :: rest) a W := by
  have hR := Kd.R_reads' HO
  obtain ⟨h0, inner, hown, hr⟩ := HO
  have hn : n = xs.length := hR.1
  rcases hown.2 with ⟨hv, hz⟩ | ⟨g, cap, cur, hv, hb, hh, h1, h2, h3, h4⟩
  · omega
  · injection hv with hA _ hc
    subst hA
    obtain ⟨W', hrun, hg, hh'⟩ := mark_run (P := P) (n := n) (c := c) ht he hh
    refine Kd.event_run hgd (v := .slice (some ⟨g, 0, none⟩) n c) (w1 := W') ?_ (h W' hn (by omega) ?_ hg (HB.grown hg hbase (fun k hk => by injection hk with hk; omega)))
    · unfold execOp
      simp [ho, hx, hrun]
    · obtain ⟨q1, q2, q3⟩ := hR.2.2
      refine ⟨q1, q2, fun hp => ?_⟩
      obtain ⟨ad, e1, hc0⟩ := q3 hp
      refine ⟨ad, e1, fun j p hj => ?_⟩
      obtain ⟨cc, hl, hk, hcell⟩ := hc0 j p hj
      refine ⟨cc, hl, hk, fun i u hu => ?_⟩
      have hq := hcell i u hu
      injection e1 with e1
      subst e1
      rw [← hq]
      have e2 : ((⟨g, 0, none⟩ : Addr).add (j * (Kd.int IntKind.u8).sz + i)) = ⟨g, j * (Kd.int IntKind.u8).sz + i, none⟩ := add_plain _ _
      rw [e2]
      simp [World.cell?, hh, hh']
end
end Go.Proofs.YtgjdcdhfijkoiaaDoor.Conv
end
section
namespace Go.Proofs.YtgjdcdhfijkoiaaDoor.Cod
open Go.RowKit Go.Proofs.YtgjdcdhfijkoiaaDoorW.PrintWords Go.Proofs.YtgjdcdhfijkoiaaDoorW.PrintLast Go.Proofs.YtgjdcdhfijkoiaaDoorW.PrintMore Go.Proofs.YtgjdcdhfijkoiaaDoor.Mem Go.Proofs.YtgjdcdhfijkoiaaDoor.PCod Go.Proofs.YtgjdcdhfijkoiaaDoor.Conv
set_option linter.unusedVariables false
set_option linter.unusedSimpArgs false
section
variable {w : World} {R : RM} {b r xs : List Int}
/-- A row as a string, in any later world. -/
theorem conv_row {w wd : World} {A : Option Addr} {c : Nat} {n : Nat} {xs : List Int} (hn : n = xs.length) (h : Kd.C (Kd.int .u8) w A xs.length xs) (hb : Below w.heap.size w wd) :
    (convert 27 9 (.slice A n c)).run Tryd.prog wd = .ok (.string (S xs)) wd := by
  subst hn
  exact Kd.C_string (P := Tryd.prog) (w := wd) (src := 27) (dst := 9) (e := 5) Tryd.underlying27 Tryd.underlying5 Tryd.underlying9 (Kd.C_below h hb)
/-- A row that came in, as it is read. -/
def InRow (w : World) (a : Option Addr) (len cap : Nat) (zs : List Int) : Prop :=
  (a = none ∧ len = 0 ∧ cap = 0 ∧ zs = []) ∨
  ∃ x, a = some x ∧ len ≤ cap ∧ cap ≤ maxLen ∧ zs.length = cap ∧ (∀ i, i < zs.length → w.cell? (x.add i) = some (.int .u8 (zs.getD i 0))) ∧ ∀ n ∈ zs, (Lit.int .u8 n).wf = true
theorem row_bytes {a : Option Addr} {len cap : Nat} {zs : List Int} (h : InRow w a len cap zs) (hl : len * 1 ≤ 140737488351232) : ∃ xs, len = xs.length ∧ Kd.C (Kd.int .u8) w a xs.length xs ∧ len ≤ cap ∧ len < 140737488355328 ∧ Byt xs := by
  obtain ⟨l0, rfl, hr0, hm0, hw0, hc0⟩ := ReadsInt.ofRowC h
  exact ⟨l0, rfl, Kd.C_of_reads (d := (0 : Int)) (h1 := fun _ => rfl) hr0, hc0, by omega, byt_of_wf hw0⟩
/-! ### digests, compared -/
theorem plain_u8 : Tryd.prog.plainKey 5 = true := by kernel_rfl
theorem cells_u8 : Tryd.prog.cellsOf 5 = 1 := by kernel_rfl
theorem items_eq (W : World) (a b : List Int) : ∀ is : List Nat, (∀ j ∈ is, j < a.length ∧ j < b.length) →
    (Op.eqItems 9999 5 (Tryd.prog.cellsOf 5) (nums .u8 a).toArray (nums .u8 b).toArray is).run Tryd.prog W = .ok (is.all fun j => a.getD j 0 == b.getD j 0) W := by
  intro is
  induction is with
  | nil => intro _; simp [Op.eqItems]
  | cons j is ih =>
    intro h
    have hj := h j List.mem_cons_self
    have e : ∀ l : List Int, j < l.length → (nums .u8 l).toArray[j * Tryd.prog.cellsOf 5]? = some (.int .u8 (l.getD j 0)) := fun l hl => by
      rw [cells_u8, Nat.mul_one, List.getElem?_toArray]
      unfold nums
      rw [List.getElem?_map, List.getElem?_eq_getElem hl, List.getD_eq_getElem?_getD, List.getElem?_eq_getElem hl]
      rfl
    simp only [Op.eqItems, Sem.run_bind, run_part_plain W plain_u8 (e a hj.1), run_part_plain W plain_u8 (e b hj.2), Result.andThen_ok, run_equalIn_int W 9998 5 .u8 .u8 (a.getD j 0) (b.getD j 0) Tryd.underlying5, List.all_cons]
    cases hq : (a.getD j 0 == b.getD j 0)
    · simp
    · simp only [Bool.not_true, Bool.false_eq_true, if_false, Bool.true_and]
      exact ih (fun k hk => h k (List.mem_cons_of_mem _ hk))
set_option maxRecDepth 100000 in
theorem eq_id (a b : List Int) (ha : a.length = 32) (hb : b.length = 32) (W : World) : (Op.equalIn 10000 74 (.agg (nums .u8 a).toArray) (.agg (nums .u8 b).toArray)).run Tryd.prog W = .ok (a == b) W := by
  obtain ⟨i, hi, _⟩ := Option.map_eq_some_iff.1 info_u8s
  rw [run_equalIn_array W 9999 _ _ Tryd.underlying74 hi, items_eq W a b (List.range 32) (fun j hj => by have := List.mem_range.1 hj; omega)]
  congr 1
  rw [Bool.eq_iff_iff, List.all_eq_true, beq_iff_eq]
  constructor
  · intro h
    apply List.ext_getElem (by omega)
    intro j h1 h2
    have h3 := h j (List.mem_range.2 (by omega))
    rw [beq_iff_eq, List.getD_eq_getElem?_getD, List.getD_eq_getElem?_getD, List.getElem?_eq_getElem h1, List.getElem?_eq_getElem h2] at h3
    exact h3
  · intro h j _
    rw [h]; simp
end
end Go.Proofs.YtgjdcdhfijkoiaaDoor.Cod
end
section
namespace Go.Proofs.YtgjdcdhfijkoiaaDoor.Cod
open Go.RowKit Go.Proofs.YtgjdcdhfijkoiaaDoorW.PrintWords Go.Proofs.YtgjdcdhfijkoiaaDoorW.PrintLast Go.Proofs.YtgjdcdhfijkoiaaDoorW.PrintMore Go.Proofs.YtgjdcdhfijkoiaaDoor.Mem Go.Proofs.YtgjdcdhfijkoiaaDoor.PCod Go.Proofs.YtgjdcdhfijkoiaaDoor.Conv
set_option linter.unusedVariables false
set_option linter.unusedSimpArgs false
section
variable {w : World} {R : RM} {b r xs : List Int}
theorem RM.uint_0 (b : List Int) : (⟨b, 0⟩ : RM).uint = (⟨(rdNum 0 0 1 b).1, (rdNum 0 0 1 b).2.1⟩, (rdNum 0 0 1 b).2.2) := by unfold RM.uint; rw [if_neg (by simp)]
/-- Numbers, one behind the other. -/
def putAll (l : List Int) : List Int := (l.map putNum).flatten
/-- What is left of a row of numbers that was cut, behind some of them. -/
def restOf (l : List Int) (k i : Nat) : List Int := (putAll (l.drop i)).take (k - (putAll (l.take i)).length)
end
end Go.Proofs.YtgjdcdhfijkoiaaDoor.Cod
end
