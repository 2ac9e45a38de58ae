/- 'filled' in closed form; the disk's Write of a row, its Read: all cases at once. -/
import Derived.Test.YtnajdnhgoakgaaaBlk
import Derived.Test.YtnajdnhgoakgaaaPBlkx1
namespace Go.Proofs.Ytnajdnhgoakgaaa.Blk
open Go.RowKit Go.Proofs.YtnajdnhgoakgaaaW.PrintWords Go.Proofs.YtnajdnhgoakgaaaW.PrintLast Go.Proofs.YtnajdnhgoakgaaaW.PrintMore Go.Proofs.Ytnajdnhgoakgaaa.Mem Go.Proofs.Ytnajdnhgoakgaaa.PBlk
attribute [local go_sem] max2_int min2_int max_two min_two max_three min_three max_four min_four
set_option linter.unusedVariables false
set_option linter.unusedSimpArgs false

def fillAt (a : Int) (i : Nat) : Int := (a + ((wrap64 ((i : Int) * 7)) % 256)) % 256
def fillL (a : Int) (n : Nat) : List Int := (List.range' 0 n).map (fillAt a)
/-- What 'filled' answers, as a string. -/
def fill (a : Int) (n : Nat) : ByteArray := strOfNums (fillL a n)
theorem fillL_length (a : Int) (n : Nat) : (fillL a n).length = n := by simp [fillL]
theorem fillL_byt (a : Int) (n : Nat) : Byt (fillL a n) := by
  intro x hx
  obtain ⟨i, _, rfl⟩ := List.mem_map.1 hx
  unfold fillAt
  omega
theorem bytesOf_fill (a : Int) (n : Nat) : bytesOf (fill a n) = fillL a n := bytesOf_str (fillL_byt a n)
theorem fill_size (a : Int) (n : Nat) : (fill a n).size = n := by rw [← bytesOf_length, bytesOf_fill, fillL_length]

theorem filled_l0 (a : Int) (n : Nat) (hn : n ≤ 1000000) : ∀ (m i : Nat) (xs : List Int), xs.length = n → m = n - i → i ≤ n →
    baileelaw08_filled.l0 (m + 1) a n xs i = some (xs.take i ++ (List.range' i (n - i)).map (fillAt a)) := by
  intro m
  induction m with
  | zero =>
    intro i xs hx hm hi
    obtain rfl : i = n := by omega
    unfold baileelaw08_filled.l0
    rw [if_neg (by omega), Nat.sub_self]
    simp [hx, List.take_of_length_le]
  | succ m ih =>
    intro i xs hx hm hi
    unfold baileelaw08_filled.l0
    have hw : wrap64 ((i : Int) + 1) = ((i + 1 : Nat) : Int) := by
      unfold wrap64; omega
    rw [if_pos (by omega), if_pos (by omega), if_pos (by omega), hw, ih (i + 1) _ (by simpa using hx) (by omega) (by omega)]
    have e : n - i = (n - (i + 1)) + 1 := by omega
    rw [e, List.range'_succ, List.map_cons, Int.toNat_natCast, List.take_add_one, List.take_set_of_le (Nat.le_refl _)]
    simp [fillAt, List.getElem?_set, hx, show i < n by omega]
theorem filled_calls (a : Int) (n : Nat) (hn : n ≤ 1000000) (w : World) : Calls Try.prog 16 #[.int .u8 a, .int .i64 n] w fun e w' => ∃ v : Value, e = .returned v ∧ Kd.R (Kd.int .u8) 5 w' w.heap.size (fun _ => True) v (bytesOf (fill a n)) ∧ Below w.heap.size w w' := by
  refine baileelaw08_filled.calls (n + 1) a n _ w ?_
  unfold baileelaw08_filled.f
  rw [if_pos (by omega), if_pos (by omega)]
  have := filled_l0 a n hn n 0 (List.replicate n 0) (by simp) (by omega) (by omega)
  rw [bytesOf_fill]
  simpa [fillL] using this

variable {w : World} {F : Nat → Prop} {g : Nat} {D : DM}
theorem Kept.below_none {w w' : World} {F : Nat → Prop} : Kept w w F := Kept.refl w F

/-- Write, whatever comes of it; the row lies in no block of the disk. -/
theorem write_row {w0 : World} (hB : Below w0.heap.size w0 w) (hF : ∀ k, F k → w0.heap.size ≤ k) (hd : DiskAt w F g D) (i : Int) (A : Option Addr) (n c : Nat) (s : ByteArray) (hn : n = s.size) (hr : ∀ W, Kept w W F → Kd.C (Kd.int .u8) W A n (bytesOf s)) :
    Calls Try.prog 17 #[.pointer (some ⟨g, 0, none⟩), .int .i64 i, .slice A n c] w fun e w' => e = .returned (.int .i64 (D.write i s).2) ∧ DiskAt w' F g (D.write i s).1 ∧ Below w0.heap.size w0 w' ∧ Kept w w' F := by
  by_cases hf : D.fine i = 0
  · by_cases hs : s.size = 128
    · rw [hs] at hn
      subst hn
      by_cases hl : D.left = 0
      · refine (write_torn hB hF hd i A c s hs hr hf hl).mono ?_
        rintro e w' ⟨rfl, h1, h2, h3⟩
        have e2 : (D.write i s).2 = 30 := by unfold DM.write; rw [if_neg (by rw [hf]; simp), if_neg (by rw [hs]; simp), if_pos hl]
        exact ⟨by rw [e2], h1, h2, h3⟩
      · refine (write_ok hB hF hd i A c s hs hr hf hl).mono ?_
        rintro e w' ⟨rfl, h1, h2, h3⟩
        have e2 : (D.write i s).2 = 0 := by rw [write_1 hs hf hl]
        exact ⟨by rw [e2], h1, h2, h3⟩
    · have e2 : D.write i s = (D, 1) := by unfold DM.write; rw [if_neg (by rw [hf]; simp), if_pos hs]
      refine (write_len hd i A n c hf (by omega)).mono ?_
      rintro e w' ⟨rfl, rfl⟩
      exact ⟨by rw [e2], by rw [e2]; exact hd, hB, Kept.refl _ _⟩
  · have e2 : D.write i s = (D, D.fine i) := by unfold DM.write; rw [if_pos hf]
    refine (write_no hd i _ hf).mono ?_
    rintro e w' ⟨rfl, rfl⟩
    exact ⟨by rw [e2], by rw [e2]; exact hd, hB, Kept.refl _ _⟩
/-- The same, for a row that is the call's own. -/
theorem write_own {w0 : World} (hB : Below w0.heap.size w0 w) (hF : ∀ k, F k → w0.heap.size ≤ k) (hd : DiskAt w F g D) (i : Int) {e base : Nat} {ok : Nat → Prop} {v : Value} {s : ByteArray} (hv : Kd.R (Kd.int .u8) e w base ok v (bytesOf s)) (hok : ∀ k, ok k → ¬ F k) :
    Calls Try.prog 17 #[.pointer (some ⟨g, 0, none⟩), .int .i64 i, v] w fun e w' => e = .returned (.int .i64 (D.write i s).2) ∧ DiskAt w' F g (D.write i s).1 ∧ Below w0.heap.size w0 w' ∧ Kept w w' F := by
  obtain ⟨A, c, rfl, _, _⟩ := Kd.R_reads hv
  refine write_row hB hF hd i A _ c s (bytesOf_length s) ?_
  exact Kd.C_kept_own hv hok
/-- Read, whatever comes of it. -/
def DM.read (D : DM) (i : Int) : ByteArray := if D.fine i = 0 then D.blk i else ByteArray.empty
theorem read_any (hd : DiskAt w F g D) (i : Int) : Calls Try.prog 21 #[.pointer (some ⟨g, 0, none⟩), .int .i64 i] w fun e w' => ∃ v, e = .returned (.tuple #[v, .int .i64 (D.fine i)]) ∧ Kd.R (Kd.int .u8) 5 w' w.heap.size (fun _ => True) v (bytesOf (D.read i)) ∧ Below w.heap.size w w' := by
  by_cases hf : D.fine i = 0
  · refine (read_calls hd i hf).mono ?_
    rintro e w' ⟨v, rfl, h1, h2, h3⟩
    exact ⟨v, by rw [hf], by unfold DM.read; rw [if_pos hf]; exact h1, h3⟩
  · refine (read_no hd i hf).mono ?_
    rintro e w' ⟨rfl, rfl⟩
    exact ⟨_, rfl, by unfold DM.read; rw [if_neg hf]; exact Kd.R_nil _ _ _ _ _, Below.refl _ _⟩
theorem DM.ok_write {D : DM} (h : D.Ok) (i : Int) (s : ByteArray) : (D.write i s).1.L.length = D.L.length := by
  unfold DM.write
  repeat' split
  all_goals simp
end Go.Proofs.Ytnajdnhgoakgaaa.Blk
