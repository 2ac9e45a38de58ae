/- The document's disk: what its calls answer. -/
import Derived.Test.YtnajdnhgoakgaaaLBlocks
import Derived.Test.YtnajdnhgoakgaaaPWalx3
namespace Go.Proofs.Ytnajdnhgoakgaaa.Blk
open Go.RowKit Go.Proofs.YtnajdnhgoakgaaaW.PrintWords Go.Proofs.YtnajdnhgoakgaaaW.PrintLast Go.Proofs.YtnajdnhgoakgaaaW.PrintMore Go.Proofs.Ytnajdnhgoakgaaa.PWal Go.Proofs.Ytnajdnhgoakgaaa.Mem
set_option linter.unusedVariables false
set_option linter.unusedSimpArgs false
def DM.read (D : DM) (i : Int) : ByteArray := if D.fine i = 0 then D.blk i else ByteArray.empty
section
variable {w : World} {D : DM}
theorem read_any {F : Nat → Prop} {g : Nat} (hd : DiskAt w F g D) (i : Int) : Calls Try.prog 21 #[.pointer (some ⟨g, 0, none⟩), .int .i64 i] w fun e w' => ∃ v, e = .returned (.tuple #[v, .int .i64 (D.fine i)]) ∧ Kd.R (Kd.int .u8) 5 w' w.heap.size (fun _ => True) v (bytesOf (D.read i)) ∧ Below w.heap.size w w' := Go.Proofs.Ytnajdnhgoakgaaa.Wal.read_any hd i
abbrev dv (v : Value) (D : DM) : Value := .agg #[v, .int .i64 D.left, .int .i64 D.torn, .bool D.down]
theorem read_f (D : DM) (i : Int) : baileeref08_Read.f D.L D.left D.torn D.down i = some (D.read i, D.fine i) := by
  by_cases hd : D.down = true
  · have e : D.fine i = 30 := by unfold DM.fine; rw [if_pos hd]
    unfold baileeref08_Read.f DM.read
    rw [if_pos hd, e, if_neg (by omega)]; rfl
  · by_cases h0 : i < 0
    · have e : D.fine i = 14 := by unfold DM.fine; rw [if_neg hd, if_pos (.inl h0)]
      unfold baileeref08_Read.f DM.read
      rw [if_neg hd, if_pos h0, e, if_neg (by omega)]; rfl
    · by_cases h1 : (D.L.length : Int) ≤ i
      · have e : D.fine i = 14 := by unfold DM.fine; rw [if_neg hd, if_pos (.inr h1)]
        unfold baileeref08_Read.f DM.read
        rw [if_neg hd, if_neg h0, if_pos h1, e, if_neg (by omega)]; rfl
      · have e : D.fine i = 0 := by unfold DM.fine; rw [if_neg hd, if_neg (by omega)]
        unfold baileeref08_Read.f DM.read
        rw [if_neg hd, if_neg h0, if_neg h1, if_pos (by omega), if_pos (by omega), e, if_pos rfl]; rfl
theorem write_f (h : D.Ok) (i : Int) (s : ByteArray) : baileeref08_Write.f D.L D.left D.torn D.down i s = some ((D.write i s).1.L, (D.write i s).1.left, (D.write i s).1.torn, (D.write i s).1.down, (D.write i s).2) := by
  unfold baileeref08_Write.f
  rw [read_f, Option.bind_some]
  dsimp only
  by_cases hf : D.fine i = 0
  · obtain ⟨f1, f2, f3⟩ := fine_0 hf
    rw [if_pos hf]
    by_cases hs : s.size = 128
    · have hn := h.n2
      have hb := (blk_at h f2 f3).1
      have ht0 := h.t1
      have ht2 := h.t2
      have hr : D.read i = D.blk i := by unfold DM.read; rw [if_pos hf]
      rw [if_pos (by omega), if_pos (by simp; omega), Option.bind_some, List.nil_append]
      by_cases hl : D.left = 0
      · have hw : D.write i s = ({ D with L := D.L.set i.toNat (s.extract 0 D.torn.toNat ++ (D.blk i).extract D.torn.toNat 128), down := true }, 30) := by
          unfold DM.write; rw [if_neg (by omega), if_neg (by omega), if_pos hl]
        rw [hw, hr, if_pos hl, if_pos ht0, if_pos (by omega), if_pos (by omega), if_pos (by simp only [ByteArray.size_extract]; omega), if_pos f2, if_pos f3, hb]
      · have hw := write_1 hs hf hl
        rw [hw, if_neg hl, if_pos f2, if_pos f3, Option.bind_some]
        by_cases hp : D.left > 0
        · have hl2 := h.l2
          rw [if_pos hp, if_pos hp, IntWalk.wrap64_in _ ⟨by omega, by omega⟩]
        · rw [if_neg hp, if_neg hp]
    · have hw : D.write i s = (D, 1) := by unfold DM.write; rw [if_neg (by omega), if_pos hs]
      rw [if_neg (by omega), hw]
  · have hw : D.write i s = (D, D.fine i) := by unfold DM.write; rw [if_pos hf]
    rw [if_neg hf, hw]
theorem stop_f (D : DM) (a b : Int) : baileeref08_Stop.f 1 D.L D.left D.torn D.down a b = some ((D.stop a b).L, (D.stop a b).left, (D.stop a b).torn, (D.stop a b).down) := by
  unfold baileeref08_Stop.f DM.stop
  simp only [baileeref08_Stop.j0]
  by_cases h1 : a < 0 <;> by_cases h2 : b < 0 <;> by_cases h3 : b > 128 <;> simp [h1, h2, h3] <;> omega
theorem zero_str : strOfNums (List.replicate 128 0) = zero128 := by kernel_rfl
theorem new_l0 : ∀ (m k n i : Nat), m = n - i → i ≤ n → n ≤ 65536 → m < k → baileeref08_New.l0 k n (List.replicate i zero128) i = some (List.replicate n zero128, -1, 0, false, 0) := by
  intro m
  induction m with
  | zero =>
    intro k n i hm hi hn hk
    obtain ⟨k, rfl⟩ : ∃ j, k = j + 1 := ⟨k - 1, by omega⟩
    have e : i = n := by omega
    subst e
    simp only [baileeref08_New.l0]
    rw [if_neg (by omega)]
  | succ m ih =>
    intro k n i hm hi hn hk
    obtain ⟨k, rfl⟩ : ∃ j, k = j + 1 := ⟨k - 1, by omega⟩
    simp only [baileeref08_New.l0]
    rw [if_pos (by omega), if_pos (by decide), if_pos (by rw [List.length_replicate]; omega), zero_str, show List.replicate i zero128 ++ [zero128] = List.replicate (i + 1) zero128 by rw [List.replicate_succ'], show wrap64 ((i : Int) + 1) = ((i + 1 : Nat) : Int) by rw [IntWalk.wrap64_in _ ⟨by omega, by omega⟩]; omega]
    exact ih k n (i + 1) (by omega) (by omega) hn (by omega)
theorem new_f (n : Nat) (h1 : 1 ≤ n) (h2 : n ≤ 65536) : baileeref08_New.f (n + 2) n = some (List.replicate n zero128, -1, 0, false, 0) := by
  unfold baileeref08_New.f
  rw [if_neg (by omega)]
  simp only [baileeref08_New.j0]
  rw [if_neg (by simp; omega)]
  exact new_l0 n (n + 1) n 0 (by omega) (by omega) h2 (by omega)
theorem r_new (n : Nat) (h1 : 1 ≤ n) (h2 : n ≤ 65536) : Calls Try.prog 15 #[.int .i64 n] w fun e w' => ∃ v : Value, e = .returned (.tuple #[dv v ⟨List.replicate n zero128, -1, 0, false⟩, .int .i64 0]) ∧ Kd.R Kd.string 9 w' w.heap.size (fun _ => True) v (List.replicate n zero128) ∧ Below w.heap.size w w' :=
  baileeref08_New.calls (n + 2) n _ _ _ _ _ w (new_f n h1 h2)
theorem r_write {w0 : World} {P : Nat → Prop} {v : Value} (hB : Below w0.heap.size w0 w) (ho : Kd.R Kd.string 9 w w0.heap.size P v D.L) (h : D.Ok) (i : Int) (s : ByteArray) :
    Calls Try.prog 18 #[dv v D, .int .i64 i, .string s] w fun e w' => ∃ v0 : Value, e = .returned (.tuple #[dv v0 (D.write i s).1, .int .i64 (D.write i s).2]) ∧ Kd.R Kd.string 9 w' w0.heap.size (fun k => (P k ∨ w.heap.size ≤ k)) v0 (D.write i s).1.L ∧ Below w0.heap.size w0 w' ∧ Kept w w' (fun k => P k) :=
  baileeref08_Write.calls P v D.L D.left D.torn D.down i s _ _ _ _ _ w0 w hB ho (write_f h i s)
theorem r_stop {w0 : World} {P : Nat → Prop} {v : Value} (hB : Below w0.heap.size w0 w) (ho : Kd.R Kd.string 9 w w0.heap.size P v D.L) (a b : Int) :
    Calls Try.prog 20 #[dv v D, .int .i64 a, .int .i64 b] w fun e w' => ∃ v0 : Value, e = .returned (dv v0 (D.stop a b)) ∧ Kd.R Kd.string 9 w' w0.heap.size (fun k => (P k ∨ w.heap.size ≤ k)) v0 (D.stop a b).L ∧ Below w0.heap.size w0 w' ∧ Kept w w' (fun k => P k) :=
  baileeref08_Stop.calls 1 P v D.L D.left D.torn D.down a b _ _ _ _ w0 w hB ho (stop_f D a b)
theorem r_restart {w0 : World} {P : Nat → Prop} {v : Value} (hB : Below w0.heap.size w0 w) (ho : Kd.R Kd.string 9 w w0.heap.size P v D.L) :
    Calls Try.prog 24 #[dv v D] w fun e w' => ∃ v0 : Value, e = .returned (dv v0 D.restart) ∧ Kd.R Kd.string 9 w' w0.heap.size (fun k => (P k ∨ w.heap.size ≤ k)) v0 D.restart.L ∧ Below w0.heap.size w0 w' ∧ Kept w w' (fun k => P k) :=
  baileeref08_Restart.calls P v D.L D.left D.torn D.down _ _ _ _ w0 w hB ho rfl
end
end Go.Proofs.Ytnajdnhgoakgaaa.Blk
