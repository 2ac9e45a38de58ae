/- The law BlocksTorn: what the disk is, loop by loop. -/
import Derived.Test.YtnajdnhgoakgaaaOwn
namespace Go.Proofs.Ytnajdnhgoakgaaa.Blk
open Go.RowKit Go.Proofs.YtnajdnhgoakgaaaW.PrintWords Go.Proofs.YtnajdnhgoakgaaaW.PrintLast Go.Proofs.YtnajdnhgoakgaaaW.PrintMore Go.Proofs.Ytnajdnhgoakgaaa.Mem Go.Proofs.Ytnajdnhgoakgaaa.PBlk
set_option linter.unusedVariables false
set_option linter.unusedSimpArgs false

/-- Up, so long, so many bytes, and these blocks hold their own filling. -/
def TInv (D : DM) (k : Nat) (left torn : Int) (P : Nat → Prop) : Prop := D.L.length = k ∧ D.down = false ∧ D.left = left ∧ D.torn = torn ∧ ∀ j : Nat, P j → j < k → D.blk j = fill (j : Int) 128
theorem TInv.fine {D : DM} {k : Nat} {l t : Int} {P : Nat → Prop} (h : TInv D k l t P) {i : Int} (h0 : 0 ≤ i) (h1 : i < k) : D.fine i = 0 := by
  unfold DM.fine
  rw [if_neg (by rw [h.2.1]; simp), if_neg (by have := h.1; omega)]
theorem blk_set_ {L : List ByteArray} {a j : Nat} {s : ByteArray} (D : DM) (hD : D.L = L.set a s) (ha : a < L.length) (D0 : DM) (h0 : D0.L = L) : D.blk j = if j = a then s else D0.blk j := by
  unfold DM.blk
  rw [hD, h0, List.getD_eq_getElem?_getD, List.getD_eq_getElem?_getD, Int.toNat_natCast]
  by_cases h : j = a
  · subst h
    rw [if_pos rfl, List.getElem?_set_self ha]
    rfl
  · rw [if_neg h, List.getElem?_set_ne (fun h2 => h h2.symm)]
theorem tinv_new (k : Nat) : TInv ⟨List.replicate k zero128, -1, 0, false⟩ k (-1) 0 (fun j => j < 0) := ⟨by simp, rfl, rfl, rfl, fun j h => by omega⟩
theorem tinv_1 {D : DM} {k i : Nat} (h : TInv D k (-1) 0 (fun j => j < i)) (hi : i < k) : TInv (D.write i (fill (i : Int) 128)).1 k (-1) 0 (fun j => j < i + 1) := by
  rw [write_1 (fill_size _ _) (h.fine (by omega) (by omega)) (by rw [h.2.2.1]; decide), Int.toNat_natCast]
  refine ⟨by simpa using h.1, h.2.1, by rw [h.2.2.1]; rfl, h.2.2.2.1, fun j hj hk => ?_⟩
  rw [blk_set_ (L := D.L) (a := i) (s := fill (i : Int) 128) _ rfl (by rw [h.1]; exact hi) D rfl]
  split
  · rename_i h2; rw [h2]
  · exact h.2.2.2.2 j (by show j < i; have : j < i + 1 := hj; omega) hk
def clamp (torn : Int) : Int := if torn < 0 then 0 else if torn > 128 then 128 else torn
theorem tinv_stop {D : DM} {k s : Nat} (h : TInv D k (-1) 0 (fun j => j < k)) (torn : Int) (nx : Nat) : TInv (D.stop s torn) k ((s : Int) - (0 : Nat)) (clamp torn) (fun j => (0 : Nat) = 0 ∨ j ≠ nx) :=
  ⟨h.1, h.2.1, by show (if (s : Int) < 0 then (-1 : Int) else s) = _; rw [if_neg (by omega)]; omega, rfl, fun j _ hk => h.2.2.2.2 j hk hk⟩
theorem tinv_2 {D : DM} {k s i nx : Nat} {t : Int} (h : TInv D k ((s : Int) - i) t (fun j => i = 0 ∨ j ≠ nx)) (hi : i < s) (hn : nx < k) (x : ByteArray) (hx : x.size = 128) :
    (D.write nx x).2 = 0 ∧ TInv (D.write nx x).1 k ((s : Int) - (i + 1 : Nat)) t (fun j => i + 1 = 0 ∨ j ≠ nx) := by
  rw [write_1 hx (h.fine (by omega) (by omega)) (by rw [h.2.2.1]; omega), Int.toNat_natCast]
  refine ⟨rfl, by simpa using h.1, h.2.1, ?_, h.2.2.2.1, fun j hj hk => ?_⟩
  · show (if D.left > 0 then D.left - 1 else D.left) = _
    rw [h.2.2.1, if_pos (by omega)]
    omega
  · have hj2 : j ≠ nx := by rcases hj with h2 | h2; omega; exact h2
    rw [blk_set_ (L := D.L) (a := nx) (s := x) _ rfl (by rw [h.1]; exact hn) D rfl, if_neg hj2]
    exact h.2.2.2.2 j (.inr hj2) hk
/-- Torn, and begun anew. -/
def torn_want (a : Nat) (t : Int) : ByteArray := (fill 200 128).extract 0 t.toNat ++ (fill (a : Int) 128).extract t.toNat 128
theorem torn_want_size {a tn : Nat} {t : Int} (h : tn ≤ 128) (ht : (tn : Int) = t) : (torn_want a t).size = 128 := by
  unfold torn_want
  rw [ByteArray.size_append, ByteArray.size_extract, ByteArray.size_extract, fill_size, fill_size]
  omega
theorem tinv_3 {D : DM} {k s nx a : Nat} {t : Int} (h : TInv D k ((s : Int) - s) t (fun j => s = 0 ∨ j ≠ nx)) (ha : a < k) (hne : a ≠ nx) :
    (D.write a (fill 200 128)).2 = 30 ∧ (∀ j : Nat, j < k → (D.write a (fill 200 128)).1.restart.fine j = 0) ∧ (D.write a (fill 200 128)).1.restart.blk a = torn_want a t ∧
    ∀ j : Nat, j < k → j ≠ a → (s = 0 ∨ j ≠ nx) → (D.write a (fill 200 128)).1.restart.blk j = fill (j : Int) 128 := by
  have hw : D.write a (fill 200 128) = ({ D with L := D.L.set a (torn_want a t), down := true }, 30) := by
    unfold DM.write
    rw [if_neg (by rw [h.fine (by omega) (by omega)]; simp), if_neg (by rw [fill_size]; simp), if_pos (by rw [h.2.2.1]; omega), h.2.2.2.1, h.2.2.2.2 a (.inr hne) ha]
    rfl
  rw [hw]
  refine ⟨rfl, fun j hj => ?_, ?_, fun j hj hja hjn => ?_⟩
  · unfold DM.fine
    rw [if_neg (by simp [DM.restart]), if_neg (by have := h.1; simp only [DM.restart, List.length_set]; omega)]
  · rw [blk_set_ (L := D.L) (a := a) (s := torn_want a t) _ rfl (by rw [h.1]; exact ha) D rfl, if_pos rfl]
  · rw [blk_set_ (L := D.L) (a := a) (s := torn_want a t) _ rfl (by rw [h.1]; exact ha) D rfl, if_neg hja]
    exact h.2.2.2.2 j hjn hj
/-- A part of a row as a string. -/
theorem conv_part {w wd : World} {base b c : Nat} {ok : Nat → Prop} {s : ByteArray} (hv : Kd.R (Kd.int .u8) 5 w base ok (.slice (some ⟨b, 0, none⟩) 128 c) (bytesOf s)) (hs : s.size = 128) (hb : Below w.heap.size w wd) (off n c2 : Nat) (hn : off + n ≤ 128) :
    (convert 35 9 (.slice (some ⟨b, off, none⟩) n c2)).run Try.prog wd = .ok (.string (s.extract off (off + n))) wd := by
  have hl : (bytesOf s).length = 128 := by rw [bytesOf_length, hs]
  obtain ⟨b2, c3, e, _, _, _, hat⟩ := own_at (Kd.R_below hv hb) (by rw [hl]; omega)
  rw [hl] at e
  cases e
  have hx : (((bytesOf s).take (off + n)).drop off).length = n := by rw [List.length_drop, List.length_take, hl]; omega
  have h := Kd.C_string (P := Try.prog) (w := wd) (src := 35) (dst := 9) (e := 5) (A := some ⟨b, off, none⟩) (n := n) (c := c2) (xs := ((bytesOf s).take (off + n)).drop off) Try.underlying35 Try.underlying5 Try.underlying9
    (Kd.C_of_reads (d := (0 : Int)) (h1 := fun _ => rfl) ⟨hx, by omega, fun _ => ⟨_, rfl, fun j hj => by
      have ha : (⟨b, off, none⟩ : Addr).add j = ⟨b, off + j, none⟩ := by unfold Addr.add; split <;> simp_all
      rw [ha, hat (off + j) (by rw [hl]; omega)]
      have e1 : rd (bytesOf s) ((off + j : Nat) : Int) = (((bytesOf s).take (off + n)).drop off).getD j 0 := by
        rw [List.getD_eq_getElem?_getD, List.getElem?_drop, List.getElem?_take, if_pos (by omega)]
        show (bytesOf s).getD (((off + j : Nat) : Int)).toNat 0 = _
        rw [Int.toNat_natCast, List.getD_eq_getElem?_getD]
      rw [e1]⟩⟩)
  rw [h, ← bytesOf_extract, str_bytesOf]
theorem conv_none {wd : World} (A : Option Addr) (c2 : Nat) : (convert 35 9 (.slice A 0 c2)).run Try.prog wd = .ok (.string ByteArray.empty) wd := by
  have h := Kd.C_string (P := Try.prog) (w := wd) (src := 35) (dst := 9) (e := 5) (A := A) (n := 0) (c := c2) (xs := []) Try.underlying35 Try.underlying5 Try.underlying9
    (Kd.C_of_reads (d := (0 : Int)) (h1 := fun _ => rfl) ⟨rfl, by omega, fun h => by simp at h⟩)
  rw [h]
  rfl
theorem extract_none (s : ByteArray) (n : Nat) : s.extract n n = ByteArray.empty := by
  rw [← str_bytesOf (s.extract n n), bytesOf_extract, List.drop_of_length_le (by rw [List.length_take]; omega)]
  rfl
theorem conv_rest {w wd : World} {base b c : Nat} {ok : Nat → Prop} {s : ByteArray} (hv : Kd.R (Kd.int .u8) 5 w base ok (.slice (some ⟨b, 0, none⟩) 128 c) (bytesOf s)) (hs : s.size = 128) (hb : Below w.heap.size w wd) (tn : Nat) (ht : tn ≤ 128) (hc : 128 ≤ c) :
    (convert 35 9 (.slice (if c = tn then some ⟨b, 0, none⟩ else some ⟨b, tn, none⟩) (128 - tn) (c - tn))).run Try.prog wd = .ok (.string (s.extract tn 128)) wd := by
  by_cases h : c = tn
  · obtain rfl : tn = 128 := by omega
    rw [if_pos h, extract_none]
    exact conv_none _ _
  · rw [if_neg h]
    have := conv_part hv hs hb tn (128 - tn) (c - tn) (by omega)
    rw [show tn + (128 - tn) = 128 by omega] at this
    exact this
end Go.Proofs.Ytnajdnhgoakgaaa.Blk
