/- The disk and the log on it, as a law holds them. -/
import Derived.Test.YtnajdnhgoakgaaaSam
namespace Go.Proofs.Ytnajdnhgoakgaaa.Wal
open Go.RowKit Go.Proofs.YtnajdnhgoakgaaaW.PrintWords Go.Proofs.YtnajdnhgoakgaaaW.PrintLast Go.Proofs.YtnajdnhgoakgaaaW.PrintMore Go.Proofs.Ytnajdnhgoakgaaa.Mem Go.Proofs.Ytnajdnhgoakgaaa.PWal Go.Proofs.Ytnajdnhgoakgaaa.Blk
set_option linter.unusedVariables false
set_option linter.unusedSimpArgs false
set_option maxRecDepth 8000
/-- What was in E, or is new since w. -/
def Ext (E : Nat → Prop) (w w' : World) : Nat → Prop := fun k => (E k ∨ w.heap.size ≤ k) ∧ k < w'.heap.size
/-- A disk, in E. -/
structure Dk (w0 w : World) (E : Nat → Prop) (gd : Nat) (D : DM) : Prop where
  bl : Below w0.heap.size w0 w
  ed : ∀ k, E k → w0.heap.size ≤ k ∧ k < w.heap.size
  dk : DiskAt w E gd D
/-- A disk, and a log on it, in E. -/
structure Sys (w0 w : World) (E : Nat → Prop) (gd gl : Nat) (D : DM) (L : LM) : Prop where
  bl : Below w0.heap.size w0 w
  ed : ∀ k, E k → w0.heap.size ≤ k ∧ k < w.heap.size
  ex : ∃ (base : Nat) (FD FL : Nat → Prop), DiskAt w FD gd D ∧ LogAt w base FL gl gd L ∧ (∀ k, FD k → E k) ∧ (∀ k, FL k → E k) ∧ Apart FD FL ∧ w0.heap.size ≤ base ∧ base ≤ w.heap.size
theorem DiskAt.ok_ {w : World} {F : Nat → Prop} {g : Nat} {D : DM} (h : DiskAt w F g D) : D.Ok := by obtain ⟨_, _, _, _, _, h⟩ := h; exact h
section
variable {w0 w w' : World} {E S : Nat → Prop} {gd gl : Nat} {D : DM} {L : LM}
theorem Dk.ok (h : Dk w0 w E gd D) : D.Ok := DiskAt.ok_ h.dk
theorem Sys.ok (h : Sys w0 w E gd gl D L) : D.Ok := by obtain ⟨base, FD, FL, h1, _⟩ := h.ex; exact DiskAt.ok_ h1
theorem Sys.lok (h : Sys w0 w E gd gl D L) : L.Ok := by obtain ⟨base, FD, FL, _, h1, _⟩ := h.ex; exact h1.ok
theorem Sys.dk (h : Sys w0 w E gd gl D L) : Dk w0 w E gd D := by
  obtain ⟨base, FD, FL, h1, _, h2, _⟩ := h.ex
  exact ⟨h.bl, h.ed, h1.mono h2⟩
theorem Dk.kept (h : Dk w0 w E gd D) (hk : Kept w w' S) (ha : ∀ k, E k → ¬ S k) (hb : Below w0.heap.size w0 w') : Dk w0 w' E gd D :=
  ⟨hb, fun k hE => ⟨(h.ed k hE).1, Nat.lt_of_lt_of_le (h.ed k hE).2 hk.1⟩, h.dk.kept hk ha⟩
theorem Dk.below (h : Dk w0 w E gd D) (hb : Below w.heap.size w w') : Dk w0 w' E gd D := h.kept (Kept.of_below hb (fun _ => False)) (fun _ _ h => h) (below_step h.bl hb)
theorem Sys.kept (h : Sys w0 w E gd gl D L) (hk : Kept w w' S) (ha : ∀ k, E k → ¬ S k) (hb : Below w0.heap.size w0 w') : Sys w0 w' E gd gl D L := by
  obtain ⟨base, FD, FL, h1, h2, h3, h4, h5, h6, h7⟩ := h.ex
  exact ⟨hb, fun k hE => ⟨(h.ed k hE).1, Nat.lt_of_lt_of_le (h.ed k hE).2 hk.1⟩, base, FD, FL, h1.kept hk (fun k hf => ha k (h3 k hf)), h2.kept hk (fun k hf => ha k (h4 k hf)), h3, h4, h5, h6, Nat.le_trans h7 hk.1⟩
theorem Sys.below (h : Sys w0 w E gd gl D L) (hb : Below w.heap.size w w') : Sys w0 w' E gd gl D L := h.kept (Kept.of_below hb (fun _ => False)) (fun _ _ h => h) (below_step h.bl hb)
/-! ### what is done -/
theorem Dk.new (hb : Below w0.heap.size w0 w) (n : Nat) (h1 : 1 ≤ n) (h2 : n ≤ 65536) : Calls Try.prog 14 #[.int .i64 n] w fun e w' => ∃ g, e = .returned (.tuple #[.pointer (some ⟨g, 0, none⟩), .int .i64 0]) ∧ Dk w0 w' (Ext (fun _ => False) w w') g ⟨List.replicate n zero128, -1, 0, false⟩ ∧ Below w.heap.size w w' := by
  refine (new_calls n h1 h2).mono ?_
  rintro e w' ⟨g, rfl, hd, h⟩
  have hz := below_size hb
  exact ⟨g, rfl, ⟨below_step hb h, fun k hk => ⟨hk.1.elim (fun h => h.elim) (fun h => Nat.le_trans hz h), hk.2⟩, (hd.cut (b := w.heap.size) (fun k hk => hk)).mono (fun k hk => ⟨.inr hk.1, hk.2.2⟩)⟩, h⟩
theorem Dk.open_ (h : Dk w0 w E gd D) (fr n : Int) : Calls Try.prog 36 #[.pointer (some ⟨gd, 0, none⟩), .int .i64 fr, .int .i64 n] w fun e w' => ∃ v, e = .returned (.tuple #[v, .int .i64 (allE D fr n)]) ∧ (allE D fr n ≠ 0 → v = .pointer none) ∧ (allE D fr n = 0 → ∃ gl, v = .pointer (some ⟨gl, 0, none⟩) ∧ Sys w0 w' (Ext E w w') gd gl D (openM D fr n)) ∧ Below w.heap.size w w' := by
  refine (open_calls h.dk fr n).mono ?_
  rintro e w' ⟨v, rfl, h1, h2, hb⟩
  have hz := below_size h.bl
  have hz2 := below_size hb
  refine ⟨v, rfl, h1, fun h0 => ?_, hb⟩
  obtain ⟨gl, rfl, hl⟩ := h2 h0
  refine ⟨gl, rfl, below_step h.bl hb, fun k hk => ⟨hk.1.elim (fun h' => (h.ed k h').1) (fun h' => by omega), hk.2⟩, w.heap.size, E, _, h.dk.below hb, hl.cut, fun k hk => ⟨.inl hk, Nat.lt_of_lt_of_le (h.ed k hk).2 hz2⟩, fun k hk => ⟨.inr hk.1, hk.2.2⟩, fun k hk hk2 => by have := (h.ed k hk).2; have := hk2.1; omega, hz, hz2⟩
theorem Dk.begin_ (h : Dk w0 w E gd D) (fr n l : Int) (hl0 : 0 ≤ l) (hl1 : l ≤ 18446744073709551615) : Calls Try.prog 29 #[.pointer (some ⟨gd, 0, none⟩), .int .i64 fr, .int .i64 n, .int .u64 l] w fun e w' => ∃ v, e = .returned (.tuple #[v, .int .i64 (allE D fr n)]) ∧ (allE D fr n ≠ 0 → v = .pointer none) ∧ (allE D fr n = 0 → ∃ gl, v = .pointer (some ⟨gl, 0, none⟩) ∧ Sys w0 w' (Ext E w w') gd gl D (beginM D fr n l)) ∧ Below w.heap.size w w' := by
  refine (begin_calls h.dk fr n l hl0 hl1).mono ?_
  rintro e w' ⟨v, rfl, h1, h2, hb⟩
  have hz := below_size h.bl
  have hz2 := below_size hb
  refine ⟨v, rfl, h1, fun h0 => ?_, hb⟩
  obtain ⟨gl, rfl, hl⟩ := h2 h0
  refine ⟨gl, rfl, below_step h.bl hb, fun k hk => ⟨hk.1.elim (fun h' => (h.ed k h').1) (fun h' => by omega), hk.2⟩, w.heap.size, E, _, h.dk.below hb, hl.cut, fun k hk => ⟨.inl hk, Nat.lt_of_lt_of_le (h.ed k hk).2 hz2⟩, fun k hk => ⟨.inr hk.1, hk.2.2⟩, fun k hk hk2 => by have := (h.ed k hk).2; have := hk2.1; omega, hz, hz2⟩
theorem Sys.add (h : Sys w0 w E gd gl D L) {b : List Int} {A : Option Addr} {c : Nat} (hr : ∀ W, Kept w W E → Kd.C (Kd.int .u8) W A b.length b) (hc : b.length ≤ c) (hl : b.length ≤ 100000000) (hy : Byt b) :
    Calls Try.prog 30 #[.pointer (some ⟨gl, 0, none⟩), .slice A b.length c] w fun e w' => e = .returned (.int .i64 (addM D L b).2.2) ∧ Sys w0 w' (Ext E w w') gd gl (addM D L b).1 (addM D L b).2.1 ∧ Kept w w' E := by
  obtain ⟨base, FD, FL, h1, h2, h3, h4, h5, h6, h7⟩ := h.ex
  have hz := below_size h.bl
  refine (add_calls (w0 := w0) (base := base) (FD := FD) (FL := FL) (A := A) (c := c) ⟨h.bl, h1, h2, fun k hk => h.ed k (h3 k hk), fun k hk => h.ed k (h4 k hk), h5, ⟨h6, h7⟩, fun W hk => hr W (hk.mono (fun k hk => hk.elim (h3 k) (h4 k))), hc, hl, hy⟩).mono ?_
  rintro e w' ⟨rfl, hp⟩
  have hz2 := hp.kp.1
  refine ⟨rfl, ⟨hp.bl, fun k hk => ⟨hk.1.elim (fun h' => (h.ed k h').1) (fun h' => by omega), hk.2⟩, base, FD, _, hp.dk, hp.lg.cut, fun k hk => ⟨.inl (h3 k hk), Nat.lt_of_lt_of_le (h.ed k (h3 k hk)).2 hz2⟩, fun k hk => ⟨hk.1.elim (fun hf => .inl (h4 k hf)) .inr, hk.2.2⟩, fun k hk hk2 => hk2.1.elim (h5 k hk) (fun hf => by have := (h.ed k (h3 k hk)).2; omega), h6, Nat.le_trans h7 hz2⟩, hp.kp.mono (fun k hk => hk.elim (h3 k) (h4 k))⟩
theorem Sys.stop (h : Sys w0 w E gd gl D L) (a b : Int) (ha : a ≤ 9223372036854775807) : Calls Try.prog 19 #[.pointer (some ⟨gd, 0, none⟩), .int .i64 a, .int .i64 b] w fun e w' => e = .returned (.tuple #[]) ∧ Sys w0 w' E gd gl (D.stop a b) L ∧ Kept w w' E := by
  obtain ⟨base, FD, FL, h1, h2, h3, h4, h5, h6, h7⟩ := h.ex
  refine (stop_calls h.bl (fun k hk => (h.ed k (h3 k hk)).1) h1 a b ha).mono ?_
  rintro e w' ⟨rfl, hd, hb, hk⟩
  exact ⟨rfl, ⟨hb, fun k hE => ⟨(h.ed k hE).1, Nat.lt_of_lt_of_le (h.ed k hE).2 hk.1⟩, base, FD, FL, hd, h2.kept hk h5.symm, h3, h4, h5, h6, Nat.le_trans h7 hk.1⟩, hk.mono h3⟩
theorem Dk.restart (h : Dk w0 w E gd D) : Calls Try.prog 23 #[.pointer (some ⟨gd, 0, none⟩)] w fun e w' => e = .returned (.tuple #[]) ∧ Dk w0 w' E gd D.restart ∧ Kept w w' E := by
  refine (restart_calls h.bl (fun k hk => (h.ed k hk).1) h.dk).mono ?_
  rintro e w' ⟨rfl, hd, hb, hk⟩
  exact ⟨rfl, ⟨hb, fun k hE => ⟨(h.ed k hE).1, Nat.lt_of_lt_of_le (h.ed k hE).2 hk.1⟩, hd⟩, hk⟩
theorem Sys.restart (h : Sys w0 w E gd gl D L) : Calls Try.prog 23 #[.pointer (some ⟨gd, 0, none⟩)] w fun e w' => e = .returned (.tuple #[]) ∧ Sys w0 w' E gd gl D.restart L ∧ Kept w w' E := by
  obtain ⟨base, FD, FL, h1, h2, h3, h4, h5, h6, h7⟩ := h.ex
  refine (restart_calls h.bl (fun k hk => (h.ed k (h3 k hk)).1) h1).mono ?_
  rintro e w' ⟨rfl, hd, hb, hk⟩
  exact ⟨rfl, ⟨hb, fun k hE => ⟨(h.ed k hE).1, Nat.lt_of_lt_of_le (h.ed k hE).2 hk.1⟩, base, FD, FL, hd, h2.kept hk h5.symm, h3, h4, h5, h6, Nat.le_trans h7 hk.1⟩, hk.mono h3⟩
theorem Sys.write (h : Sys w0 w E gd gl D L) (i : Int) (A : Option Addr) (n c : Nat) (s : ByteArray) (hn : n = s.size) (hr : ∀ W, Kept w W E → Kd.C (Kd.int .u8) W A n (bytesOf s)) :
    Calls Try.prog 17 #[.pointer (some ⟨gd, 0, none⟩), .int .i64 i, .slice A n c] w fun e w' => e = .returned (.int .i64 (D.write i s).2) ∧ Sys w0 w' E gd gl (D.write i s).1 L ∧ Kept w w' E := by
  obtain ⟨base, FD, FL, h1, h2, h3, h4, h5, h6, h7⟩ := h.ex
  refine (write_row h.bl (fun k hk => (h.ed k (h3 k hk)).1) h1 i A n c s hn (fun W hk => hr W (hk.mono h3))).mono ?_
  rintro e w' ⟨rfl, hd, hb, hk⟩
  exact ⟨rfl, ⟨hb, fun k hE => ⟨(h.ed k hE).1, Nat.lt_of_lt_of_le (h.ed k hE).2 hk.1⟩, base, FD, FL, hd, h2.kept hk h5.symm, h3, h4, h5, h6, Nat.le_trans h7 hk.1⟩, hk.mono h3⟩
theorem Sys.next (h : Sys w0 w E gd gl D L) : Calls Try.prog 32 #[.pointer (some ⟨gl, 0, none⟩)] w fun e w' => e = .returned (.int .u64 L.next) ∧ w = w' := by
  obtain ⟨base, FD, FL, h1, h2, _⟩ := h.ex; exact next_calls h2
theorem Sys.first (h : Sys w0 w E gd gl D L) : Calls Try.prog 33 #[.pointer (some ⟨gl, 0, none⟩)] w fun e w' => e = .returned (.int .u64 L.First) ∧ w = w' := by
  obtain ⟨base, FD, FL, h1, h2, _⟩ := h.ex; exact first_calls h2
theorem Sys.free (h : Sys w0 w E gd gl D L) : Calls Try.prog 34 #[.pointer (some ⟨gl, 0, none⟩)] w fun e w' => e = .returned (.int .i64 (L.n - L.hv)) ∧ Below w.heap.size w w' := by
  obtain ⟨base, FD, FL, h1, h2, _⟩ := h.ex; exact free_calls h2
theorem Sys.records (h : Sys w0 w E gd gl D L) : Calls Try.prog 31 #[.pointer (some ⟨gl, 0, none⟩)] w fun e w' => ∃ v, e = .returned v ∧ KR.R 35 w' w.heap.size (fun _ => True) v L.l ∧ Below w.heap.size w w' := by
  obtain ⟨base, FD, FL, h1, h2, _⟩ := h.ex; exact records_calls h2
end
/-! ### whole steps of what stays true -/
theorem wr_of {D : DM} {L : LM} {b : List Int} (h : Live D L) (hf : ¬ L.n - L.hv < npc b) : ∃ a : Nat, (a : Int) = L.fr + L.hv ∧ a + npc b ≤ D.L.length := by
  have h1 := h.nb; have h2 := h.h0; have h3 := h.h1
  unfold bad at h1
  exact ⟨(L.fr + L.hv).toNat, by omega, by omega⟩
/-- A record that fits is added, if the disk does not stop. -/
theorem add_done {D : DM} {L : LM} {b : List Int} (h : Live D L) (hn : D.left < 0) (hy : Byt b) (hf : ¬ L.n - L.hv < npc b) (hx : ¬ (L.next = 0 ∨ 18446744073709551615 < L.next + npc b)) :
    (addM D L b).2.2 = 0 ∧ (addM D L b).2.1 = L.added b ∧ Live (addM D L b).1 (L.added b) ∧ Tk (addM D L b).1 (L.added b) ∧ Full (addM D L b).1 (L.added b) ∧ (addM D L b).1.left = D.left ∧ (addM D L b).1.L.length = D.L.length := by
  obtain ⟨a, ha, hl⟩ := wr_of h hf
  have hM : addM D L b = if (wrs (L.fr + L.hv) L.next b 0 (npc b) D).2 = 0 then ((wrs (L.fr + L.hv) L.next b 0 (npc b) D).1, L.added b, 0)
      else ((wrs (L.fr + L.hv) L.next b 0 (npc b) D).1, { L with e := (wrs (L.fr + L.hv) L.next b 0 (npc b) D).2 }, (wrs (L.fr + L.hv) L.next b 0 (npc b) D).2) := by
    unfold addM; rw [if_neg (by simp [h.e0]), if_neg hf, if_neg hx]
  rcases wrs_ends (N := L.next) hl (npc b) 0 D (Wr.zero h.ok h.up a L.next b) (by omega) with ⟨e, hw⟩ | ⟨_, i, c, _, hw⟩
  · rw [ha] at e hw
    have z := add_live h hy hf hx ha hw
    rw [hM, if_pos e]
    exact ⟨rfl, rfl, z.1, z.2.1, z.2.2, hw.lf hn, hw.len⟩
  · exact absurd hn hw.lf
end Go.Proofs.Ytnajdnhgoakgaaa.Wal
