/- A law's state: the disk, a log that lives on it, and what was told. -/
import Derived.Test.YtnajdnhgoakgaaaLNone
import Derived.Test.YtnajdnhgoakgaaaOpenR
namespace Go.Proofs.Ytnajdnhgoakgaaa.Wal
open Go.RowKit Go.Proofs.YtnajdnhgoakgaaaW.PrintWords Go.Proofs.YtnajdnhgoakgaaaW.PrintLast Go.Proofs.YtnajdnhgoakgaaaW.PrintMore Go.Proofs.Ytnajdnhgoakgaaa.Mem Go.Proofs.Ytnajdnhgoakgaaa.PWal Go.Proofs.Ytnajdnhgoakgaaa.Blk Go.Proofs.Ytnajdnhgoakgaaa.Open
set_option linter.unusedVariables false
set_option linter.unusedSimpArgs false
set_option maxRecDepth 8000
structure RS (w wr : World) (E : Nat → Prop) (gd gl : Nat) (fr n : Int) (D : DM) (L : LM) (q : List (List Int)) : Prop where
  sys : Sys w wr E gd gl D L
  live : Live D L
  hfr : L.fr = fr
  hn : L.n = n
  l : L.l = q
def Told (wr w : World) (E : Nat → Prop) (v : Value) (m : List ByteArray) : Prop := Kd.R Kd.string 9 wr w.heap.size (fun k => ¬ E k) v m
section
variable {w wr w' : World} {E : Nat → Prop} {gd gl : Nat} {fr n : Int} {D : DM} {L : LM} {q : List (List Int)} {v : Value} {m : List ByteArray}
theorem Told.ext (h : Told wr w E v m) (hk : Kept wr w' E) : Told w' w (Ext E wr w') v m :=
  Kd.R_mono (Kd.R_kept (Kd.R_bound h) hk (fun k hk2 => hk2.1)) (fun k hk2 he => he.1.elim hk2.1 (fun h2 => by have := hk2.2.2.1; omega))
theorem Told.below (h : Told wr w E v m) (hb : Below wr.heap.size wr w') : Told w' w E v m := Kd.R_below h hb
theorem Told.extb (h : Told wr w E v m) (hb : Below wr.heap.size wr w') : Told w' w (Ext E wr w') v m := h.ext (Kept.of_below hb _)
theorem RS.below (h : RS w wr E gd gl fr n D L q) (hb : Below wr.heap.size wr w') : RS w w' E gd gl fr n D L q := ⟨h.sys.below hb, h.live, h.hfr, h.hn, h.l⟩
theorem RS.grown (h : RS w wr E gd gl fr n D L q) (ht : Told wr w E v m) (hg : wr.grownBy w' v.ownBlock) (hb : Below w.heap.size w w') : RS w w' E gd gl fr n D L q :=
  ⟨h.sys.kept (S := fun k => v.ownBlock = some k) (Kept.of_grown hg (Kept.refl _ _) (fun k e => .inl e)) (fun k hE e => ht.1 k e hE) hb, h.live, h.hfr, h.hn, h.l⟩
/-- A row that came in: a call that writes in E leaves it. -/
theorem RS.came (h : Sys w wr E gd gl D L) {A : Option Addr} {b : List Int} (hC : Kd.C (Kd.int .u8) w A b.length b) : ∀ W, Kept wr W E → Kd.C (Kd.int .u8) W A b.length b :=
  Kd.C_kept_came (Kd.heap_int .u8) hC h.bl (fun k hk => (h.ed k hk).1)
theorem RS.add_full (h : RS w wr E gd gl fr n D L q) {b : List Int} {A : Option Addr} {c : Nat} (hC : Kd.C (Kd.int .u8) w A b.length b) (hc : b.length ≤ c) (hl : b.length ≤ 100000000) (hy : Byt b) (hf : L.n - L.hv < npc b) :
    Calls Try.prog 30 #[.pointer (some ⟨gl, 0, none⟩), .slice A b.length c] wr fun e w' => e = .returned (.int .i64 31) ∧ RS w w' (Ext E wr w') gd gl fr n D L q ∧ Kept wr w' E := by
  have hM : addM D L b = (D, L, 31) := by unfold addM; rw [if_neg (by simp [h.live.e0]), if_pos hf]
  refine (h.sys.add (RS.came h.sys hC) hc hl hy).mono ?_
  rw [hM]
  rintro e w' ⟨rfl, hs, hk⟩
  exact ⟨rfl, ⟨hs, h.live, h.hfr, h.hn, h.l⟩, hk⟩
theorem RS.add_ok (h : RS w wr E gd gl fr n D L q) (hd : D.left < 0) {b : List Int} {A : Option Addr} {c : Nat} (hC : Kd.C (Kd.int .u8) w A b.length b) (hc : b.length ≤ c) (hl : b.length ≤ 100000000) (hy : Byt b) (hf : ¬ L.n - L.hv < npc b) (hx : L.next + npc b ≤ 18446744073709551615) :
    Calls Try.prog 30 #[.pointer (some ⟨gl, 0, none⟩), .slice A b.length c] wr fun e w' => e = .returned (.int .i64 0) ∧ ∃ D', RS w w' (Ext E wr w') gd gl fr n D' (L.added b) (q ++ [b]) ∧ Tk D' (L.added b) ∧ Full D' (L.added b) ∧ D'.left < 0 ∧ Kept wr w' E := by
  have hx1 := h.live.x1
  have z := add_done (b := b) h.live hd hy hf (by omega)
  refine (h.sys.add (RS.came h.sys hC) hc hl hy).mono ?_
  rw [z.1, z.2.1]
  rintro e w' ⟨rfl, hs, hk⟩
  exact ⟨rfl, _, ⟨hs, z.2.2.1, h.hfr, h.hn, by show L.l ++ [b] = _; rw [h.l]⟩, z.2.2.2.1, z.2.2.2.2.1, by rw [z.2.2.2.2.2.1]; exact hd, hk⟩
end
theorem npc_blocks (b : List Int) : (npc b : Int) = blocksM b.length := by
  unfold npc blocksM pieces
  split
  · rw [if_pos (by omega)]; rfl
  · rw [if_neg (by omega)]; omega
theorem info_str : (Try.prog.info? 9).map (fun i => (i.zero, i.size, i.bytes)) = some (some (.string ByteArray.empty), 1, 16) := by kernel_rfl
theorem str_bytes {b : List Int} (h : Byt b) : bytesOf (strOfNums b) = b := bytesOf_str h
/-- Nothing on a new disk is read. -/
theorem zero_read : (readM (bytesOf zero128)).1 = 0 := by decide +kernel
theorem zero_take (k : Nat) (l t : Int) (d : Bool) (fr n : Int) : takeM (rowsD ⟨List.replicate k zero128, l, t, d⟩ fr n) 0 t0 = t0 :=
  take_stop (fun b hb => by
    obtain ⟨s, hs, rfl⟩ := List.mem_map.1 hb
    rw [List.eq_of_mem_replicate (List.mem_of_mem_drop (List.mem_of_mem_take hs)), zero_read]
    exact Int.le_refl _)
theorem begin_0 {k : Nat} {fr n : Int} (h1 : 1 ≤ k) (h2 : k ≤ 65536) (nb : ¬ bad (zD k) fr n) : Live (zD k) (beginM (zD k) fr n 1) ∧ Tk (zD k) (beginM (zD k) fr n 1) ∧ Full (zD k) (beginM (zD k) fr n 1) ∧ (beginM (zD k) fr n 1).next = 1 := by
  have hz : mostM (rowsD (zD k) fr n) = 0 := zero_most _ _ _ _ _ _
  have z := begin_live (D := zD k) (fr := fr) (n := n) (least := 1) (zero_ok k h1 h2) nb rfl (by omega) (by rw [hz]; decide)
  rw [hz] at z
  have hT : takeM (rowsD (zD k) fr n) 0 t0 = t0 := zero_take _ _ _ _ _ _
  exact ⟨z.1, ⟨by show (takeM (rowsD (zD k) fr n) 0 t0).l = _; rw [hT]; rfl, by show (takeM (rowsD (zD k) fr n) 0 t0).hv = _; rw [hT]; rfl, fun h => absurd rfl h⟩, by show mostM (rowsD (zD k) fr n) + 1 = _; rw [hz, z.2]; rfl, z.2⟩
end Go.Proofs.Ytnajdnhgoakgaaa.Wal
