/- The log by values: what becomes of the disk's blocks. -/
import Derived.Test.YtnajdnhgoakgaaaWalM
namespace Go.Proofs.Ytnajdnhgoakgaaa.Wal
open Go.RowKit Go.Proofs.YtnajdnhgoakgaaaW.PrintWords Go.Proofs.Ytnajdnhgoakgaaa.Mem Go.Proofs.Ytnajdnhgoakgaaa.PWal Go.Proofs.Ytnajdnhgoakgaaa.Blk
set_option linter.unusedVariables false
set_option linter.unusedSimpArgs false
set_option maxRecDepth 8000
theorem rowsD_get (D : DM) (fr n : Int) (k : Nat) : (rowsD D fr n)[k]? = if k < n.toNat then (D.L[fr.toNat + k]?).map bytesOf else none := by
  unfold rowsD
  rw [List.getElem?_map, List.getElem?_take]
  split
  · rw [List.getElem?_drop]
  · rfl
theorem ok_set {D : DM} (h : D.Ok) {s : ByteArray} (hs : s.size = 128) (i : Nat) {l : Int} (h1 : -1 ≤ l) (h2 : l ≤ 9223372036854775807) (d : Bool) : ({ L := D.L.set i s, left := l, torn := D.torn, down := d } : DM).Ok := by
  refine ⟨fun x hx => ?_, by show 1 ≤ (D.L.set i s).length; rw [List.length_set]; exact h.n1, by show (D.L.set i s).length ≤ _; rw [List.length_set]; exact h.n2, h1, h2, h.t1, h.t2⟩
  rcases List.mem_or_eq_of_mem_set hx with hx | hx
  · exact h.sz x hx
  · rw [hx]; exact hs
/-- The block at which it stops. -/
def tornB (D : DM) (i : Int) (s : ByteArray) : ByteArray := s.extract 0 D.torn.toNat ++ (D.blk i).extract D.torn.toNat 128
theorem torn_size {D : DM} (h : D.Ok) {i : Int} (hf : D.fine i = 0) {s : ByteArray} (hs : s.size = 128) : (tornB D i s).size = 128 := by
  obtain ⟨_, f2, f3⟩ := fine_0 hf
  have hb := (blk_at h f2 f3).1
  have h1 := h.t1; have h2 := h.t2
  unfold tornB
  rw [ByteArray.size_append, ByteArray.size_extract, ByteArray.size_extract, hs, hb]
  omega
theorem write_z {D : DM} {s : ByteArray} {i : Int} (hs : s.size = 128) (hf : D.fine i = 0) (hl : D.left = 0) : D.write i s = ({ L := D.L.set i.toNat (tornB D i s), left := D.left, torn := D.torn, down := true }, 30) := by
  unfold DM.write
  rw [if_neg (by omega), if_neg (by omega), if_pos hl]
  rfl
/-- The first j blocks of a record are written from block a on. -/
structure Wr (D D' : DM) (a : Nat) (N : Int) (b : List Int) (j : Nat) : Prop where
  ok : D'.Ok
  up : D'.down = false
  len : D'.L.length = D.L.length
  tn : D'.torn = D.torn
  lf : D.left < 0 → D'.left = D.left
  el : ∀ k : Nat, D'.L[k]? = if a ≤ k ∧ k < a + j then some (blkS N b (k - a)) else D.L[k]?
theorem Wr.zero {D : DM} (h : D.Ok) (hu : D.down = false) (a : Nat) (N : Int) (b : List Int) : Wr D D a N b 0 :=
  ⟨h, hu, rfl, rfl, fun _ => rfl, fun k => by rw [if_neg (by omega)]⟩
theorem Wr.fine {D D' : DM} {a j : Nat} {N : Int} {b : List Int} (h : Wr D D' a N b j) (hl : a + j < D.L.length) : D'.fine ((a : Int) + j) = 0 := by
  unfold DM.fine
  rw [if_neg (by rw [h.up]; simp), if_neg (by rw [h.len]; omega)]
theorem Wr.next {D D' : DM} {a j : Nat} {N : Int} {b : List Int} (h : Wr D D' a N b j) (hl : a + j < D.L.length) (h0 : D'.left ≠ 0) : (D'.write ((a : Int) + j) (blkS N b j)).2 = 0 ∧ Wr D (D'.write ((a : Int) + j) (blkS N b j)).1 a N b (j + 1) := by
  have hs := blkS_size N b j
  rw [write_1 hs (h.fine hl) h0]
  have h1 := h.ok.l1; have h2 := h.ok.l2
  refine ⟨rfl, ok_set h.ok hs _ (by split <;> omega) (by split <;> omega) _, h.up, by show (D'.L.set _ _).length = _; rw [List.length_set, h.len], h.tn, fun hn => ?_, fun k => ?_⟩
  · have := h.lf hn
    show (if D'.left > 0 then D'.left - 1 else D'.left) = D.left
    rw [if_neg (by omega), this]
  · show (D'.L.set ((a : Int) + j).toNat (blkS N b j))[k]? = _
    rw [show ((a : Int) + j).toNat = a + j by omega, List.getElem?_set, h.len]
    by_cases hk : a + j = k
    · rw [if_pos hk, if_pos (by omega), if_pos (by omega), show k - a = j by omega]
    · rw [if_neg hk, h.el k]
      by_cases hk2 : a ≤ k ∧ k < a + j
      · rw [if_pos hk2, if_pos ⟨hk2.1, by omega⟩]
      · rw [if_neg hk2, if_neg (by omega)]
/-- And the next is torn. -/
structure WrT (D D' : DM) (a : Nat) (N : Int) (b : List Int) (j : Nat) (c : ByteArray) : Prop where
  ok : D'.Ok
  len : D'.L.length = D.L.length
  lf : ¬ D.left < 0
  tc : ∃ t : Nat, t ≤ 128 ∧ c = (blkS N b j).extract 0 t ++ (D.L.getD (a + j) ByteArray.empty).extract t 128
  el : ∀ k : Nat, D'.L[k]? = if a ≤ k ∧ k < a + j then some (blkS N b (k - a)) else if k = a + j then some c else D.L[k]?
theorem Wr.tears {D D' : DM} {a j : Nat} {N : Int} {b : List Int} (h : Wr D D' a N b j) (hl : a + j < D.L.length) (h0 : D'.left = 0) : (D'.write ((a : Int) + j) (blkS N b j)).2 = 30 ∧ ∃ c, WrT D (D'.write ((a : Int) + j) (blkS N b j)).1 a N b j c := by
  have hs := blkS_size N b j
  have ht := torn_size h.ok (h.fine hl) hs
  rw [write_z hs (h.fine hl) h0]
  have h1 := h.ok.t1; have h2 := h.ok.t2
  refine ⟨rfl, tornB D' ((a : Int) + j) (blkS N b j), ok_set h.ok ht _ h.ok.l1 h.ok.l2 _, by show (D'.L.set _ _).length = _; rw [List.length_set, h.len], fun hn => by have := h.lf hn; omega, ⟨D'.torn.toNat, by omega, ?_⟩, fun k => ?_⟩
  · unfold tornB DM.blk
    rw [show ((a : Int) + j).toNat = a + j by omega, List.getD_eq_getElem?_getD, List.getD_eq_getElem?_getD, h.el (a + j), if_neg (by omega)]
  · show (D'.L.set ((a : Int) + j).toNat _)[k]? = _
    rw [show ((a : Int) + j).toNat = a + j by omega, List.getElem?_set, h.len]
    by_cases hk : a + j = k
    · rw [if_pos hk, if_pos (by omega), if_neg (by omega), if_pos hk.symm]
    · rw [if_neg hk, h.el k, if_neg (show ¬ k = a + j by omega)]
theorem wrs_ends {D : DM} {a : Nat} {N : Int} {b : List Int} (hl : a + npc b ≤ D.L.length) : ∀ (r j : Nat) (D' : DM), Wr D D' a N b j → j + r = npc b →
    ((wrs a N b j r D').2 = 0 ∧ Wr D (wrs a N b j r D').1 a N b (npc b)) ∨ ((wrs a N b j r D').2 = 30 ∧ ∃ i c, i < npc b ∧ WrT D (wrs a N b j r D').1 a N b i c)
  | 0, j, D', h, hj => .inl ⟨rfl, by have e : j = npc b := by omega
                                     rw [← e]; exact h⟩
  | r + 1, j, D', h, hj => by
    have hlt : a + j < D.L.length := by omega
    by_cases h0 : D'.left = 0
    · obtain ⟨e, c, hc⟩ := h.tears hlt h0
      rw [wrs_no (by rw [e]; decide)]
      exact .inr ⟨e, j, c, by omega, hc⟩
    · obtain ⟨e, hw⟩ := h.next hlt h0
      rw [wrs_yes e]
      exact wrs_ends hl r (j + 1) _ hw (by omega)
/-! ### the rows -/
theorem in_rows {D : DM} {fr n : Int} (hb : ¬ bad D fr n) {k : Nat} (hk : k < n.toNat) : fr.toNat + k < D.L.length := by unfold bad at hb; omega
theorem blkS_row (N : Int) {b : List Int} (hb : Byt b) (i : Nat) : bytesOf (blkS N b i) = blkR N b i := blkS_bytes N hb i
theorem Wr.rows {D D' : DM} {a j h : Nat} {N fr n : Int} {b : List Int} (hy : Byt b) (hb : ¬ bad D fr n) (ha : (a : Int) = fr + h) (hj : h + j ≤ n.toNat) (w : Wr D D' a N b j) :
    rowsD D' fr n = (rowsD D fr n).take h ++ ((List.range j).map (blkR N b) ++ (rowsD D fr n).drop (h + j)) := by
  have hl := rows_len hb
  have hfr : 0 ≤ fr := by unfold bad at hb; omega
  apply List.ext_getElem?
  intro k
  rw [rowsD_get]
  by_cases h1 : k < h
  · rw [if_pos (by omega), List.getElem?_append_left (by rw [List.length_take]; omega), List.getElem?_take, if_pos h1, rowsD_get, if_pos (by omega), w.el, if_neg (by omega)]
  · rw [List.getElem?_append_right (by rw [List.length_take]; omega), List.length_take, show k - min h (rowsD D fr n).length = k - h by omega]
    by_cases h2 : k < h + j
    · rw [if_pos (by omega), List.getElem?_append_left (by rw [List.length_map, List.length_range]; omega), List.getElem?_map, List.getElem?_range (by omega), w.el, if_pos (by omega)]
      show some (bytesOf _) = some (blkR N b (k - h))
      rw [show fr.toNat + k - a = k - h by omega, blkS_row N hy]
    · rw [List.getElem?_append_right (by rw [List.length_map, List.length_range]; omega), List.length_map, List.length_range, List.getElem?_drop, rowsD_get, show h + j + (k - h - j) = k by omega]
      split
      · rw [w.el, if_neg (by omega)]
      · rfl
theorem WrT.rows {D D' : DM} {a j h : Nat} {N fr n : Int} {b : List Int} {c : ByteArray} (hy : Byt b) (hb : ¬ bad D fr n) (ha : (a : Int) = fr + h) (hj : h + j < n.toNat) (w : WrT D D' a N b j c) :
    rowsD D' fr n = (rowsD D fr n).take h ++ ((List.range j).map (blkR N b) ++ (bytesOf c :: (rowsD D fr n).drop (h + j + 1))) := by
  have hl := rows_len hb
  have hfr : 0 ≤ fr := by unfold bad at hb; omega
  apply List.ext_getElem?
  intro k
  rw [rowsD_get]
  by_cases h1 : k < h
  · rw [if_pos (by omega), List.getElem?_append_left (by rw [List.length_take]; omega), List.getElem?_take, if_pos h1, rowsD_get, if_pos (by omega), w.el, if_neg (by omega), if_neg (by omega)]
  · rw [List.getElem?_append_right (by rw [List.length_take]; omega), List.length_take, show k - min h (rowsD D fr n).length = k - h by omega]
    by_cases h2 : k < h + j
    · rw [if_pos (by omega), List.getElem?_append_left (by rw [List.length_map, List.length_range]; omega), List.getElem?_map, List.getElem?_range (by omega), w.el, if_pos (by omega)]
      show some (bytesOf _) = some (blkR N b (k - h))
      rw [show fr.toNat + k - a = k - h by omega, blkS_row N hy]
    · rw [List.getElem?_append_right (by rw [List.length_map, List.length_range]; omega), List.length_map, List.length_range]
      by_cases h3 : k = h + j
      · rw [if_pos (by omega), w.el, if_neg (by omega), if_pos (by omega), show k - h - j = 0 by omega]
        rfl
      · obtain ⟨m, hm⟩ : ∃ m, k - h - j = m + 1 := ⟨k - h - j - 1, by omega⟩
        rw [hm, List.getElem?_cons_succ, List.getElem?_drop, rowsD_get, show h + j + 1 + m = k by omega]
        split
        · rw [w.el, if_neg (by omega), if_neg (by omega)]
        · rfl
/-- The torn block's bytes. -/
theorem WrT.bytes {D D' : DM} {a j h : Nat} {N fr n : Int} {b : List Int} {c : ByteArray} (hy : Byt b) (hok : D.Ok) (hb : ¬ bad D fr n) (ha : (a : Int) = fr + h) (hj : h + j < n.toNat) (w : WrT D D' a N b j c) :
    ∃ (t : Nat) (o : List Int), t ≤ 128 ∧ (rowsD D fr n)[h + j]? = some o ∧ bytesOf c = (blkR N b j).take t ++ o.drop t := by
  obtain ⟨t, ht, rfl⟩ := w.tc
  have hfr : 0 ≤ fr := by unfold bad at hb; omega
  have hi := in_rows hb hj
  have e : D.L[a + j]? = some (D.L[a + j]'(by omega)) := List.getElem?_eq_getElem (by omega)
  refine ⟨t, bytesOf (D.L[a + j]'(by omega)), ht, ?_, ?_⟩
  · rw [rowsD_get, if_pos hj, show fr.toNat + (h + j) = a + j by omega, e]
    rfl
  · rw [bytesOf_append, bytesOf_extract, bytesOf_extract, blkS_row N hy, List.drop_zero, List.getD_eq_getElem?_getD, e]
    have e2 : (bytesOf (D.L[a + j]'(by omega))).take 128 = bytesOf (D.L[a + j]'(by omega)) := List.take_of_length_le (by rw [bytesOf_length, hok.sz _ (List.getElem_mem _)]; exact Nat.le_refl _)
    show _ ++ ((bytesOf (D.L[a + j]'(by omega))).take 128).drop t = _
    rw [e2]
end Go.Proofs.Ytnajdnhgoakgaaa.Wal
