/- The log by values: what stays true of it and of its disk. -/
import Derived.Test.YtnajdnhgoakgaaaWalD
namespace Go.Proofs.Ytnajdnhgoakgaaa.Wal
open Go.RowKit Go.Proofs.YtnajdnhgoakgaaaW.PrintWords Go.Proofs.Ytnajdnhgoakgaaa.Mem Go.Proofs.Ytnajdnhgoakgaaa.PWal Go.Proofs.Ytnajdnhgoakgaaa.Blk
set_option linter.unusedVariables false
set_option linter.unusedSimpArgs false
set_option maxRecDepth 8000
/-! ### the greatest number -/
theorem mx2_l (a b : Int) : a ≤ mx2 a b := by unfold mx2; split <;> omega
theorem mx2_r (a b : Int) : b ≤ mx2 a b := by unfold mx2; split <;> omega
theorem fold_ub (M : Int) : ∀ (bs : List (List Int)) (a : Int), a ≤ M → (∀ b ∈ bs, valB (b.take 8) ≤ M ∧ valB (b.drop 120) ≤ M) → bs.foldl (fun a b => mx2 (mx2 a (valB (b.take 8))) (valB (b.drop 120))) a ≤ M
  | [], a, h, _ => h
  | b :: bs, a, h, hb => fold_ub M bs _ (mx2_le (mx2_le h (hb b List.mem_cons_self).1) (hb b List.mem_cons_self).2) (fun x hx => hb x (List.mem_cons_of_mem _ hx))
theorem fold_lb : ∀ (bs : List (List Int)) (a : Int), a ≤ bs.foldl (fun a b => mx2 (mx2 a (valB (b.take 8))) (valB (b.drop 120))) a
  | [], a => Int.le_refl _
  | b :: bs, a => Int.le_trans (Int.le_trans (mx2_l _ _) (mx2_l _ _)) (fold_lb bs _)
theorem fold_mem : ∀ (bs : List (List Int)) (a : Int) (b : List Int), b ∈ bs → valB (b.take 8) ≤ bs.foldl (fun a b => mx2 (mx2 a (valB (b.take 8))) (valB (b.drop 120))) a ∧ valB (b.drop 120) ≤ bs.foldl (fun a b => mx2 (mx2 a (valB (b.take 8))) (valB (b.drop 120))) a
  | c :: bs, a, b, h => by
    rcases List.mem_cons.1 h with rfl | h
    · exact ⟨Int.le_trans (Int.le_trans (mx2_r _ _) (mx2_l _ _)) (fold_lb bs _), Int.le_trans (mx2_r _ _) (fold_lb bs _)⟩
    · exact fold_mem bs _ b h
theorem most_ub {bs : List (List Int)} {M : Int} (h0 : 0 ≤ M) (h : ∀ b ∈ bs, valB (b.take 8) ≤ M ∧ valB (b.drop 120) ≤ M) : mostM bs ≤ M := fold_ub M bs 0 h0 h
theorem most_mem {bs : List (List Int)} {b : List Int} (h : b ∈ bs) : valB (b.take 8) ≤ mostM bs ∧ valB (b.drop 120) ≤ mostM bs := fold_mem bs 0 b h
theorem most_0 (bs : List (List Int)) : 0 ≤ mostM bs := fold_lb bs 0
theorem thru_most {bs cs : List (List Int)} {i : Nat} {s' : TS} (h : thruM bs i t0 = some s') (hr : ∀ b ∈ cs, Row128 b) (hs : ∀ b ∈ bs, b ∈ cs) : s'.ahead ≤ mostM cs :=
  thru_ahead _ bs i t0 s' h (most_0 cs) (fun b hb => Int.le_trans (read_le (hr b (hs b hb))) (most_mem (hs b hb)).1)
/-! ### a torn block -/
theorem num8_small {x : Int} (h0 : 0 ≤ x) (h1 : x ≤ 255) : num8 x = [0, 0, 0, 0, 0, 0, 0, x] := by
  unfold num8
  simp only [List.cons.injEq, and_true]
  omega
theorem small_take (a b : Int) : ∀ t, t ≤ 7 → ([0, 0, 0, 0, 0, 0, 0, a] : List Int).take t = [0, 0, 0, 0, 0, 0, 0, b].take t
  | 0, _ => rfl | 1, _ => rfl | 2, _ => rfl | 3, _ => rfl | 4, _ => rfl | 5, _ => rfl | 6, _ => rfl | 7, _ => rfl
  | t + 8, h => absurd h (by omega)
theorem mix {N : Int} {p o : List Int} {e : Bool} {t : Nat} (h0 : 0 ≤ N) (h1 : N ≤ 255) (hp : p.length ≤ 110) (ho : Row128 o) (hx : valB (o.take 8) < N) (hy : valB (o.drop 120) < N) (c : List Int) (hc : c = (laidM N p e).take t ++ o.drop t) :
    (c = laidM N p e ∨ c = o ∨ (readM c).1 = 0) ∧ valB (c.take 8) ≤ N ∧ valB (c.drop 120) ≤ N := by
  obtain ⟨⟨x0, _⟩, y0, _⟩ := row_val ho
  have ex : o.take 8 = num8 (valB (o.take 8)) := (num8_val (by rw [List.length_take, ho.1]; rfl) (fun x hx => ho.2 x (List.mem_of_mem_take hx))).1.symm
  have ey : o.drop 120 = num8 (valB (o.drop 120)) := (num8_val (by rw [List.length_drop, ho.1]) (fun x hx => ho.2 x (List.mem_of_mem_drop hx))).1.symm
  have hll := laidM_len N e hp
  have hN : valB (num8 N) = N := val_num8 h0 (by omega)
  by_cases h7 : t ≤ 7
  · have e1 : (laidM N p e).take t = o.take t := by
      have a1 : (laidM N p e).take t = ((laidM N p e).take 8).take t := by rw [List.take_take, show min t 8 = t by omega]
      have a2 : o.take t = (o.take 8).take t := by rw [List.take_take, show min t 8 = t by omega]
      rw [a1, a2, laid_num, ex, num8_small h0 h1, num8_small x0 (by omega)]
      exact small_take _ _ t h7
    have e2 : c = o := by rw [hc, e1, List.take_append_drop]
    rw [e2]
    exact ⟨.inr (.inl rfl), by omega, by omega⟩
  · by_cases h128 : 128 ≤ t
    · have e2 : c = laidM N p e := by rw [hc, List.take_of_length_le (by omega), List.drop_of_length_le (by rw [ho.1]; omega), List.append_nil]
      rw [e2]
      refine ⟨.inl rfl, ?_, ?_⟩
      · rw [laid_num, hN]; exact Int.le_refl _
      · rw [laid_tail N e hp, hN]; exact Int.le_refl _
    · have hlt : ((laidM N p e).take t).length = t := by rw [List.length_take]; omega
      have f1 : c.take 8 = num8 N := by
        rw [hc, List.take_append_of_le_length (by omega), List.take_take, show min 8 t = 8 by omega, laid_num]
      have f2 : c.drop 120 = o.drop 120 := by
        by_cases h120 : t ≤ 120
        · have hk := List.drop_append (l₁ := (laidM N p e).take t) (l₂ := o.drop t) (i := 120)
          rw [hc, hk, List.drop_of_length_le (by omega), List.nil_append, List.drop_drop, hlt, show t + (120 - t) = 120 by omega]
        · obtain ⟨u, rfl⟩ : ∃ u, t = 120 + u := ⟨t - 120, by omega⟩
          rw [hc, List.drop_append_of_le_length (by omega), List.drop_take, laid_tail N e hp, show 120 + u - 120 = u by omega, ← List.drop_drop, ey, num8_small h0 h1, num8_small y0 (by omega), small_take N (valB (o.drop 120)) u (by omega), List.take_append_drop]
      refine ⟨.inr (.inr ?_), by rw [f1, hN]; exact Int.le_refl _, by rw [f2]; omega⟩
      have hno : ¬ okB c := fun hk => by
        have e3 := congrArg (List.drop 120) hk.2.2.1
        have hpl : (partOf c).length ≤ 110 := by
          have := hk.2.1
          unfold partOf
          rw [List.length_take]
          omega
        rw [laid_tail _ _ hpl, f2] at e3
        have e4 := congrArg valB e3
        unfold numOf at e4
        rw [f1, hN, hN] at e4
        omega
      rw [read_no hno]
/-! ### what stays true -/
structure Live (D : DM) (L : LM) : Prop where
  ok : D.Ok
  nb : ¬ bad D L.fr L.n
  up : D.down = false
  e0 : L.e = 0
  x1 : 1 ≤ L.next
  h0 : 0 ≤ L.hv
  h1 : L.hv ≤ L.n
  bd : ∀ r ∈ rowsD D L.fr L.n, valB (r.take 8) < L.next ∧ valB (r.drop 120) < L.next
  th : ∃ f A : Int, thruM ((rowsD D L.fr L.n).take L.hv.toNat) 0 t0 = some ⟨L.l, L.hv, f, [], A, false⟩ ∧ (L.hv ≠ 0 → f = L.first) ∧ 0 ≤ A ∧ A < L.next
/-- What is read is what the log has. -/
structure Tk (D : DM) (L : LM) : Prop where
  l : (takeM (rowsD D L.fr L.n) 0 t0).l = L.l
  hv : (takeM (rowsD D L.fr L.n) 0 t0).hv = L.hv
  first : L.hv ≠ 0 → (takeM (rowsD D L.fr L.n) 0 t0).first = L.first
def Full (D : DM) (L : LM) : Prop := mostM (rowsD D L.fr L.n) + 1 = L.next
theorem read_lt {D : DM} {L : LM} (h : Live D L) {r : List Int} (hr : r ∈ rowsD D L.fr L.n) : (readM r).1 < L.next := by
  have h1 := read_le (rows_128 h.ok _ _ r hr)
  have h2 := (h.bd r hr).1
  omega
/-- A record that is added. -/
theorem add_live {D D' : DM} {L : LM} {b : List Int} {a : Nat} (h : Live D L) (hy : Byt b) (hf : ¬ L.n - L.hv < npc b) (hx : ¬ (L.next = 0 ∨ 18446744073709551615 < L.next + npc b)) (ha : (a : Int) = L.fr + L.hv) (w : Wr D D' a L.next b (npc b)) :
    Live D' (L.added b) ∧ Tk D' (L.added b) ∧ Full D' (L.added b) := by
  obtain ⟨f, A, h1, h2, h3, h4⟩ := h.th
  have hh0 := h.h0; have hh1 := h.h1; have hx1 := h.x1
  obtain ⟨k, hk⟩ : ∃ k : Nat, L.hv = k := ⟨L.hv.toNat, by omega⟩
  have hp := npc_pos b
  have hlen := rows_len h.nb
  have hR := w.rows (fr := L.fr) (n := L.n) (h := k) hy h.nb (by rw [ha, hk]) (by omega)
  have nb' : ¬ bad D' L.fr L.n := by have := h.nb; unfold bad at this ⊢; rw [w.len]; exact this
  have hk' : ((rowsD D L.fr L.n).take k).length = k := by rw [List.length_take]; omega
  rw [hk, Int.toNat_natCast] at h1
  have hth := thru_all (b := b) (N := L.next) hx1 (by omega) (s := ⟨L.l, k, f, [], A, false⟩) rfl rfl h4 k
  have t1 : thruM ((rowsD D L.fr L.n).take k ++ (List.range (npc b)).map (blkR L.next b)) 0 t0 = some ⟨L.l ++ [b], (k : Int) + npc b, if k = 0 then L.next else f, [], L.next + npc b - 1, false⟩ := by
    rw [thru_app _ _ _ _ _ h1, hk', Nat.zero_add]
    exact hth
  have hcut : (rowsD D' L.fr L.n).take (k + npc b) = (rowsD D L.fr L.n).take k ++ (List.range (npc b)).map (blkR L.next b) := by
    rw [hR, ← List.append_assoc]
    exact List.take_left' (by rw [List.length_append, hk', List.length_map, List.length_range])
  have htk : takeM (rowsD D' L.fr L.n) 0 t0 = ⟨L.l ++ [b], (k : Int) + npc b, if k = 0 then L.next else f, [], L.next + npc b - 1, false⟩ := by
    rw [hR, ← List.append_assoc, take_thru _ _ _ _ _ t1]
    refine take_stop (fun r hr => ?_)
    have := read_lt h (List.mem_of_mem_drop hr)
    show (readM r).1 ≤ L.next + npc b - 1
    omega
  have hfi : (if k = 0 then L.next else f) = (L.added b).first := by
    show _ = if L.hv = 0 then L.next else L.first
    by_cases hz : k = 0
    · rw [if_pos hz, if_pos (by omega)]
    · rw [if_neg hz, if_neg (by omega), h2 (by omega)]
  have hhv : (k : Int) + npc b = (L.added b).hv := by show _ = L.hv + npc b; omega
  have hbd : ∀ r ∈ rowsD D' L.fr L.n, valB (r.take 8) < L.next + npc b ∧ valB (r.drop 120) < L.next + npc b := by
    intro r hr
    rw [hR] at hr
    rcases List.mem_append.1 hr with hr | hr
    · have := h.bd r (List.mem_of_mem_take hr); omega
    · rcases List.mem_append.1 hr with hr | hr
      · obtain ⟨i, hi, rfl⟩ := List.mem_map.1 hr
        have hi' := List.mem_range.1 hi
        unfold blkR
        rw [laid_num, laid_tail _ _ (partAt_le b i), val_num8 (by omega) (by omega)]
        omega
      · have := h.bd r (List.mem_of_mem_drop hr); omega
  refine ⟨⟨w.ok, nb', w.up, h.e0, by show 1 ≤ L.next + npc b; omega, by show 0 ≤ L.hv + npc b; omega, by show L.hv + npc b ≤ L.n; omega, hbd, if k = 0 then L.next else f, L.next + npc b - 1, ?_, fun _ => hfi, by omega, by show _ < L.next + npc b; omega⟩, ⟨?_, ?_, fun _ => ?_⟩, ?_⟩
  · show thruM ((rowsD D' L.fr L.n).take (L.hv + npc b).toNat) 0 t0 = some ⟨L.l ++ [b], L.hv + npc b, _, [], _, false⟩
    rw [show (L.hv + npc b).toNat = k + npc b by omega, hcut, t1, hk]
  · show (takeM (rowsD D' L.fr L.n) 0 t0).l = _; rw [htk]; rfl
  · show (takeM (rowsD D' L.fr L.n) 0 t0).hv = _; rw [htk]; exact hhv
  · show (takeM (rowsD D' L.fr L.n) 0 t0).first = _; rw [htk]; exact hfi
  · have m1 : mostM (rowsD D' L.fr L.n) ≤ L.next + npc b - 1 := most_ub (by omega) (fun r hr => by have := hbd r hr; omega)
    have m2 : L.next + npc b - 1 ≤ mostM (rowsD D' L.fr L.n) := by
      have := thru_most (cs := rowsD D' L.fr L.n) t1 (rows_128 w.ok _ _) (fun r hr => by rw [← hcut] at hr; exact List.mem_of_mem_take hr)
      exact this
    show mostM (rowsD D' L.fr L.n) + 1 = L.next + npc b
    omega
end Go.Proofs.Ytnajdnhgoakgaaa.Wal
