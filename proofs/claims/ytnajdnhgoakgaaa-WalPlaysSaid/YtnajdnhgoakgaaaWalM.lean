/- The log by values: a block that is laid is read, a record's blocks are gone through. -/
import Derived.Test.YtnajdnhgoakgaaaAddGo
namespace Go.Proofs.Ytnajdnhgoakgaaa.Wal
open Go.RowKit Go.Proofs.YtnajdnhgoakgaaaW.PrintWords Go.Proofs.Ytnajdnhgoakgaaa.Mem Go.Proofs.Ytnajdnhgoakgaaa.PWal Go.Proofs.Ytnajdnhgoakgaaa.Blk
set_option linter.unusedVariables false
set_option linter.unusedSimpArgs false
set_option maxRecDepth 8000
theorem laid_num (n : Int) (p : List Int) (e : Bool) : (laidM n p e).take 8 = num8 n := rfl
theorem laid_cut (n : Int) (p : List Int) (e : Bool) : (laidM n p e).drop 10 = (p ++ List.replicate (110 - p.length) 0) ++ num8 n := rfl
theorem laid_tail (n : Int) {p : List Int} (e : Bool) (h : p.length ≤ 110) : (laidM n p e).drop 120 = num8 n := by
  have e1 : (laidM n p e).drop 120 = ((laidM n p e).drop 10).drop 110 := by rw [List.drop_drop]
  rw [e1, laid_cut]
  exact List.drop_left' (by rw [List.length_append, List.length_replicate]; omega)
theorem read_laid {n : Int} {p : List Int} {e : Bool} (h0 : 0 ≤ n) (h1 : n ≤ 18446744073709551615) (hl : p.length ≤ 110) (he : e = true ∨ p.length = 110) : readM (laidM n p e) = (n, p, e) := by
  have e1 : numOf (laidM n p e) = n := val_num8 h0 h1
  have e2 : b8 (laidM n p e) = p.length := rfl
  have e3 : b9 (laidM n p e) = e := by cases e <;> rfl
  have e4 : partOf (laidM n p e) = p := by
    unfold partOf
    rw [e2, laid_cut, Int.toNat_natCast, List.append_assoc]
    exact List.take_left
  have ho : okB (laidM n p e) := ⟨laidM_len n e hl, by rw [e2]; omega, by rw [e1, e3, e4], he.elim (fun h => .inl (by rw [e3]; exact h)) (fun h => .inr (by rw [e2, h]; rfl))⟩
  rw [read_yes ho, e1, e3, e4]
theorem read_le {b : List Int} (h : Row128 b) : (readM b).1 ≤ valB (b.take 8) := by
  by_cases ho : okB b
  · rw [read_yes ho]; exact Int.le_refl _
  · rw [read_no ho]; exact (row_val h).1.1
/-! ### going through -/
def thruM : List (List Int) → Nat → TS → Option TS
  | [], _, s => some s
  | b :: bs, i, s => if s.stops (readM b) then none else thruM bs (i + 1) (s.go i (readM b))
theorem thru_cons (b : List Int) (bs : List (List Int)) (i : Nat) (s : TS) : thruM (b :: bs) i s = if s.stops (readM b) then none else thruM bs (i + 1) (s.go i (readM b)) := rfl
theorem take_cons (b : List Int) (bs : List (List Int)) (i : Nat) (s : TS) : takeM (b :: bs) i s = if s.stops (readM b) then s else takeM bs (i + 1) (s.go i (readM b)) := rfl
theorem ts_eq {l l' : List (List Int)} {h h' f f' a a' : Int} {n n' : List Int} {b b' : Bool} (h1 : l = l') (h2 : h = h') (h3 : f = f') (h4 : n = n') (h5 : a = a') (h6 : b = b') : some (TS.mk l h f n a b) = some ⟨l', h', f', n', a', b'⟩ := by rw [h1, h2, h3, h4, h5, h6]
theorem thru_app : ∀ (bs cs : List (List Int)) (i : Nat) (s s' : TS), thruM bs i s = some s' → thruM (bs ++ cs) i s = thruM cs (i + bs.length) s'
  | [], cs, i, s, s', h => by cases h; rfl
  | b :: bs, cs, i, s, s', h => by
    rw [thru_cons] at h
    rw [List.cons_append, thru_cons]
    split at h
    · cases h
    · rename_i hs
      rw [if_neg hs, thru_app bs cs (i + 1) _ s' h, List.length_cons, show i + 1 + bs.length = i + (bs.length + 1) by omega]
theorem take_thru : ∀ (bs cs : List (List Int)) (i : Nat) (s s' : TS), thruM bs i s = some s' → takeM (bs ++ cs) i s = takeM cs (i + bs.length) s'
  | [], cs, i, s, s', h => by cases h; rfl
  | b :: bs, cs, i, s, s', h => by
    rw [thru_cons] at h
    rw [List.cons_append, take_cons]
    split at h
    · cases h
    · rename_i hs
      rw [if_neg hs, take_thru bs cs (i + 1) _ s' h, List.length_cons, show i + 1 + bs.length = i + (bs.length + 1) by omega]
theorem thru_ahead (M : Int) : ∀ (bs : List (List Int)) (i : Nat) (s s' : TS), thruM bs i s = some s' → s.ahead ≤ M → (∀ b ∈ bs, (readM b).1 ≤ M) → s'.ahead ≤ M
  | [], i, s, s', h, h1, _ => by cases h; exact h1
  | b :: bs, i, s, s', h, h1, h2 => by
    rw [thru_cons] at h
    split at h
    · cases h
    · exact thru_ahead M bs (i + 1) _ s' h (h2 b List.mem_cons_self) (fun x hx => h2 x (List.mem_cons_of_mem _ hx))
theorem take_stop {cs : List (List Int)} {i : Nat} {s : TS} (h : ∀ b ∈ cs, (readM b).1 ≤ s.ahead) : takeM cs i s = s := by
  cases cs with
  | nil => rfl
  | cons b cs =>
    rw [take_cons]
    have e : s.stops (readM b) = true := decide_eq_true (.inr (.inr (h b List.mem_cons_self)))
    rw [e]
    rfl
/-! ### a record's blocks -/
def blkR (N : Int) (b : List Int) (i : Nat) : List Int := laidM (N + i) (partAt b i) (decide (i = npc b - 1))
def recS (s : TS) (N : Int) (b : List Int) (i0 j : Nat) : TS := ⟨s.l, s.hv, if i0 = 0 ∧ 0 < j then N else s.first, b.take (110 * j), if j = 0 then s.ahead else N + j - 1, decide (0 < j)⟩
theorem npc_len (b : List Int) : b.length ≤ 110 * npc b := by unfold npc pieces; split <;> omega
theorem part_full {b : List Int} {j : Nat} (h : j + 1 < npc b) : (partAt b j).length = 110 := by
  have h2 : 110 * (j + 1) < b.length := by unfold npc pieces at h; split at h <;> omega
  rw [partAt_len]; unfold pieceLen; omega
theorem now_next (b : List Int) (j : Nat) : b.take (110 * j) ++ partAt b j = b.take (110 * (j + 1)) := by
  unfold partAt
  rw [show 110 * (j + 1) = 110 * j + 110 by omega, List.take_add]
theorem blkR_read {N : Int} {b : List Int} (hN : 0 ≤ N) (hN2 : N + npc b ≤ 18446744073709551616) {j : Nat} (hj : j < npc b) : readM (blkR N b j) = (N + j, partAt b j, decide (j = npc b - 1)) := by
  refine read_laid (by omega) (by omega) (partAt_le b j) ?_
  by_cases h : j = npc b - 1
  · exact .inl (decide_eq_true h)
  · exact .inr (part_full (by omega))
theorem thru_rec {b : List Int} {N : Int} (hN : 1 ≤ N) (hN2 : N + npc b ≤ 18446744073709551616) {s : TS} (hb : s.begun = false) (hn : s.now = []) (ha : s.ahead < N) (i0 : Nat) :
    ∀ j, j < npc b → thruM ((List.range j).map (blkR N b)) i0 s = some (recS s N b i0 j)
  | 0, _ => by
    show some s = _
    obtain ⟨l, hv, f, nw, ah, bg⟩ := s
    obtain rfl : nw = [] := hn
    obtain rfl : bg = false := hb
    exact ts_eq rfl rfl (by rw [if_neg (by omega)]) rfl rfl rfl
  | j + 1, hj => by
    have ih := thru_rec hN hN2 hb hn ha i0 j (by omega)
    rw [List.range_succ, List.map_append, thru_app _ _ _ _ _ ih]
    rw [show [j].map (blkR N b) = [blkR N b j] from rfl, thru_cons]
    rw [blkR_read (by omega) hN2 (show j < npc b by omega)]
    have hd : decide (j = npc b - 1) = false := decide_eq_false (by omega)
    rw [hd]
    have hst : (recS s N b i0 j).stops (N + j, partAt b j, false) = false := by
      refine decide_eq_false ?_
      unfold recS
      by_cases h0 : j = 0
      · subst h0
        simp
        omega
      · simp [h0]
        omega
    rw [if_neg (by rw [hst]; simp)]
    refine ts_eq rfl rfl ?_ (now_next b j) ?_ ?_
    · show (if i0 + ((List.range j).map (blkR N b)).length = 0 then N + (j : Int) else if i0 = 0 ∧ 0 < j then N else s.first) = if i0 = 0 ∧ 0 < j + 1 then N else s.first
      rw [List.length_map, List.length_range]
      by_cases h1 : i0 = 0
      · rw [if_pos (show i0 = 0 ∧ 0 < j + 1 from ⟨h1, by omega⟩)]
        by_cases h0 : j = 0
        · rw [if_pos (by omega), h0]; simp
        · rw [if_neg (by omega), if_pos ⟨h1, by omega⟩]
      · rw [if_neg (by omega), if_neg (fun h => h1 h.1), if_neg (fun h => h1 h.1)]
    · show N + (j : Int) = if j + 1 = 0 then s.ahead else N + ((j + 1 : Nat) : Int) - 1
      rw [if_neg (by omega)]
      omega
    · show true = decide (0 < j + 1)
      simp
theorem thru_all {b : List Int} {N : Int} (hN : 1 ≤ N) (hN2 : N + npc b ≤ 18446744073709551616) {s : TS} (hb : s.begun = false) (hn : s.now = []) (ha : s.ahead < N) (i0 : Nat) :
    thruM ((List.range (npc b)).map (blkR N b)) i0 s = some ⟨s.l ++ [b], i0 + npc b, if i0 = 0 then N else s.first, [], N + npc b - 1, false⟩ := by
  have hp := npc_pos b
  obtain ⟨j, hj⟩ : ∃ j, npc b = j + 1 := ⟨npc b - 1, by omega⟩
  have ih := thru_rec hN hN2 hb hn ha i0 j (by omega)
  have hrd := blkR_read (show 0 ≤ N by omega) hN2 (show j < npc b by omega)
  have hd : decide (j = npc b - 1) = true := decide_eq_true (by omega)
  have hlen := npc_len b
  rw [hd] at hrd
  rw [hj] at hlen ⊢
  rw [List.range_succ, List.map_append, thru_app _ _ _ _ _ ih]
  rw [show [j].map (blkR N b) = [blkR N b j] from rfl, thru_cons]
  rw [hrd]
  have hst : (recS s N b i0 j).stops (N + j, partAt b j, true) = false := by
    refine decide_eq_false ?_
    unfold recS
    by_cases h0 : j = 0
    · subst h0
      simp
      omega
    · simp [h0]
      omega
  rw [if_neg (by rw [hst]; simp)]
  refine ts_eq ?_ ?_ ?_ rfl ?_ rfl
  · show s.l ++ [b.take (110 * j) ++ partAt b j] = s.l ++ [b]
    rw [now_next, List.take_of_length_le hlen]
  · show ((i0 + ((List.range j).map (blkR N b)).length : Nat) : Int) + 1 = (i0 : Int) + ((j + 1 : Nat) : Int)
    rw [List.length_map, List.length_range]
    omega
  · show (if i0 + ((List.range j).map (blkR N b)).length = 0 then N + (j : Int) else if i0 = 0 ∧ 0 < j then N else s.first) = if i0 = 0 then N else s.first
    rw [List.length_map, List.length_range]
    by_cases h1 : i0 = 0
    · rw [if_pos h1]
      by_cases h0 : j = 0
      · rw [if_pos (by omega), h0]; simp
      · rw [if_neg (by omega), if_pos ⟨h1, by omega⟩]
    · rw [if_neg (by omega), if_neg (fun h => h1 h.1), if_neg h1]
  · show N + (j : Int) = N + ((j + 1 : Nat) : Int) - 1
    omega
end Go.Proofs.Ytnajdnhgoakgaaa.Wal
