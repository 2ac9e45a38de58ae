/- The document's log: what Open answers. -/
import Derived.Test.YtnajdnhgoakgaaaLike9
import Derived.Test.YtnajdnhgoakgaaaPWalx4
namespace Go.Proofs.Ytnajdnhgoakgaaa.Wal
open Go.RowKit Go.Proofs.YtnajdnhgoakgaaaW.PrintWords Go.Proofs.Ytnajdnhgoakgaaa.Mem Go.Proofs.Ytnajdnhgoakgaaa.PWal Go.Proofs.Ytnajdnhgoakgaaa.Blk
set_option linter.unusedVariables false
set_option linter.unusedSimpArgs false
set_option maxRecDepth 8000
section
variable {D : DM} {fr n : Int}
theorem rd_blk (hok : D.Ok) (hb : ¬ bad D fr n) (i : Nat) (hi : (i : Int) < n) : rdOf ByteArray.empty D.L (fr + i) = D.blk (fr + i) ∧ (D.blk (fr + i)).size = 128 ∧ (rowsD D fr n).getD i [] = bytesOf (D.blk (fr + i)) := by
  have hb' := hb
  unfold bad at hb'
  have h1 := (blk_at hok (i := fr + i) (by omega) (by omega)).1
  refine ⟨rfl, h1, ?_⟩
  have h2 := rows_at hb hok i hi
  have hl := rows_len hb
  have h3 := takeR_snoc (l := rowsD D fr n) (i := i) (by omega)
  rw [h3] at h2
  exact List.singleton_inj.1 (List.append_cancel_left h2)
def FF (s : TS) : Int := if s.l.length = 0 then 0 else s.first
theorem open_l1 (hok : D.Ok) (hb : ¬ bad D fr n) (nx : Int) : ∀ (m i k : Nat) (s : TS), (i : Int) + m = n → s.Ok i → 2 * m + 150 ≤ k →
    baileeref09_Open.l1 k fr n (strOfNums s.now) s.begun s.ahead s.first i D.L D.left D.torn D.down fr n (FF s) nx s.hv (s.l.map strOfNums) 0
      = some (fr, n, FF (takeM ((rowsD D fr n).drop i) i s), nx, (takeM ((rowsD D fr n).drop i) i s).hv, (takeM ((rowsD D fr n).drop i) i s).l.map strOfNums, 0, 0) := by
  have hb' := hb
  unfold bad at hb'
  have hmax := d_len_max hok
  have hl := rows_len hb
  intro m
  induction m with
  | zero =>
    intro i k s hi hs hk
    obtain ⟨k', rfl⟩ : ∃ k', k = k' + 1 := ⟨k - 1, by omega⟩
    rw [baileeref09_Open.l1, if_neg (by omega), List.drop_of_length_le (by omega)]
    rfl
  | succ m ih =>
    intro i k s hi hs hk
    obtain ⟨k', rfl⟩ : ∃ k', k = k' + 2 := ⟨k - 2, by omega⟩
    obtain ⟨q, rfl⟩ : ∃ q, k' = q + 140 := ⟨k' - 140, by omega⟩
    obtain ⟨e1, e2, e3⟩ := rd_blk hok hb i (by omega)
    have hby := byt_bytesOf (D.blk (fr + i))
    obtain ⟨r1, r2, r3, r4⟩ := readM_ok hby
    have htk := takeM_at (rowsD D fr n) i (by omega) s
    rw [e3] at htk
    obtain ⟨kk, p, en, hr⟩ : ∃ kk p en, readM (bytesOf (D.blk (fr + i))) = (kk, p, en) := ⟨_, _, _, rfl⟩
    have hrf := read_f (q + 1) (D.blk (fr + i))
    rw [hr] at htk hrf r1 r2 r3 r4
    have a0 := hs.a0; have a1 := hs.a1; have h0 := hs.h0; have h1 := hs.h1; have ll := hs.ll; have nl := hs.nl
    have hw := Aside0.mk (show wrap64 (fr + (i : Int)) = fr + i from IntWalk.wrap64_in _ ⟨by omega, by omega⟩)
    have hwi := Aside0.mk (show wrap64 ((i : Int) + 1) = ((i + 1 : Nat) : Int) from (IntWalk.wrap64_in _ ⟨by omega, by omega⟩).trans (by omega))
    have hst : s.stops (kk, p, en) = decide (kk = 0 ∨ (s.begun = true ∧ kk ≠ s.ahead + 1) ∨ kk ≤ s.ahead) := rfl
    have hgo := hs.go (r := (kk, p, en)) ⟨r1, r2, r3, r4⟩
    -- one step of j3
    have hj : ∀ b : Bool, b = s.stops (kk, p, en) → baileeref09_Open.j3 (q + 1 + 140) fr n (strOfNums s.now) s.first i kk (strOfNums p) en b D.L D.left D.torn D.down fr n (FF s) nx s.hv (s.l.map strOfNums) 0
        = some (fr, n, FF (takeM ((rowsD D fr n).drop i) i s), nx, (takeM ((rowsD D fr n).drop i) i s).hv, (takeM ((rowsD D fr n).drop i) i s).l.map strOfNums, 0, 0) := by
      intro b hbb
      rw [show q + 1 + 140 = (q + 140) + 1 by omega, baileeref09_Open.j3, htk]
      cases b with
      | true =>
        rw [← hbb, if_pos rfl, if_pos rfl]
      | false =>
        have hff : ¬ (false = true) := by decide
        rw [← hbb, if_neg hff, if_neg hff]
        have hsum : (strOfNums s.now).size + (strOfNums p).size ≤ 9223372036854775807 := by have r3' : p.length ≤ 110 := r3; rw [str_size, str_size]; omega
        have hlen : (s.l.map strOfNums).length < 8796093022208 := by rw [List.length_map]; omega
        have hih := ih (i + 1) (q + 140) (s.go i (kk, p, en)) (by omega) hgo (by omega)
        have hF : en = true → FF (s.go i (kk, p, en)) = (s.go i (kk, p, en)).first := fun he => by
          unfold FF
          rw [if_neg]
          show ¬ (if en = true then s.l ++ [s.now ++ p] else s.l).length = 0
          rw [if_pos he, List.length_append, List.length_singleton]
          omega
        cases en with
        | true =>
          have hfirst := hF rfl
          rw [hfirst] at hih
          have hlm : (s.go i (kk, p, true)).l.map strOfNums = s.l.map strOfNums ++ [strOfNums s.now ++ strOfNums p] := by
            show (s.l ++ [s.now ++ p]).map strOfNums = _
            rw [List.map_append, List.map_singleton, str_app]
          rw [hlm] at hih
          by_cases hi0 : i = 0
          · have hf1 : (s.go i (kk, p, true)).first = kk := if_pos hi0
            rw [hf1] at hih
            rw [if_pos (by omega), if_pos hsum, if_pos rfl, if_pos hlen, hwi.out]
            exact hih
          · have hf1 : (s.go i (kk, p, true)).first = s.first := if_neg hi0
            rw [hf1] at hih
            rw [if_neg (by omega), if_pos hsum, if_pos rfl, if_pos hlen, hwi.out]
            exact hih
        | false =>
          have hnow : strOfNums (s.go i (kk, p, false)).now = strOfNums s.now ++ strOfNums p := (str_app _ _).symm
          rw [hnow] at hih
          by_cases hi0 : i = 0
          · have hf1 : (s.go i (kk, p, false)).first = kk := if_pos hi0
            have hF2 : FF (s.go i (kk, p, false)) = FF s := by
              have hz : s.l.length = 0 := by omega
              unfold FF
              rw [if_pos (show (s.go i (kk, p, false)).l.length = 0 from hz), if_pos hz]
            rw [hf1, hF2] at hih
            rw [if_pos (by omega), if_pos hsum, if_neg (show ¬ (false = true) by decide), hwi.out]
            exact hih
          · have hf1 : (s.go i (kk, p, false)).first = s.first := if_neg hi0
            have hF2 : FF (s.go i (kk, p, false)) = FF s := by
              unfold FF
              rw [hf1]
              rfl
            rw [hf1, hF2] at hih
            rw [if_neg (by omega), if_pos hsum, if_neg (show ¬ (false = true) by decide), hwi.out]
            exact hih
    rw [baileeref09_Open.l1, if_pos (by omega), hw.out, if_pos (by omega), if_pos (by omega), e1]
    rw [show q + 140 + 1 = q + 1 + 140 by omega, hrf, Option.bind_some]
    dsimp only
    by_cases c1 : kk = 0
    · rw [if_pos c1]
      exact hj true (by rw [hst]; exact (decide_eq_true (.inl c1)).symm)
    · rw [if_neg c1]
      by_cases c2 : kk ≤ s.ahead
      · rw [if_pos c2]
        exact hj true (by rw [hst]; exact (decide_eq_true (.inr (.inr c2))).symm)
      · rw [if_neg c2]
        by_cases c3 : s.begun = true
        · rw [if_pos c3]
          refine hj _ ?_
          rw [hst, wraps_u64 _ (by omega) (by omega)]
          by_cases c4 : kk = s.ahead + 1
          · have : (kk - s.ahead != 1) = false := by rw [c4, show s.ahead + 1 - s.ahead = 1 by omega]; rfl
            rw [this]
            refine (decide_eq_false ?_).symm
            rintro (h | ⟨_, h⟩ | h)
            · exact c1 h
            · exact h c4
            · exact c2 h
          · have : (kk - s.ahead != 1) = true := bne_iff_ne.2 (by omega)
            rw [this]
            exact (decide_eq_true (.inr (.inl ⟨c3, c4⟩))).symm
        · rw [if_neg c3]
          refine hj false ?_
          rw [hst]
          refine (decide_eq_false ?_).symm
          rintro (h | ⟨h, _⟩ | h)
          · exact c1 h
          · exact c3 h
          · exact c2 h
theorem open_l0 (hok : D.Ok) (hb : ¬ bad D fr n) : ∀ (m i k : Nat), (i : Int) + m = n → m + 11 ≤ k → (mo : Int) → mo = mostM ((rowsD D fr n).take i) → ∃ k' : Nat, k' + m + 1 = k ∧
    baileeref09_Open.l0 k fr n mo (fr + i) D.L D.left D.torn D.down fr n 0 0 0 0 = baileeref09_Open.l1 k' fr n (⟨#[]⟩ : ByteArray) false 0 0 0 D.L D.left D.torn D.down fr n 0 (IntKind.u64.wrap (mostM (rowsD D fr n) + 1)) 0 ([] : List ByteArray) 0 := by
  have hb' := hb
  unfold bad at hb'
  have hmax := d_len_max hok
  have hl := rows_len hb
  intro m
  induction m with
  | zero =>
    intro i k hi hk mo hmo
    obtain ⟨k', rfl⟩ : ∃ k', k = k' + 1 := ⟨k - 1, by omega⟩
    refine ⟨k', rfl, ?_⟩
    rw [baileeref09_Open.l0, IntWalk.wrap64_in (fr + n) ⟨by omega, by omega⟩, if_neg (by omega), hmo, List.take_of_length_le (by omega)]
  | succ m ih =>
    intro i k hi hk mo hmo
    obtain ⟨q, rfl⟩ : ∃ q, k = q + 9 + 1 := ⟨k - 10, by omega⟩
    obtain ⟨e1, e2, e3⟩ := rd_blk hok hb i (by omega)
    have hs := takeR_snoc (l := rowsD D fr n) (i := i) (by omega)
    rw [e3] at hs
    have hv1 : bytesOf ((D.blk (fr + i)).extract 0 8) = (bytesOf (D.blk (fr + i))).take 8 := by rw [sub_bytes, List.drop_zero]
    have hv2 : bytesOf ((D.blk (fr + i)).extract 120 (D.blk (fr + i)).size) = (bytesOf (D.blk (fr + i))).drop 120 := by rw [sub_bytes, List.take_of_length_le (by rw [bytesOf_length]; exact Nat.le_refl _)]
    have hn : mostM ((rowsD D fr n).take (i + 1)) = mx2 (mx2 mo (valB ((bytesOf (D.blk (fr + i))).take 8))) (valB ((bytesOf (D.blk (fr + i))).drop 120)) := by rw [hs, most_snoc, hmo]
    obtain ⟨k2, hk2, hih⟩ := ih (i + 1) (q + 9) (by omega) (by omega) _ hn.symm
    refine ⟨k2, by omega, ?_⟩
    rw [← hih]
    have hwi := Aside0.mk (show wrap64 (fr + (i : Int) + 1) = fr + ((i + 1 : Nat) : Int) from (IntWalk.wrap64_in _ ⟨by omega, by omega⟩).trans (by omega))
    rw [baileeref09_Open.l0, IntWalk.wrap64_in (fr + n) ⟨by omega, by omega⟩, if_pos (by omega), if_pos (by omega), if_pos (by omega), if_pos (by omega), e1, if_pos (by omega), value_f q _ (by rw [ByteArray.size_extract]; omega), Option.bind_some, if_pos (by omega), value_f q _ (by rw [ByteArray.size_extract]; omega), Option.bind_some, hv1, hv2, hwi.out]
    generalize valB ((bytesOf (D.blk (fr + i))).take 8) = a
    generalize valB ((bytesOf (D.blk (fr + i))).drop 120) = b
    unfold mx2
    by_cases c1 : a > mo
    · rw [if_pos c1, if_pos (show mo < a from c1)]
      by_cases c2 : b > a
      · rw [if_pos c2, if_pos (show a < b from c2)]
      · rw [if_neg c2, if_neg (show ¬ a < b from c2)]
    · rw [if_neg c1, if_neg (show ¬ mo < a from c1)]
      by_cases c2 : b > mo
      · rw [if_pos c2, if_pos (show mo < b from c2)]
      · rw [if_neg c2, if_neg (show ¬ mo < b from c2)]
theorem open_f (K : Nat) (hK : 200000 ≤ K) (hok : D.Ok) : baileeref09_Open.f K D.L D.left D.torn D.down fr n = some (if allE D fr n = 0 then (fr, n, (openM D fr n).First, (openM D fr n).next, (openM D fr n).hv, (openM D fr n).l.map strOfNums, 0, 0) else (0, 0, 0, 0, 0, [], 0, allE D fr n)) := by
  have hmax := d_len_max hok
  have hj : baileeref09_Open.f K D.L D.left D.torn D.down fr n = baileeref09_Open.j0 K fr n (decide (bad D fr n)) D.L D.left D.torn D.down := by
    unfold baileeref09_Open.f
    by_cases c1 : fr < 0
    · rw [if_pos c1, decide_eq_true (show bad D fr n from .inl c1)]
    · rw [if_neg c1]
      by_cases c2 : n < 1
      · rw [if_pos c2, decide_eq_true (show bad D fr n from .inr (.inl c2))]
      · rw [if_neg c2]
        by_cases c3 : fr > (D.L.length : Int)
        · rw [if_pos c3, decide_eq_true (show bad D fr n from .inr (.inr (.inl c3)))]
        · rw [if_neg c3, IntWalk.wrap64_in ((D.L.length : Int) - fr) ⟨by omega, by omega⟩]
          have e : decide (n > (D.L.length : Int) - fr) = decide (bad D fr n) := decide_eq_decide.2 ⟨fun h => .inr (.inr (.inr h)), fun h => h.elim (fun h => absurd h c1) (fun h => h.elim (fun h => absurd h c2) (fun h => h.elim (fun h => absurd h c3) id))⟩
          rw [e]
  rw [hj]
  obtain ⟨K', rfl⟩ : ∃ K', K = K' + 1 := ⟨K - 1, by omega⟩
  rw [baileeref09_Open.j0]
  unfold allE
  by_cases hb : bad D fr n
  · rw [if_pos (decide_eq_true hb), if_pos hb, if_neg (by decide)]
  · rw [if_neg (by rw [decide_eq_false hb]; decide), if_neg hb]
    cases hd : D.down with
    | true => rw [if_pos rfl, if_pos rfl, if_neg (by decide)]
    | false =>
      have hff : ¬ (false = true) := by decide
      rw [if_neg hff, if_neg hff, if_pos rfl, ← hd]
      have hb' := hb
      unfold bad at hb'
      obtain ⟨m, hm⟩ : ∃ m : Nat, n = m := ⟨n.toNat, by omega⟩
      obtain ⟨k', hk', h0⟩ := open_l0 hok hb m 0 K' (by omega) (by omega) 0 rfl
      rw [show fr + ((0 : Nat) : Int) = fr by omega] at h0
      rw [h0]
      have h1 := open_l1 hok hb (IntKind.u64.wrap (mostM (rowsD D fr n) + 1)) m 0 k' t0 (by omega) ⟨by decide, by decide, by decide, by decide, by decide, by decide, by decide, by decide, (fun x hx => by cases hx), (fun x hx => by cases hx), (fun x hx => by cases hx)⟩ (by omega)
      rw [List.drop_zero] at h1
      exact h1
end
end Go.Proofs.Ytnajdnhgoakgaaa.Wal
