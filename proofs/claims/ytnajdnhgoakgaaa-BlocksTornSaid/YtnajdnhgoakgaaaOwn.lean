/- The law BlocksOwn. -/
import Derived.Test.YtnajdnhgoakgaaaDown
namespace Go.Proofs.Ytnajdnhgoakgaaa.Blk
open Go.RowKit Go.Proofs.YtnajdnhgoakgaaaW.PrintWords Go.Proofs.YtnajdnhgoakgaaaW.PrintLast Go.Proofs.YtnajdnhgoakgaaaW.PrintMore Go.Proofs.Ytnajdnhgoakgaaa.Mem Go.Proofs.Ytnajdnhgoakgaaa.PBlk
attribute [local go_sem] max2_int min2_int max_two min_two max_three min_three max_four min_four
set_option linter.unusedVariables false
set_option linter.unusedSimpArgs false

/-- A row of the call's own, with its block. -/
theorem own_blk {w : World} {e base : Nat} {ok : Nat → Prop} {v : Value} {xs : List Int} (h : Kd.R (Kd.int .u8) e w base ok v xs) (hn : 0 < xs.length) : ∃ b c cur, v = .slice (some ⟨b, 0, none⟩) xs.length c ∧ base ≤ b ∧ b < w.heap.size ∧ xs.length ≤ c ∧ w.heap[b]? = some (.cells cur e (0, 0)) ∧ ∀ i : Nat, i < xs.length → cur[i]? = some (.int .u8 (rd xs i)) := by
  obtain ⟨b, c, rfl, h1, h2, h3, h4⟩ := own_at h hn
  obtain ⟨h0, inner, ho, hr⟩ := h
  rcases ho.2 with ⟨h5, _⟩ | ⟨g, cap, cur, h5, hg, hh, r⟩
  · cases h5
  · cases h5
    exact ⟨b, c, cur, rfl, h1, blk_lt hh, h3, hh, fun i hi => (blk_cell hh i).symm.trans (h4 i hi)⟩
theorem own_d {k : Nat} {at_ : Int} {s : ByteArray} (hs : s.size = 128) (h0 : 0 ≤ at_) (h1 : at_ < k) {D1 : DM} (h : D1 = ((⟨List.replicate k zero128, -1, 0, false⟩ : DM).write at_ s).1) :
    ((⟨List.replicate k zero128, -1, 0, false⟩ : DM).write at_ s).2 = 0 ∧ D1.fine at_ = 0 ∧ D1.blk at_ = s ∧ D1.fine k = 14 := by
  have hfi : (⟨List.replicate k zero128, -1, 0, false⟩ : DM).fine at_ = 0 := by unfold DM.fine; rw [if_neg (by simp), if_neg (by simp only [List.length_replicate]; omega)]
  rw [write_1 hs hfi (by simp)] at h ⊢
  subst h
  refine ⟨rfl, ?_, ?_, ?_⟩
  · unfold DM.fine
    rw [if_neg (by simp), if_neg (by simp only [List.length_set, List.length_replicate]; omega)]
  · unfold DM.blk
    simp only [List.getD_eq_getElem?_getD]
    rw [List.getElem?_set_self (by simp only [List.length_replicate]; omega)]
    rfl
  · unfold DM.fine
    rw [if_neg (by simp), if_pos (by simp only [List.length_set, List.length_replicate]; omega)]

theorem conv_at {w wd : World} {base : Nat} {ok : Nat → Prop} {v : Value} {s : ByteArray} (hv : Kd.R (Kd.int .u8) 5 w base ok v (bytesOf s)) (hb : Below w.heap.size w wd) : (convert 35 9 v).run Try.prog wd = .ok (.string s) wd := by
  have h := own_string (P := Try.prog) Try.underlying35 Try.underlying5 Try.underlying9 (Kd.own_of_R (Kd.R_below hv hb))
  rw [str_bytesOf] at h
  exact h

set_option maxHeartbeats 2000000 in
set_option maxRecDepth 100000 in
theorem own_law (n i seed x : Int) (hn0 : 0 ≤ n) (hn1 : n ≤ 255) (hi0 : 0 ≤ i) (hi1 : i ≤ 255) (hs0 : 0 ≤ seed) (hs1 : seed ≤ 255) (hx0 : 0 ≤ x) (hx1 : x ≤ 255) (w : World) : Calls Try.prog 5 #[.int .u8 n, .int .u8 i, .int .u8 seed, .int .u8 x] w fun e w' => e = .returned (.bool true) ∧ Below w.heap.size w w' := by
  have hk0 : 0 ≤ n % 20 := by omega
  have hk1 : n % 20 ≤ 19 := by omega
  have hnz : (n % 20 + 1 = 0) = False := eq_false (by omega)
  have hat : 0 ≤ i % (n % 20 + 1) ∧ i % (n % 20 + 1) < n % 20 + 1 := ⟨Int.emod_nonneg _ (by omega), Int.emod_lt_of_pos _ (by omega)⟩
  have HAT := Aside0.mk hat
  clear hat
  go_enter Try.func5, Try.ntmps5
  go_wp2_with (first
    | (go_at_call 13; refine (awake_calls w).mono ?_; rintro e w1 ⟨rfl, hb0⟩; have HB0 := Aside0.mk hb0; clear hb0)
    | (go_at_call 14; go_loud (obtain ⟨k, hk⟩ : ∃ k : Nat, (k : Int) = n % 20 + 1 := ⟨(n % 20 + 1).toNat, by omega⟩; have hnew := new_calls (w := w1) k (by omega) (by omega); rw [hk] at hnew; refine hnew.mono ?_; rintro e w2 ⟨g, rfl, hd, hb⟩; obtain ⟨F, hF, hF2, hd2⟩ : ∃ F : Nat → Prop, (∀ j, F j → w.heap.size ≤ j) ∧ (∀ j, F j → j < w2.heap.size) ∧ DiskAt w2 F g ⟨List.replicate k zero128, -1, 0, false⟩ := ⟨Cut w.heap.size w2 (New w1), (fun j hj => hj.2.1), (fun j hj => hj.2.2), hd.cut (fun j hj => Nat.le_trans (below_size HB0.out) hj)⟩; have HD := Aside0.mk hd2; have HB := Aside0.mk (below_step HB0.out hb); have HF := Aside0.mk hF; have HF2 := Aside0.mk hF2; have HK := Aside0.mk hk; clear hd hb HB0 hnew hF hF2 hd2 hk))
    | (go_at_call 16; go_loud (refine (filled_calls seed 128 (by omega) _).mono ?_; rintro e w3 ⟨v, rfl, hv, hb3⟩; have hl : (bytesOf (fill seed 128)).length = 128 := (by rw [bytesOf_fill, fillL_length]); obtain ⟨rb, c, cur, rfl, hr1, hr2, hc, hh, hat⟩ := own_blk hv (by rw [hl]; omega); rw [hl] at hc hat hv ⊢; have hc7 : 127 ≤ c := (by omega); have HV := Aside0.mk hv; have HH := Aside0.mk hh; have HA3 := Aside0.mk (hat 3 (by omega)); have HR := Aside0.mk hr1; have HB3 := Aside0.mk hb3; clear hv hr1 hr2 hh hat hb3 hl))
    | (go_at_call 17; go_loud (obtain ⟨D1, hD1⟩ : ∃ D1, D1 = ((⟨List.replicate k zero128, -1, 0, false⟩ : DM).write (i % (n % 20 + 1)) (fill seed 128)).1 := ⟨_, rfl⟩; have hw := write_row (s := fill seed 128) (below_step HB.out HB3.out) HF.out (HD.out.below HB3.out) (i % (n % 20 + 1)) (some ⟨rb, 0, none⟩) 128 c (fill_size _ _).symm (Kd.C_kept_own (Kd.R_bound HV.out) (fun j h1 h2 => by have := h1.2.1; have := HF2.out j h2; omega)); obtain ⟨e1, e2, e3, e4⟩ := own_d (fill_size seed 128) HAT.out.1 (by rw [HK.out]; exact HAT.out.2) hD1; rw [e1, ← hD1] at hw; rw [HK.out] at e4; refine hw.mono ?_; rintro e w4 ⟨rfl, hd4, hb4, hk4⟩; have hnF : ¬ F rb := (fun h => by have := HF2.out _ h; have := HR.out; omega); have hh4 := blk_kept HH.out hk4 hnF; obtain ⟨q, hq⟩ : ∃ q, q = rd (bytesOf (fill seed 128)) ((3 : Nat) : Int) := ⟨_, rfl⟩; have c3 : w4.cell? ⟨rb, 3, none⟩ = some (.int .u8 q) := (by rw [hq]; exact (blk_cell hh4 3).trans HA3.out); have f3 := blk_frozen hh4 3; have HS := Aside0.mk (fun z : Value => (And.intro (hd4.kept ((Kept.refl w4 (fun j => j = rb)).setCell (p := ⟨rb, 3, none⟩) (.inl rfl) z) (fun j h1 h2 => hnF (by rw [← h2]; exact h1))) (below_set hb4 (g := rb) (j := 3) (v := z) (Nat.le_trans (by have := below_size HB.out; omega) HR.out)) : DiskAt (w4.setCell ⟨rb, 3, none⟩ z) F g D1 ∧ Below w.heap.size w (w4.setCell ⟨rb, 3, none⟩ z))); have HE := Aside0.mk (And.intro e2 (And.intro e3 e4)); have HW2 := Aside0.mk (below_size HB.out); have HZ := Aside0.mk (Nat.le_trans (Nat.le_refl _) (blk_lt hh4)); clear hw e1 e2 e3 e4 hd4 hb4 hk4 hh4 hq hD1 hnF HA3 HH HD HB HB3))
    | (go_at_call 21; go_loud (have hl : (bytesOf (fill seed 128)).length = 128 := (by rw [bytesOf_fill, fillL_length]); refine (read_calls (HS.out _).1 (i % (n % 20 + 1)) HE.out.1).mono ?_; rintro e w5 ⟨v, rfl, hv, _, hb5⟩; rw [HE.out.2.1] at hv; obtain ⟨rc, cc, cur2, rfl, hr1, hr2, hcc, hh, hat⟩ := own_blk hv (by rw [hl]; omega); rw [hl] at hcc hat hv ⊢; have HV5 := Aside0.mk hv; have HH5 := Aside0.mk hh; have HA5 := Aside0.mk (hat 5 (by omega)); have HR5 := Aside0.mk (show w2.heap.size ≤ rc by have := HR.out; have := HZ.out; simp at hr1; omega); have HB5 := Aside0.mk (below_step (HS.out _).2 hb5); have HD5 := Aside0.mk ((HS.out _).1.below hb5); clear hl hv hh hat hr1 hr2 hb5 hcc HS)))
  obtain ⟨wd, hwd⟩ : ∃ wd, wd = w5.drew := ⟨_, rfl⟩
  have hbd : Below w5.heap.size w5 wd := by rw [hwd]; exact below_drew1 (Below.refl _ _)
  have hcvd := conv_at HV5.out hbd
  have HBd := Aside0.mk hbd
  clear hbd
  refine start_ (n := 18) (S := (fun w' => (convert 35 9 (.slice (some ⟨rc, 0, none⟩) 128 cc)).run Try.prog w' = .ok (.string (fill seed 128)) w')) (ds := []) #[false, false, false, false, false, false, false, false, false, false, false, false, false, false, false, false, false, false] (by kernel_rfl) rfl rfl ((by rw [← hwd]; exact hcvd)) (fun hHeld => ?_)
  rw [← hwd] at hHeld ⊢
  clear hwd hcvd
  refine pure_ (i := 0) (N := some 54) (v := ?_) (a' := ?_) #[true, false, false, false, false, false, false, false, false, false, false, false, false, false, false, false, false, false] rfl rfl (by kernel_rfl) (fun _ _ _ h => h) (Or.inl ⟨by rfl, ?_⟩) ?_ ?_
  rotate_left
  · intro w'
    go_simp
    with_reducible rfl
  rotate_left
  · simp only [Act.put, List.setIfInBounds_toArray, List.set_cons_zero, List.set_cons_succ, i64_w, i32_w]
    rfl
  refine pure_ (i := 1) (N := some 55) (v := ?_) (a' := ?_) #[true, true, false, false, false, false, false, false, false, false, false, false, false, false, false, false, false, false] rfl rfl (by kernel_rfl) (fun _ _ _ h => h) (Or.inl ⟨by rfl, ?_⟩) ?_ ?_
  rotate_left
  · intro w'
    go_simp
    with_reducible rfl
  rotate_left
  · simp only [Act.put, List.setIfInBounds_toArray, List.set_cons_zero, List.set_cons_succ, i64_w, i32_w]
    rfl
  refine pure_ (i := 2) (N := some 56) (v := ?_) (a' := ?_) #[true, true, true, false, false, false, false, false, false, false, false, false, false, false, false, false, false, false] rfl rfl (by kernel_rfl) (fun _ _ _ h => h) (Or.inl ⟨by rfl, ?_⟩) ?_ ?_
  rotate_left
  · intro w'
    go_simp
    with_reducible rfl
  rotate_left
  · simp only [Act.put, List.setIfInBounds_toArray, List.set_cons_zero, List.set_cons_succ, i64_w, i32_w]
    rfl
  refine pure_ (i := 3) (N := some 57) (v := ?_) (a' := ?_) #[true, true, true, true, false, false, false, false, false, false, false, false, false, false, false, false, false, false] rfl rfl (by kernel_rfl) (fun _ _ _ h => h) (Or.inl ⟨by rfl, ?_⟩) ?_ ?_
  rotate_left
  · intro w'
    go_simp
    with_reducible rfl
  rotate_left
  · simp only [Act.put, List.setIfInBounds_toArray, List.set_cons_zero, List.set_cons_succ, i64_w, i32_w]
    rfl
  refine pure_ (i := 4) (N := some 58) (v := ?_) (a' := ?_) #[true, true, true, true, true, false, false, false, false, false, false, false, false, false, false, false, false, false] rfl rfl (by kernel_rfl) (fun _ _ _ h => h) (Or.inl ⟨by rfl, ?_⟩) ?_ ?_
  rotate_left
  · intro w'
    go_simp
    with_reducible rfl
  rotate_left
  · simp only [Act.put, List.setIfInBounds_toArray, List.set_cons_zero, List.set_cons_succ, i64_w, i32_w]
    rfl
  refine pure_ (i := 5) (N := some 59) (v := ?_) (a' := ?_) #[true, true, true, true, true, true, false, false, false, false, false, false, false, false, false, false, false, false] rfl rfl (by kernel_rfl) (fun _ _ _ h => h) (Or.inl ⟨by rfl, ?_⟩) ?_ ?_
  rotate_left
  · intro w'
    go_simp
    with_reducible rfl
  rotate_left
  · simp only [Act.put, List.setIfInBounds_toArray, List.set_cons_zero, List.set_cons_succ, i64_w, i32_w]
    rfl
  refine pure_ (i := 6) (N := some 60) (v := ?_) (a' := ?_) #[true, true, true, true, true, true, true, false, false, false, false, false, false, false, false, false, false, false] rfl rfl (by kernel_rfl) (fun _ _ _ h => h) (Or.inl ⟨by rfl, ?_⟩) ?_ ?_
  rotate_left
  · intro w'
    go_simp
    with_reducible rfl
  rotate_left
  · simp only [Act.put, List.setIfInBounds_toArray, List.set_cons_zero, List.set_cons_succ, i64_w, i32_w]
    rfl
  refine pure_ (i := 7) (N := some 61) (v := ?_) (a' := ?_) #[true, true, true, true, true, true, true, true, false, false, false, false, false, false, false, false, false, false] rfl rfl (by kernel_rfl) (fun _ _ _ h => h) (Or.inl ⟨by rfl, ?_⟩) ?_ ?_
  rotate_left
  · intro w'
    go_simp
    with_reducible rfl
  rotate_left
  · simp only [Act.put, List.setIfInBounds_toArray, List.set_cons_zero, List.set_cons_succ, i64_w, i32_w]
    rfl
  refine pure_ (i := 8) (N := some 62) (v := ?_) (a' := ?_) #[true, true, true, true, true, true, true, true, true, false, false, false, false, false, false, false, false, false] rfl rfl (by kernel_rfl) (fun _ _ _ h => h) (Or.inl ⟨by rfl, ?_⟩) ?_ ?_
  rotate_left
  · intro w'
    go_simp
    with_reducible rfl
  rotate_left
  · simp only [Act.put, List.setIfInBounds_toArray, List.set_cons_zero, List.set_cons_succ, i64_w, i32_w]
    rfl
  refine pure_ (i := 9) (N := some 63) (v := ?_) (a' := ?_) #[true, true, true, true, true, true, true, true, true, true, false, false, false, false, false, false, false, false] rfl rfl (by kernel_rfl) (fun _ _ _ h => h) (Or.inl ⟨by rfl, ?_⟩) ?_ ?_
  rotate_left
  · intro w'
    go_simp
    with_reducible rfl
  rotate_left
  · simp only [Act.put, List.setIfInBounds_toArray, List.set_cons_zero, List.set_cons_succ, i64_w, i32_w]
    rfl
  refine pure_ (i := 10) (N := some 64) (v := ?_) (a' := ?_) #[true, true, true, true, true, true, true, true, true, true, true, false, false, false, false, false, false, false] rfl rfl (by kernel_rfl) (fun _ _ _ h => h) (Or.inl ⟨by rfl, ?_⟩) ?_ ?_
  rotate_left
  · intro w'
    go_simp
    with_reducible rfl
  rotate_left
  · simp only [Act.put, List.setIfInBounds_toArray, List.set_cons_zero, List.set_cons_succ, i64_w, i32_w]
    rfl
  refine pure_ (i := 11) (N := some 65) (v := ?_) (a' := ?_) #[true, true, true, true, true, true, true, true, true, true, true, true, false, false, false, false, false, false] rfl rfl (by kernel_rfl) (fun _ _ _ h => h) (Or.inl ⟨by rfl, ?_⟩) ?_ ?_
  rotate_left
  · intro w'
    go_simp
    with_reducible rfl
  rotate_left
  · simp only [Act.put, List.setIfInBounds_toArray, List.set_cons_zero, List.set_cons_succ, i64_w, i32_w]
    rfl
  refine pure_ (i := 13) (N := some 67) (v := ?_) (a' := ?_) #[true, true, true, true, true, true, true, true, true, true, true, true, false, true, false, false, false, false] rfl rfl (by kernel_rfl) (fun _ _ _ h => h) (Or.inl ⟨by rfl, ?_⟩) ?_ ?_
  rotate_left
  · intro w'
    go_simp
    with_reducible rfl
  rotate_left
  · simp only [Act.put, List.setIfInBounds_toArray, List.set_cons_zero, List.set_cons_succ, i64_w, i32_w]
    rfl
  refine take_ (i := 12) (N := some 66) (v := ?_) (a' := ?_) #[true, true, true, true, true, true, true, true, true, true, true, true, true, true, false, false, false, false] rfl rfl (by kernel_rfl) (fun _ _ _ h => h) (Or.inl ⟨by rfl, ?_⟩) hHeld ?_ ?_
  rotate_left
  · rintro w' s0
    go_simp
    with_reducible rfl
  rotate_left
  · simp only [Act.put, List.setIfInBounds_toArray, List.set_cons_zero, List.set_cons_succ, i64_w, i32_w]
    rfl
  refine one_ (i := 14) (N := some 68) #[true, true, true, true, true, true, true, true, true, true, true, true, true, true, true, false, false, false] rfl rfl (by kernel_rfl) (by decide) (fun K hK => ?_)
  refine goes_ Try.func16 (by kernel_rfl) rfl #[.int .u8 seed, .int .i64 128] (by rfl) rfl rfl (by (try simp only [List.map_toArray, List.map_cons, List.map_nil]); rfl) ?_
  refine (filled_calls seed 128 (by omega) _).mono ?_
  rintro e w7 ⟨v7, rfl, hv7, hb7⟩
  refine ⟨_, rfl, ?_⟩
  refine hK.out _ _ (conv_at HV5.out (below_step HBd.out hb7)) (fun hHeld => ?_)
  clear hK K
  refine norm_ (a' := ?_) ?_ ?_
  rotate_left
  · show Act.put _ (some 68) _ = _
    simp only [Act.put, List.setIfInBounds_toArray, List.set_cons_zero, List.set_cons_succ, i64_w, i32_w]
    rfl
  refine one_ (i := 15) (N := some 69) #[true, true, true, true, true, true, true, true, true, true, true, true, true, true, true, true, false, false] rfl rfl (by kernel_rfl) (by decide) (fun K hK => ?_)
  have hcv7 := conv_at hv7 (Below.refl _ _)
  refine value_ (w1 := ?_) (v := ?_) (by rfl) rfl ?_ ?_
  rotate_left 2
  · go_simp
    constructor
    · rfl
    · rfl
  refine hK.out _ _ (hHeld) (fun hHeld => ?_)
  clear hK K
  refine norm_ (a' := ?_) ?_ ?_
  rotate_left
  · show Act.put _ (some 69) _ = _
    simp only [Act.put, List.setIfInBounds_toArray, List.set_cons_zero, List.set_cons_succ, i64_w, i32_w]
    rfl
  refine pure_ (i := 16) (N := some 70) (v := ?_) (a' := ?_) #[true, true, true, true, true, true, true, true, true, true, true, true, true, true, true, true, true, false] rfl rfl (by kernel_rfl) (fun _ _ _ h => h) (Or.inl ⟨by rfl, ?_⟩) ?_ ?_
  rotate_left
  · intro w'
    go_simp
    with_reducible rfl
  rotate_left
  · simp only [Act.put, List.setIfInBounds_toArray, List.set_cons_zero, List.set_cons_succ, i64_w, i32_w]
    rfl
  refine pure_ (i := 17) (N := some 71) (v := ?_) (a' := ?_) #[true, true, true, true, true, true, true, true, true, true, true, true, true, true, true, true, true, true] rfl rfl (by kernel_rfl) (fun _ _ _ h => h) (Or.inl ⟨by rfl, ?_⟩) ?_ ?_
  rotate_left
  · intro w'
    go_simp
    with_reducible rfl
  rotate_left
  · simp only [Act.put, List.setIfInBounds_toArray, List.set_cons_zero, List.set_cons_succ, i64_w, i32_w]
    rfl
  refine done_ (by kernel_rfl) ?_
  have hb57 := below_step HBd.out hb7
  have hh7 := blk_kept HH5.out (Kept.of_below hb57 (fun _ => False)) (fun h => h)
  obtain ⟨q5, hq5⟩ : ∃ q, q = rd (bytesOf (fill seed 128)) ((5 : Nat) : Int) := ⟨_, rfl⟩
  have c5 : w7.cell? ⟨rc, 5, none⟩ = some (.int .u8 q5) := by rw [hq5]; exact (blk_cell hh7 5).trans HA5.out
  have f5 := blk_frozen hh7 5
  have hnF : ¬ F rc := fun h => by have := HF2.out _ h; have := HR5.out; omega
  have hwrc : w.heap.size ≤ rc := Nat.le_trans HW2.out HR5.out
  have HS7 := Aside0.mk (fun z : Value => (And.intro ((HD5.out.below hb57).kept ((Kept.refl w7 (fun j => j = rc)).setCell (p := ⟨rc, 5, none⟩) (.inl rfl) z) (fun j h1 h2 => hnF (by rw [← h2]; exact h1))) (below_set (below_step HB5.out hb57) (g := rc) (j := 5) (v := z) hwrc) : DiskAt (w7.setCell ⟨rc, 5, none⟩ z) F g D1 ∧ Below w.heap.size w (w7.setCell ⟨rc, 5, none⟩ z)))
  clear hb57 hh7 hq5 hnF hwrc hv7 hb7 HD5 hHeld
  go_wp2_with (first
    | (go_at_call 21; go_loud (have hl : (bytesOf (fill seed 128)).length = 128 := (by rw [bytesOf_fill, fillL_length]); refine (read_calls (HS7.out _).1 (i % (n % 20 + 1)) HE.out.1).mono ?_; rintro e w8 ⟨v, rfl, hv, _, hb8⟩; rw [HE.out.2.1] at hv; obtain ⟨ro, co, cur3, rfl, hr1, hr2, hcc, hh, hat⟩ := own_blk hv (by rw [hl]; omega); rw [hl] at hcc hat hv ⊢; have HV8 := Aside0.mk hv; have HB8 := Aside0.mk (below_step (HS7.out _).2 hb8); have HD8 := Aside0.mk ((HS7.out _).1.below hb8); clear hl hv hh hat hr1 hr2 hb8 hcc HS7)))
  obtain ⟨wd2, hwd⟩ : ∃ wd, wd = w8.drew := ⟨_, rfl⟩
  have hbd : Below w8.heap.size w8 wd2 := by rw [hwd]; exact below_drew1 (Below.refl _ _)
  have hcvd := conv_at HV8.out hbd
  have HBd2 := Aside0.mk hbd
  clear hbd
  refine start_ (n := 26) (S := (fun w' => (convert 35 9 (.slice (some ⟨ro, 0, none⟩) 128 co)).run Try.prog w' = .ok (.string (fill seed 128)) w')) (ds := []) #[false, false, false, false, false, false, false, false, false, false, false, false, false, false, false, false, false, false, false, false, false, false, false, false, false, false] (by kernel_rfl) rfl rfl ((by rw [← hwd]; exact hcvd)) (fun hHeld => ?_)
  rw [← hwd] at hHeld ⊢
  clear hwd hcvd
  have hc8 : ((127 : Int) ≤ (c : Int)) = True := eq_true (by omega)
  refine pure_ (i := 0) (N := some 84) (v := ?_) (a' := ?_) #[true, false, false, false, false, false, false, false, false, false, false, false, false, false, false, false, false, false, false, false, false, false, false, false, false, false] rfl rfl (by kernel_rfl) (fun _ _ _ h => h) (Or.inl ⟨by rfl, ?_⟩) ?_ ?_
  rotate_left
  · intro w'
    go_simp
    with_reducible rfl
  rotate_left
  · simp only [Act.put, List.setIfInBounds_toArray, List.set_cons_zero, List.set_cons_succ, i64_w, i32_w]
    rfl
  refine pure_ (i := 1) (N := some 85) (v := ?_) (a' := ?_) #[true, true, false, false, false, false, false, false, false, false, false, false, false, false, false, false, false, false, false, false, false, false, false, false, false, false] rfl rfl (by kernel_rfl) (fun _ _ _ h => h) (Or.inl ⟨by rfl, ?_⟩) ?_ ?_
  rotate_left
  · intro w'
    go_simp
    with_reducible rfl
  rotate_left
  · simp only [Act.put, List.setIfInBounds_toArray, List.set_cons_zero, List.set_cons_succ, i64_w, i32_w]
    rfl
  refine pure_ (i := 2) (N := some 86) (v := ?_) (a' := ?_) #[true, true, true, false, false, false, false, false, false, false, false, false, false, false, false, false, false, false, false, false, false, false, false, false, false, false] rfl rfl (by kernel_rfl) (fun _ _ _ h => h) (Or.inl ⟨by rfl, ?_⟩) ?_ ?_
  rotate_left
  · intro w'
    go_simp
    with_reducible rfl
  rotate_left
  · simp only [Act.put, List.setIfInBounds_toArray, List.set_cons_zero, List.set_cons_succ, i64_w, i32_w]
    rfl
  refine pure_ (i := 3) (N := some 87) (v := ?_) (a' := ?_) #[true, true, true, true, false, false, false, false, false, false, false, false, false, false, false, false, false, false, false, false, false, false, false, false, false, false] rfl rfl (by kernel_rfl) (fun _ _ _ h => h) (Or.inl ⟨by rfl, ?_⟩) ?_ ?_
  rotate_left
  · intro w'
    go_simp
    with_reducible rfl
  rotate_left
  · simp only [Act.put, List.setIfInBounds_toArray, List.set_cons_zero, List.set_cons_succ, i64_w, i32_w]
    rfl
  refine pure_ (i := 5) (N := some 89) (v := ?_) (a' := ?_) #[true, true, true, true, false, true, false, false, false, false, false, false, false, false, false, false, false, false, false, false, false, false, false, false, false, false] rfl rfl (by kernel_rfl) (fun _ _ _ h => h) (Or.inl ⟨by rfl, ?_⟩) ?_ ?_
  rotate_left
  · intro w'
    go_simp
    with_reducible rfl
  rotate_left
  · simp only [Act.put, List.setIfInBounds_toArray, List.set_cons_zero, List.set_cons_succ, i64_w, i32_w]
    rfl
  refine take_ (i := 4) (N := some 88) (v := ?_) (a' := ?_) #[true, true, true, true, true, true, false, false, false, false, false, false, false, false, false, false, false, false, false, false, false, false, false, false, false, false] rfl rfl (by kernel_rfl) (fun _ _ _ h => h) (Or.inl ⟨by rfl, ?_⟩) hHeld ?_ ?_
  rotate_left
  · rintro w' s0
    go_simp
    with_reducible rfl
  rotate_left
  · simp only [Act.put, List.setIfInBounds_toArray, List.set_cons_zero, List.set_cons_succ, i64_w, i32_w]
    rfl
  refine one_ (i := 6) (N := some 90) #[true, true, true, true, true, true, true, false, false, false, false, false, false, false, false, false, false, false, false, false, false, false, false, false, false, false] rfl rfl (by kernel_rfl) (by decide) (fun K hK => ?_)
  refine goes_ Try.func16 (by kernel_rfl) rfl #[.int .u8 seed, .int .i64 128] (by rfl) rfl rfl (by (try simp only [List.map_toArray, List.map_cons, List.map_nil]); rfl) ?_
  refine (filled_calls seed 128 (by omega) _).mono ?_
  rintro e w9 ⟨v9, rfl, hv9, hb9⟩
  refine ⟨_, rfl, ?_⟩
  refine hK.out _ _ (conv_at HV8.out (below_step HBd2.out hb9)) (fun hHeld => ?_)
  clear hK K
  refine norm_ (a' := ?_) ?_ ?_
  rotate_left
  · show Act.put _ (some 90) _ = _
    simp only [Act.put, List.setIfInBounds_toArray, List.set_cons_zero, List.set_cons_succ, i64_w, i32_w]
    rfl
  refine one_ (i := 7) (N := some 91) #[true, true, true, true, true, true, true, true, false, false, false, false, false, false, false, false, false, false, false, false, false, false, false, false, false, false] rfl rfl (by kernel_rfl) (by decide) (fun K hK => ?_)
  have hcv9 := conv_at hv9 (Below.refl _ _)
  refine value_ (w1 := ?_) (v := ?_) (by rfl) rfl ?_ ?_
  rotate_left 2
  · go_simp
    constructor
    · rfl
    · rfl
  refine hK.out _ _ (hHeld) (fun hHeld => ?_)
  clear hK K
  refine norm_ (a' := ?_) ?_ ?_
  rotate_left
  · show Act.put _ (some 91) _ = _
    simp only [Act.put, List.setIfInBounds_toArray, List.set_cons_zero, List.set_cons_succ, i64_w, i32_w]
    rfl
  have hb89 := below_step HBd2.out hb9
  have hd9 := HD8.out.below hb89
  have HB9 := Aside0.mk (below_step HB8.out hb89)
  have HD9 := Aside0.mk hd9
  clear hb89 hd9 hv9 hb9
  refine pure_ (i := 8) (N := some 92) (v := ?_) (a' := ?_) #[true, true, true, true, true, true, true, true, true, false, false, false, false, false, false, false, false, false, false, false, false, false, false, false, false, false] rfl rfl (by kernel_rfl) (fun _ _ _ h => h) (Or.inl ⟨by rfl, ?_⟩) ?_ ?_
  rotate_left
  · intro w'
    go_simp
    with_reducible rfl
  rotate_left
  · simp only [Act.put, List.setIfInBounds_toArray, List.set_cons_zero, List.set_cons_succ, i64_w, i32_w]
    rfl
  refine pure_ (i := 9) (N := some 93) (v := ?_) (a' := ?_) #[true, true, true, true, true, true, true, true, true, true, false, false, false, false, false, false, false, false, false, false, false, false, false, false, false, false] rfl rfl (by kernel_rfl) (fun _ _ _ h => h) (Or.inl ⟨by rfl, ?_⟩) ?_ ?_
  rotate_left
  · intro w'
    go_simp
    with_reducible rfl
  rotate_left
  · simp only [Act.put, List.setIfInBounds_toArray, List.set_cons_zero, List.set_cons_succ, i64_w, i32_w]
    rfl
  refine pure_ (i := 10) (N := some 94) (v := ?_) (a' := ?_) #[true, true, true, true, true, true, true, true, true, true, true, false, false, false, false, false, false, false, false, false, false, false, false, false, false, false] rfl rfl (by kernel_rfl) (fun _ _ _ h => h) (Or.inl ⟨by rfl, ?_⟩) ?_ ?_
  rotate_left
  · intro w'
    go_simp
    with_reducible rfl
  rotate_left
  · simp only [Act.put, List.setIfInBounds_toArray, List.set_cons_zero, List.set_cons_succ, i64_w, i32_w]
    rfl
  refine pure_ (i := 11) (N := some 95) (v := ?_) (a' := ?_) #[true, true, true, true, true, true, true, true, true, true, true, true, false, false, false, false, false, false, false, false, false, false, false, false, false, false] rfl rfl (by kernel_rfl) (fun _ _ _ h => h) (Or.inl ⟨by rfl, ?_⟩) ?_ ?_
  rotate_left
  · intro w'
    go_simp
    with_reducible rfl
  rotate_left
  · simp only [Act.put, List.setIfInBounds_toArray, List.set_cons_zero, List.set_cons_succ, i64_w, i32_w]
    rfl
  refine pure_ (i := 12) (N := some 96) (v := ?_) (a' := ?_) #[true, true, true, true, true, true, true, true, true, true, true, true, true, false, false, false, false, false, false, false, false, false, false, false, false, false] rfl rfl (by kernel_rfl) (fun _ _ _ h => h) (Or.inl ⟨by rfl, ?_⟩) ?_ ?_
  rotate_left
  · intro w'
    go_simp
    with_reducible rfl
  rotate_left
  · simp only [Act.put, List.setIfInBounds_toArray, List.set_cons_zero, List.set_cons_succ, i64_w, i32_w]
    rfl
  refine pure_ (i := 13) (N := some 97) (v := ?_) (a' := ?_) #[true, true, true, true, true, true, true, true, true, true, true, true, true, true, false, false, false, false, false, false, false, false, false, false, false, false] rfl rfl (by kernel_rfl) (fun _ _ _ h => h) (Or.inl ⟨by rfl, ?_⟩) ?_ ?_
  rotate_left
  · intro w'
    go_simp
    with_reducible rfl
  rotate_left
  · simp only [Act.put, List.setIfInBounds_toArray, List.set_cons_zero, List.set_cons_succ, i64_w, i32_w]
    rfl
  refine pure_ (i := 14) (N := some 98) (v := ?_) (a' := ?_) #[true, true, true, true, true, true, true, true, true, true, true, true, true, true, true, false, false, false, false, false, false, false, false, false, false, false] rfl rfl (by kernel_rfl) (fun _ _ _ h => h) (Or.inl ⟨by rfl, ?_⟩) ?_ ?_
  rotate_left
  · intro w'
    go_simp
    with_reducible rfl
  rotate_left
  · simp only [Act.put, List.setIfInBounds_toArray, List.set_cons_zero, List.set_cons_succ, i64_w, i32_w]
    rfl
  refine one_ (i := 15) (N := some 99) #[true, true, true, true, true, true, true, true, true, true, true, true, true, true, true, true, false, false, false, false, false, false, false, false, false, false] rfl rfl (by kernel_rfl) (by decide) (fun K hK => ?_)
  refine goes_ Try.func17 (by kernel_rfl) rfl #[.pointer (some ⟨g, 0, none⟩), .int .i64 (i % (n % 20 + 1)), .slice (some ⟨rb, 0, none⟩) 127 c] (by rfl) rfl rfl (by (try simp only [List.map_toArray, List.map_cons, List.map_nil]); rfl) ?_
  refine (write_len HD9.out (i % (n % 20 + 1)) (some ⟨rb, 0, none⟩) 127 c HE.out.1 (by omega)).mono ?_
  rintro e w10 ⟨rfl, rfl⟩
  refine ⟨_, rfl, ?_⟩
  refine hK.out _ _ (hHeld) (fun hHeld => ?_)
  clear hK K
  refine norm_ (a' := ?_) ?_ ?_
  rotate_left
  · show Act.put _ (some 99) _ = _
    simp only [Act.put, List.setIfInBounds_toArray, List.set_cons_zero, List.set_cons_succ, i64_w, i32_w]
    rfl
  refine pure_ (i := 16) (N := some 100) (v := ?_) (a' := ?_) #[true, true, true, true, true, true, true, true, true, true, true, true, true, true, true, true, true, false, false, false, false, false, false, false, false, false] rfl rfl (by kernel_rfl) (fun _ _ _ h => h) (Or.inl ⟨by rfl, ?_⟩) ?_ ?_
  rotate_left
  · intro w'
    go_simp
    with_reducible rfl
  rotate_left
  · simp only [Act.put, List.setIfInBounds_toArray, List.set_cons_zero, List.set_cons_succ, i64_w, i32_w]
    rfl
  refine pure_ (i := 17) (N := some 101) (v := ?_) (a' := ?_) #[true, true, true, true, true, true, true, true, true, true, true, true, true, true, true, true, true, true, false, false, false, false, false, false, false, false] rfl rfl (by kernel_rfl) (fun _ _ _ h => h) (Or.inl ⟨by rfl, ?_⟩) ?_ ?_
  rotate_left
  · intro w'
    go_simp
    with_reducible rfl
  rotate_left
  · simp only [Act.put, List.setIfInBounds_toArray, List.set_cons_zero, List.set_cons_succ, i64_w, i32_w]
    rfl
  refine pure_ (i := 18) (N := some 102) (v := ?_) (a' := ?_) #[true, true, true, true, true, true, true, true, true, true, true, true, true, true, true, true, true, true, true, false, false, false, false, false, false, false] rfl rfl (by kernel_rfl) (fun _ _ _ h => h) (Or.inl ⟨by rfl, ?_⟩) ?_ ?_
  rotate_left
  · intro w'
    go_simp
    with_reducible rfl
  rotate_left
  · simp only [Act.put, List.setIfInBounds_toArray, List.set_cons_zero, List.set_cons_succ, i64_w, i32_w]
    rfl
  refine pure_ (i := 19) (N := some 103) (v := ?_) (a' := ?_) #[true, true, true, true, true, true, true, true, true, true, true, true, true, true, true, true, true, true, true, true, false, false, false, false, false, false] rfl rfl (by kernel_rfl) (fun _ _ _ h => h) (Or.inl ⟨by rfl, ?_⟩) ?_ ?_
  rotate_left
  · intro w'
    go_simp
    with_reducible rfl
  rotate_left
  · simp only [Act.put, List.setIfInBounds_toArray, List.set_cons_zero, List.set_cons_succ, i64_w, i32_w]
    rfl
  refine pure_ (i := 20) (N := some 104) (v := ?_) (a' := ?_) #[true, true, true, true, true, true, true, true, true, true, true, true, true, true, true, true, true, true, true, true, true, false, false, false, false, false] rfl rfl (by kernel_rfl) (fun _ _ _ h => h) (Or.inl ⟨by rfl, ?_⟩) ?_ ?_
  rotate_left
  · intro w'
    go_simp
    with_reducible rfl
  rotate_left
  · simp only [Act.put, List.setIfInBounds_toArray, List.set_cons_zero, List.set_cons_succ, i64_w, i32_w]
    rfl
  refine pure_ (i := 21) (N := some 105) (v := ?_) (a' := ?_) #[true, true, true, true, true, true, true, true, true, true, true, true, true, true, true, true, true, true, true, true, true, true, false, false, false, false] rfl rfl (by kernel_rfl) (fun _ _ _ h => h) (Or.inl ⟨by rfl, ?_⟩) ?_ ?_
  rotate_left
  · intro w'
    go_simp
    with_reducible rfl
  rotate_left
  · simp only [Act.put, List.setIfInBounds_toArray, List.set_cons_zero, List.set_cons_succ, i64_w, i32_w]
    rfl
  refine one_ (i := 22) (N := some 106) #[true, true, true, true, true, true, true, true, true, true, true, true, true, true, true, true, true, true, true, true, true, true, true, false, false, false] rfl rfl (by kernel_rfl) (by decide) (fun K hK => ?_)
  refine goes_ Try.func17 (by kernel_rfl) rfl #[.pointer (some ⟨g, 0, none⟩), .int .i64 (n % 20 + 1), .slice (some ⟨rb, 0, none⟩) 128 c] (by rfl) rfl rfl (by (try simp only [List.map_toArray, List.map_cons, List.map_nil]); rfl) ?_
  refine (write_no HD9.out (n % 20 + 1) _ (by rw [HE.out.2.2]; omega)).mono ?_
  rw [HE.out.2.2]
  rintro e w10 ⟨rfl, rfl⟩
  refine ⟨_, rfl, ?_⟩
  refine hK.out _ _ (hHeld) (fun hHeld => ?_)
  clear hK K
  refine norm_ (a' := ?_) ?_ ?_
  rotate_left
  · show Act.put _ (some 106) _ = _
    simp only [Act.put, List.setIfInBounds_toArray, List.set_cons_zero, List.set_cons_succ, i64_w, i32_w]
    rfl
  refine pure_ (i := 23) (N := some 107) (v := ?_) (a' := ?_) #[true, true, true, true, true, true, true, true, true, true, true, true, true, true, true, true, true, true, true, true, true, true, true, true, false, false] rfl rfl (by kernel_rfl) (fun _ _ _ h => h) (Or.inl ⟨by rfl, ?_⟩) ?_ ?_
  rotate_left
  · intro w'
    go_simp
    with_reducible rfl
  rotate_left
  · simp only [Act.put, List.setIfInBounds_toArray, List.set_cons_zero, List.set_cons_succ, i64_w, i32_w]
    rfl
  refine pure_ (i := 24) (N := some 108) (v := ?_) (a' := ?_) #[true, true, true, true, true, true, true, true, true, true, true, true, true, true, true, true, true, true, true, true, true, true, true, true, true, false] rfl rfl (by kernel_rfl) (fun _ _ _ h => h) (Or.inl ⟨by rfl, ?_⟩) ?_ ?_
  rotate_left
  · intro w'
    go_simp
    with_reducible rfl
  rotate_left
  · simp only [Act.put, List.setIfInBounds_toArray, List.set_cons_zero, List.set_cons_succ, i64_w, i32_w]
    rfl
  refine pure_ (i := 25) (N := some 8) (v := ?_) (a' := ?_) #[true, true, true, true, true, true, true, true, true, true, true, true, true, true, true, true, true, true, true, true, true, true, true, true, true, true] rfl rfl (by kernel_rfl) (fun _ _ _ h => h) (Or.inl ⟨by rfl, ?_⟩) ?_ ?_
  rotate_left
  · intro w'
    go_simp
    with_reducible rfl
  rotate_left
  · simp only [Act.put, List.setIfInBounds_toArray, List.set_cons_zero, List.set_cons_succ, i64_w, i32_w]
    rfl
  refine done_ (by kernel_rfl) ?_
  go_wp2
  go_ret
  exact ⟨rfl, HB9.out⟩
end Go.Proofs.Ytnajdnhgoakgaaa.Blk
