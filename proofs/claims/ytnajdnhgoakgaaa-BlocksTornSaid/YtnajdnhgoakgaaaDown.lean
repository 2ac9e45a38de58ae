/- The law BlocksDown. -/
import Derived.Test.YtnajdnhgoakgaaaAwk
namespace Go.Proofs.Ytnajdnhgoakgaaa.Blk
open Go.RowKit Go.Proofs.YtnajdnhgoakgaaaW.PrintWords Go.Proofs.YtnajdnhgoakgaaaW.PrintLast Go.Proofs.YtnajdnhgoakgaaaW.PrintMore Go.Proofs.Ytnajdnhgoakgaaa.Mem Go.Proofs.Ytnajdnhgoakgaaa.PBlk
attribute [local go_sem] max2_int min2_int max_two min_two max_three min_three max_four min_four
set_option linter.unusedVariables false
set_option linter.unusedSimpArgs false

/-- New blocks of a call that began in w0. -/
abbrev New (w0 : World) : Nat → Prop := fun k => w0.heap.size ≤ k

/-- Write of a row that was made behind the world w. -/
theorem write_new {w0 w wf : World} {g : Nat} {D : DM} (hB : Below w0.heap.size w0 w) (hd : DiskAt w (New w0) g D) {e : Nat} {ok : Nat → Prop} {v : Value} {s : ByteArray} (hv : Kd.R (Kd.int .u8) e wf w.heap.size ok v (bytesOf s)) (hb : Below w.heap.size w wf) (i : Int) :
    Calls Try.prog 17 #[.pointer (some ⟨g, 0, none⟩), .int .i64 i, v] wf fun e w' => e = .returned (.int .i64 (D.write i s).2) ∧ DiskAt w' (New w0) g (D.write i s).1 ∧ Below w0.heap.size w0 w' := by
  refine (write_own (below_step hB hb) (fun k hk => hk.2.1) ((hd.cut (fun _ h => h)).below hb) i (Kd.R_bound hv) (fun k h1 h2 => ?_)).mono ?_
  · have := h1.2.1
    have := h2.2.2
    omega
  · rintro e w' ⟨rfl, h1, h2, h3⟩
    exact ⟨rfl, h1.mono (fun k hk => hk.2.1), h2⟩

def DInv (D : DM) (k s i : Nat) : Prop := D.L.length = k ∧ ((i ≤ s ∧ D.down = false ∧ D.left = (s : Int) - i) ∨ (s < i ∧ D.down = true))
theorem dinv_up {D : DM} {k s i : Nat} (h : DInv D k s i) (hi : i < s) (at_ : Int) (h0 : 0 ≤ at_) (h1 : at_ < k) (x : ByteArray) (hx : x.size = 128) :
    (D.write at_ x).2 = 0 ∧ DInv (D.write at_ x).1 k s (i + 1) ∧ (D.write at_ x).1.fine 0 = 0 ∧ (D.write at_ x).1.down = false := by
  obtain ⟨hl, h | h⟩ := h
  · obtain ⟨_, hd, hf⟩ := h
    have hfi : D.fine at_ = 0 := by unfold DM.fine; rw [if_neg (by rw [hd]; simp), if_neg (by omega)]
    rw [write_1 hx hfi (by omega), if_pos (by omega)]
    refine ⟨rfl, ⟨by simpa using hl, .inl ⟨by omega, hd, by show D.left - 1 = _; omega⟩⟩, ?_, hd⟩
    unfold DM.fine
    rw [if_neg (by show ¬ D.down = true; rw [hd]; simp), if_neg (by simp only [List.length_set]; omega)]
  · omega
theorem dinv_down {D : DM} {k s i : Nat} (h : DInv D k s i) (hi : s ≤ i) (at_ : Int) (h0 : 0 ≤ at_) (h1 : at_ < k) (x : ByteArray) (hx : x.size = 128) :
    (D.write at_ x).2 = 30 ∧ DInv (D.write at_ x).1 k s (i + 1) ∧ (D.write at_ x).1.fine 0 = 30 ∧ (D.write at_ x).1.down = true := by
  obtain ⟨hl, h | h⟩ := h
  · obtain ⟨_, hd, hf⟩ := h
    have hfi : D.fine at_ = 0 := by unfold DM.fine; rw [if_neg (by rw [hd]; simp), if_neg (by omega)]
    unfold DM.write
    rw [if_neg (by rw [hfi]; simp), if_neg (by rw [hx]; simp), if_pos (by omega)]
    refine ⟨rfl, ⟨by simpa using hl, .inr ⟨by omega, rfl⟩⟩, ?_, rfl⟩
    unfold DM.fine
    rw [if_pos rfl]
  · have hfi : ∀ j, D.fine j = 30 := fun j => by unfold DM.fine; rw [if_pos h.2]
    unfold DM.write
    rw [if_pos (by rw [hfi]; simp)]
    exact ⟨hfi _, ⟨hl, .inr ⟨by omega, h.2⟩⟩, hfi _, h.2⟩

theorem dinv_restart {D : DM} {k s i : Nat} (hk : 1 ≤ k) (h : DInv D k s i) (x : ByteArray) (hx : x.size = 128) : (D.restart.write 0 x).2 = 0 := by
  have hfi : D.restart.fine 0 = 0 := by
    unfold DM.fine
    rw [if_neg (by simp [DM.restart]), if_neg (by have := h.1; simp only [DM.restart]; omega)]
  rw [write_1 hx hfi (by simp [DM.restart])]
set_option maxHeartbeats 2000000 in
set_option maxRecDepth 100000 in
theorem down_law (n after writes torn : Int) (hn0 : 0 ≤ n) (hn1 : n ≤ 255) (ha0 : 0 ≤ after) (ha1 : after ≤ 255) (hw0 : 0 ≤ writes) (hw1 : writes ≤ 255) (w : World) : Calls Try.prog 6 #[.int .u8 n, .int .u8 after, .int .u8 writes, .int .i64 torn] w fun e w' => e = .returned (.bool true) ∧ Below w.heap.size w w' := by
  go_enter Try.func6, Try.ntmps6
  go_wp2_with (first
    | (go_at_call 13; refine (awake_calls w).mono ?_; rintro e w1 ⟨rfl, hb0⟩; have HB0 := Aside0.mk hb0; clear hb0)
    | (go_at_call 14; go_loud (obtain ⟨k, hk⟩ : ∃ k : Nat, (k : Int) = n % 10 + 1 := ⟨(n % 10 + 1).toNat, by omega⟩; rw [← hk]; refine (new_calls k (by omega) (by omega)).mono ?_; rintro e w2 ⟨g, rfl, hd, hb⟩; have HD := Aside0.mk (And.intro (hd.mono (fun j hj => Nat.le_trans (below_size HB0.out) hj)) (below_step HB0.out hb)); clear hd hb HB0))
    | (go_at_call 19; go_loud (refine (stop_calls HD.out.2 (fun _ h => h) HD.out.1 _ _ (by omega)).mono ?_; rintro e w3 ⟨rfl, hd, hb, _⟩; have HD3 := Aside0.mk (And.intro hd hb); clear hd hb)))
  obtain ⟨s, hs⟩ : ∃ s : Nat, (s : Int) = after % 20 := ⟨(after % 20).toNat, by omega⟩
  obtain ⟨m, hm⟩ : ∃ m : Nat, (m : Int) = writes % 40 := ⟨(writes % 40).toNat, by omega⟩
  rw [← hs]
  have hm40 : m ≤ 40 := by omega
  have hk1 : 1 ≤ k := by omega
  have hk2 : k ≤ 10 := by omega
  have hmw : writes % 40 = (m : Int) := hm.symm
  have HI : Aside0 (∃ D, DiskAt w3 (New w) g D ∧ Below w.heap.size w w3 ∧ DInv D k s 0) := ⟨_, HD3.out.1, HD3.out.2, by simp [DM.stop], .inl ⟨Nat.zero_le _, rfl, by
    show (if after % 20 < 0 then (-1 : Int) else after % 20) = _
    rw [if_neg (by omega)]; omega⟩⟩
  clear HD3 HD hs hm
  go_loopg [14] m (fun q v wr => ∃ i : Nat, v = .int .i64 i ∧ q + i = m ∧ ∃ D, Aside0 (DiskAt wr (New w) g D) ∧ Aside0 (Below w.heap.size w wr) ∧ Aside0 (DInv D k s i))
  case atStart => obtain ⟨D, h1, h2, h3⟩ := HI.out; exact ⟨0, rfl, by omega, D, ⟨h1⟩, ⟨h2⟩, ⟨h3⟩⟩
  case round =>
    obtain ⟨i, rfl, hq, D, hd, hb, hv⟩ := hrel
    have hm0 : 0 ≤ n % 10 + 1 := by omega
    go_wp2_with (first
      | (go_at_call 23; go_loud (refine (restart_calls hb.out (fun _ h => h) hd.out).mono ?_; rintro e w4 ⟨rfl, hd4, hb4, _⟩; have HD4 := Aside0.mk hd4; have HB4 := Aside0.mk hb4; have HV4 := Aside0.mk (dinv_restart hk1 hv.out (fill 1 128) (fill_size _ _)); clear hd4 hb4 hd hb))
      | (go_at_call 27; go_loud (refine (down_calls HD4.out).mono ?_; rw [show D.restart.down = false from rfl]; rintro e w5 ⟨rfl, rfl⟩))
      | (go_at_call 16; go_loud (refine (filled_calls 1 128 (by omega) _).mono ?_; rintro e w6 ⟨v, rfl, hv6, hb6⟩; have HO := Aside0.mk hv6; have HB6 := Aside0.mk hb6; clear hv6 hb6))
      | (go_at_call 17; go_loud (have hw := write_new HB4.out HD4.out HO.out HB6.out 0; rw [HV4.out] at hw; refine hw.mono ?_; rintro e w7 ⟨rfl, hd7, hb7⟩; have HB7 := Aside0.mk hb7; clear hd7 hb7 hw)))
    · have hlt : i < m := by omega
      have hnz : (n % 10 + 1 = 0) = False := eq_false (by omega)
      have hat : 0 ≤ (i : Int).tmod (n % 10 + 1) ∧ (i : Int).tmod (n % 10 + 1) < k := by
        rw [Int.tmod_eq_emod_of_nonneg (by omega)]
        exact ⟨Int.emod_nonneg _ (by omega), by rw [hk]; exact Int.emod_lt_of_pos _ (by omega)⟩
      obtain ⟨wd, hwd⟩ : ∃ wd, wd = wr.drew := ⟨_, rfl⟩
      have hbd : Below wr.heap.size wr wd := by rw [hwd]; exact below_drew1 (Below.refl _ _)
      have HDd := Aside0.mk (hd.out.below hbd)
      have HBd := Aside0.mk (below_step hb.out hbd)
      clear hd hb hbd
      refine start_ (n := 9) (S := fun w' => True) (ds := []) #[false, false, false, false, false, false, false, false, false] (by kernel_rfl) rfl rfl trivial (fun hHeld => ?_)
      rw [← hwd]
      clear hwd
      refine pure_ (i := 0) (N := some 47) (v := ?_) (a' := ?_) #[true, false, false, false, false, false, false, false, false] rfl rfl (by kernel_rfl) (fun _ _ _ h => h) (Or.inl ⟨by rfl, ?_⟩) ?_ ?_
      rotate_left
      · intro w'
        go_simp
        with_reducible rfl
      rotate_left
      · simp only [Act.put, List.setIfInBounds_toArray, List.set_cons_zero, List.set_cons_succ, i64_w, i32_w]
        rfl
      refine pure_ (i := 1) (N := some 48) (v := ?_) (a' := ?_) #[true, true, false, false, false, false, false, false, false] rfl rfl (by kernel_rfl) (fun _ _ _ h => h) (Or.inl ⟨by rfl, ?_⟩) ?_ ?_
      rotate_left
      · intro w'
        go_simp
        with_reducible rfl
      rotate_left
      · simp only [Act.put, List.setIfInBounds_toArray, List.set_cons_zero, List.set_cons_succ, i64_w, i32_w]
        rfl
      refine pure_ (i := 2) (N := some 49) (v := ?_) (a' := ?_) #[true, true, true, false, false, false, false, false, false] rfl rfl (by kernel_rfl) (fun _ _ _ h => h) (Or.inl ⟨by rfl, ?_⟩) ?_ ?_
      rotate_left
      · intro w'
        go_simp
        with_reducible rfl
      rotate_left
      · simp only [Act.put, List.setIfInBounds_toArray, List.set_cons_zero, List.set_cons_succ, i64_w, i32_w]
        rfl
      refine pure_ (i := 3) (N := some 50) (v := ?_) (a' := ?_) #[true, true, true, true, false, false, false, false, false] rfl rfl (by kernel_rfl) (fun _ _ _ h => h) (Or.inl ⟨by rfl, ?_⟩) ?_ ?_
      rotate_left
      · intro w'
        go_simp
        with_reducible rfl
      rotate_left
      · simp only [Act.put, List.setIfInBounds_toArray, List.set_cons_zero, List.set_cons_succ, i64_w, i32_w]
        rfl
      refine pure_ (i := 4) (N := some 51) (v := ?_) (a' := ?_) #[true, true, true, true, true, false, false, false, false] rfl rfl (by kernel_rfl) (fun _ _ _ h => h) (Or.inl ⟨by rfl, ?_⟩) ?_ ?_
      rotate_left
      · intro w'
        go_simp
        with_reducible rfl
      rotate_left
      · simp only [Act.put, List.setIfInBounds_toArray, List.set_cons_zero, List.set_cons_succ, i64_w, i32_w]
        rfl
      refine pure_ (i := 5) (N := some 52) (v := ?_) (a' := ?_) #[true, true, true, true, true, true, false, false, false] rfl rfl (by kernel_rfl) (fun _ _ _ h => h) (Or.inl ⟨by rfl, ?_⟩) ?_ ?_
      rotate_left
      · intro w'
        go_simp
        with_reducible rfl
      rotate_left
      · simp only [Act.put, List.setIfInBounds_toArray, List.set_cons_zero, List.set_cons_succ, i64_w, i32_w]
        rfl
      refine one_ (i := 6) (N := some 53) #[true, true, true, true, true, true, true, false, false] rfl rfl (by kernel_rfl) (by decide) (fun K hK => ?_)
      refine goes_ Try.func16 (by kernel_rfl) rfl #[.int .u8 (IntKind.u8.wrap i), .int .i64 128] (by rfl) rfl rfl (by first | rfl | ((try simp only [List.map_toArray, List.map_cons, List.map_nil]); go_simp; done)) ?_
      refine (filled_calls (IntKind.u8.wrap i) 128 (by omega) _).mono ?_
      rintro e w4 ⟨vf, rfl, hv4, hb4⟩
      refine ⟨_, rfl, ?_⟩
      refine hK.out _ _ trivial (fun hHeld => ?_)
      clear hK K
      refine norm_ (a' := ?_) ?_ ?_
      rotate_left
      · show Act.put _ (some 53) _ = _
        simp only [Act.put, List.setIfInBounds_toArray, List.set_cons_zero, List.set_cons_succ, i64_w, i32_w]
        rfl
      refine one_ (i := 7) (N := some 54) #[true, true, true, true, true, true, true, true, false] rfl rfl (by kernel_rfl) (by decide) (fun K hK => ?_)
      refine goes_ Try.func17 (by kernel_rfl) rfl #[.pointer (some ⟨g, 0, none⟩), .int .i64 ((i : Int).tmod (n % 10 + 1)), vf] (by rfl) rfl rfl (by first | rfl | ((try simp only [List.map_toArray, List.map_cons, List.map_nil]); go_simp; done)) ?_
      refine (write_new HBd.out HDd.out hv4 hb4 ((i : Int).tmod (n % 10 + 1))).mono ?_
      rintro e w5 ⟨rfl, hd5, hb5⟩
      refine ⟨_, rfl, ?_⟩
      have hz := fill_size (IntKind.u8.wrap i) 128
      by_cases hs : i < s
      · obtain ⟨e1, e2, e3, e4⟩ := dinv_up hv.out hs _ hat.1 hat.2 _ hz
        rw [e1]
        have HV5 := Aside0.mk e2
        have HE := Aside0.mk (And.intro e3 e4)
        have HD5 := Aside0.mk hd5
        have HB5 := Aside0.mk hb5
        have hge : decide ((s : Int) ≤ i) = false := decide_eq_false (by omega)
        clear hd5 hb5 hz e1 e2 e3 e4 hv4 hb4 hat hv HDd HBd
        refine hK.out _ _ trivial (fun hHeld => ?_)
        clear hK K
        refine norm_ (a' := ?_) ?_ ?_
        rotate_left
        · show Act.put _ (some 54) _ = _
          simp only [Act.put, List.setIfInBounds_toArray, List.set_cons_zero, List.set_cons_succ, i64_w, i32_w]
          rfl
        refine pure_ (i := 8) (N := some 15) (v := ?_) (a' := ?_) #[true, true, true, true, true, true, true, true, true] rfl rfl (by kernel_rfl) (fun _ _ _ h => h) (Or.inl ⟨by rfl, ?_⟩) ?_ ?_
        rotate_left
        · intro w'
          go_simp
          with_reducible rfl
        rotate_left
        · simp only [Act.put, List.setIfInBounds_toArray, List.set_cons_zero, List.set_cons_succ, i64_w, i32_w]
          rfl
        refine done_ (by kernel_rfl) ?_
        go_wp2_with (first
          | (go_at_call 21; go_loud (refine (read_any HD5.out 0).mono ?_; rw [HE.out.1]; rintro e w6 ⟨v6, rfl, _, hb6⟩; have HD6 := Aside0.mk (HD5.out.below hb6); have HB6 := Aside0.mk (below_step HB5.out hb6); clear hb6))
          | (go_at_call 27; go_loud (refine (down_calls HD6.out).mono ?_; rw [HE.out.2]; rintro e w7 ⟨rfl, rfl⟩)))
        go_roundg (gk - 1)
        case measure => omega
        case rel => exact ⟨i + 1, by go_num, by omega, _, HD6, HB6, HV5⟩
      · obtain ⟨e1, e2, e3, e4⟩ := dinv_down hv.out (by omega) _ hat.1 hat.2 _ hz
        rw [e1]
        have HV5 := Aside0.mk e2
        have HE := Aside0.mk (And.intro e3 e4)
        have HD5 := Aside0.mk hd5
        have HB5 := Aside0.mk hb5
        have hge : decide ((s : Int) ≤ i) = true := decide_eq_true (by omega)
        clear hd5 hb5 hz e1 e2 e3 e4 hv4 hb4 hat hv HDd HBd
        refine hK.out _ _ trivial (fun hHeld => ?_)
        clear hK K
        refine norm_ (a' := ?_) ?_ ?_
        rotate_left
        · show Act.put _ (some 54) _ = _
          simp only [Act.put, List.setIfInBounds_toArray, List.set_cons_zero, List.set_cons_succ, i64_w, i32_w]
          rfl
        refine pure_ (i := 8) (N := some 15) (v := ?_) (a' := ?_) #[true, true, true, true, true, true, true, true, true] rfl rfl (by kernel_rfl) (fun _ _ _ h => h) (Or.inl ⟨by rfl, ?_⟩) ?_ ?_
        rotate_left
        · intro w'
          go_simp
          with_reducible rfl
        rotate_left
        · simp only [Act.put, List.setIfInBounds_toArray, List.set_cons_zero, List.set_cons_succ, i64_w, i32_w]
          rfl
        refine done_ (by kernel_rfl) ?_
        go_wp2_with (first
          | (go_at_call 21; go_loud (refine (read_any HD5.out 0).mono ?_; rw [HE.out.1]; rintro e w6 ⟨v6, rfl, _, hb6⟩; have HD6 := Aside0.mk (HD5.out.below hb6); have HB6 := Aside0.mk (below_step HB5.out hb6); clear hb6))
          | (go_at_call 27; go_loud (refine (down_calls HD6.out).mono ?_; rw [HE.out.2]; rintro e w7 ⟨rfl, rfl⟩)))
        go_roundg (gk - 1)
        case measure => omega
        case rel => exact ⟨i + 1, by go_num, by omega, _, HD6, HB6, HV5⟩
    · go_ret
      exact ⟨rfl, HB7.out⟩
end Go.Proofs.Ytnajdnhgoakgaaa.Blk
