/- The law CodecOne. -/
import Derived.Test.YtlcanfniphdelaaCodA
namespace Go.Proofs.Ytlcanfniphdelaa.Cod
open Go.RowKit Go.Proofs.YtlcanfniphdelaaW.PrintWords Go.Proofs.YtlcanfniphdelaaW.PrintLast Go.Proofs.YtlcanfniphdelaaW.PrintMore Go.Proofs.Ytlcanfniphdelaa.Mem Go.Proofs.Ytlcanfniphdelaa.PCod Go.Proofs.Ytlcanfniphdelaa.Conv
set_option linter.unusedVariables false
set_option linter.unusedSimpArgs false
section
variable {w : World} {R : RM} {b r xs : List Int}
theorem rd_back : ∀ (b : List Int) (i : Nat) (x : Int), Byt b → i ≤ 9 → (rdNum i x (128 ^ i) b).2.1 = 0 → (rdNum i x (128 ^ i) b).1 = [] →
    ∃ y : Int, 0 ≤ y ∧ (rdNum i x (128 ^ i) b).2.2 = x + 128 ^ i * y ∧ b = putN (9 - i) y ∧ (0 < i → 0 < y) := by
  intro b
  induction b with
  | nil => intro i x _ _ h _; exact absurd h (by unfold rdNum; decide)
  | cons c r ih =>
    intro i x hb hi h1 h2
    have hc := hb c List.mem_cons_self
    unfold rdNum at h1 h2 ⊢
    by_cases hbad : (i = 9 ∧ 1 < c) ∨ (0 < i ∧ c = 0)
    · rw [if_pos hbad] at h1; exact absurd h1 (by show ¬ (11 : Int) = 0; omega)
    · rw [if_neg hbad] at h1 h2 ⊢
      by_cases hlt : c < 128
      · rw [if_pos hlt] at h1 h2 ⊢
        have hr : r = [] := h2
        subst hr
        refine ⟨c, hc.1, ?_, (putN_small _ hlt).symm, fun h => by omega⟩
        show x + 128 ^ i * (c % 128) = x + 128 ^ i * c
        rw [show c % 128 = c by omega]
      · rw [if_neg hlt] at h1 h2 ⊢
        rw [← pow_128] at h1 h2 ⊢
        obtain ⟨y, hy0, hy1, hy2, hy3⟩ := ih (i + 1) _ (fun x hx => hb x (List.mem_cons_of_mem _ hx)) (by omega) h1 h2
        have hyp := hy3 (by omega)
        refine ⟨c % 128 + 128 * y, by omega, ?_, ?_, fun _ => by omega⟩
        · rw [hy1, pow_128, Int.mul_add, ← Int.mul_assoc, Int.add_assoc]
        · have e : 9 - i = (9 - (i + 1)) + 1 := by omega
          rw [e, putN_great _ (by omega), ← show y = (c % 128 + 128 * y) / 128 by omega, ← hy2]
          congr 1
          omega
theorem one_plain (hb : Byt xs) (h : (⟨xs, 0⟩ : RM).uint.1.end_ = 0) : putNum (⟨xs, 0⟩ : RM).uint.2 = xs ∧ 1 ≤ xs.length ∧ xs.length ≤ 10 := by
  have hu : (⟨xs, 0⟩ : RM).uint = (⟨(rdNum 0 0 1 xs).1, (rdNum 0 0 1 xs).2.1⟩, (rdNum 0 0 1 xs).2.2) := by unfold RM.uint; rw [if_neg (by simp)]
  rw [hu] at h ⊢
  have he : (rdNum 0 0 1 xs).2.1 = 0 := by
    by_cases h0 : (rdNum 0 0 1 xs).2.1 = 0
    · exact h0
    · rw [RM.end_e h0] at h; exact absurd h h0
  rw [RM.end_0 he] at h
  have hr : (rdNum 0 0 1 xs).1 = [] := by
    by_cases h0 : (rdNum 0 0 1 xs).1 = []
    · exact h0
    · rw [if_neg h0] at h; omega
  obtain ⟨y, hy0, hy1, hy2, _⟩ := rd_back xs 0 0 hb (by omega) he hr
  have e1 : (rdNum 0 0 1 xs).2.2 = y := by rw [show (1 : Int) = 128 ^ 0 from rfl, hy1]; simp
  have hl := putN_len 9 y
  have e2 : xs = putNum y := hy2
  show putNum (rdNum 0 0 1 xs).2.2 = xs ∧ _
  rw [e1]
  exact ⟨e2.symm, by rw [e2]; exact hl.2, by rw [e2]; exact hl.1⟩
set_option maxHeartbeats 2000000 in
set_option maxRecDepth 100000 in
theorem one_law (A : Option Addr) (n c : Nat) (hn : n = xs.length) (hr : Kd.C (Kd.int .u8) w A xs.length xs) (hc : n ≤ c) (hl : n < 140737488355328) (hy : Byt xs) :
    Calls Try.prog 4 #[.slice A n c] w fun e w' => e = .returned (.bool true) ∧ Below w.heap.size w w' := by
  by_cases h20 : n > 20
  · have d1 : decide (20 < (n : Int)) = true := decide_eq_true (by omega)
    clear hr hc hl hy hn
    go_enter Try.func4, Try.ntmps4
    go_wp2_with (go_at_call 9; go_loud (refine awake_calls.mono ?_; rintro e w1 ⟨rfl, hb1⟩; have HB1 := Aside0.mk hb1; clear hb1))
    go_ret
    exact ⟨rfl, HB1.out⟩
  · have d1 : decide (20 < (n : Int)) = false := decide_eq_false (by omega)
    have HX := Aside0.mk (And.intro hr (And.intro hc (And.intro hl (And.intro hy hn))))
    have hub := RM.uint_bd (R := ⟨xs, 0⟩) hy
    have hpl := fun h => one_plain hy h
    have HP := Aside0.mk hpl
    obtain ⟨R1, hR1⟩ : ∃ R1, R1 = (⟨xs, 0⟩ : RM).uint := ⟨_, rfl⟩
    rw [← hR1] at hub HP
    have HR1 := Aside0.mk hR1
    clear hr hc hl hy hpl hR1 hn
    obtain ⟨u0, u1⟩ := hub
    by_cases hend : R1.1.end_ = 0
    · go_enter Try.func4, Try.ntmps4
      go_wp2_with (first
        | (go_at_call 9; go_loud (refine awake_calls.mono ?_; rintro e w1 ⟨rfl, hb1⟩; have H1 := Aside0.mk hb1; clear hb1))
        | (go_at_call 18; go_loud (have hx := newReader_calls A c (Kd.C_below HX.out.1 H1.out) (by have := HX.out.2.1; have := HX.out.2.2.2.2; omega) (by have := HX.out.2.2.1; have := HX.out.2.2.2.2; omega) HX.out.2.2.2.1; rw [← HX.out.2.2.2.2] at hx; refine hx.mono ?_; rintro e w2 ⟨g, rfl, hd2, hb2⟩; have H2 := Aside0.mk (And.intro hd2 (below_step H1.out hb2)); clear hd2 hb2 hx))
        | (go_at_call 19; go_loud (refine (uint_any H2.out.2 (fun k h => Nat.le_trans (below_size H1.out) h.1) H2.out.1).mono ?_; rw [← HR1.out]; rintro e w3 ⟨rfl, hd3, hb3, _⟩; have H3 := Aside0.mk (And.intro hd3 hb3); clear hd3 hb3))
        | (go_at_call 23; go_loud (refine (end_calls H3.out.1).mono ?_; rw [hend]; rintro e w4 ⟨rfl, rfl⟩))
        | (go_at_call 10; go_loud (refine (newWriter_calls (w := w3)).mono ?_; rintro e w5 ⟨rfl, hd5, hb5⟩; have H5 := Aside0.mk (And.intro hd5 (below_step H3.out.2 hb5)); clear hd5 hb5))
        | (go_at_call 11; go_loud (refine (wuint_calls H5.out.2 (below_size H3.out.2) H5.out.1 R1.2 u0 (by omega) (by simp)).mono ?_; rintro e w6 ⟨rfl, hd6, hb6, hk6⟩; have H6 := Aside0.mk (And.intro hd6 hb6); clear hd6 hb6 hk6)))
      obtain ⟨p1, p2, p3⟩ := HP.out hend
      have hb6 := H6.out.2
      have hd6 := H6.out.1
      rw [List.nil_append, p1] at hd6
      obtain ⟨hr, hc, hl, hy, hn⟩ := HX.out
      have hr6 := Kd.C_below hr hb6
      obtain ⟨wd, hwd⟩ : ∃ wd, wd = w6.drew := ⟨_, rfl⟩
      have hbd : Below w6.heap.size w6 wd := by rw [hwd]; exact below_drew1 (Below.refl _ _)
      have hcv0 := conv_row (c := c) hn hr6 hbd
      have HC := Aside0.mk (fun (W : World) (h : Below w6.heap.size w6 W) => conv_row (c := c) hn hr6 h)
      have HD := Aside0.mk (And.intro (hd6.below hbd) (And.intro (below_step hb6 hbd) hbd))
      have hn1 : 1 ≤ n := by omega
      have hn2 : n ≤ 10 := by omega
      have d2 : decide (1 ≤ (n : Int)) = true := decide_eq_true (by omega)
      have d3 : decide ((n : Int) ≤ 10) = true := decide_eq_true (by omega)
      clear p1 p2 p3 hb6 hd6 hr hc hl hy hn hr6 hbd d1 u0 u1 hend
      refine start_ (n := 17) (S := fun w' => (convert 27 9 (.slice A n c)).run Try.prog w' = .ok (.string (S xs)) w') (ds := []) #[false, false, false, false, false, false, false, false, false, false, false, false, false, false, false, false, false] (by kernel_rfl) rfl rfl (by rw [← hwd]; exact hcv0) (fun hHeld => ?_)
      rw [← hwd] at hHeld ⊢
      clear hwd hcv0
      refine pure_ (i := 0) (N := some 24) (v := ?_) (a' := ?_) #[true, false, false, false, false, false, false, false, false, false, false, false, false, false, false, false, false] rfl rfl (by kernel_rfl) (fun _ _ _ h => h) (Or.inl ⟨by rfl, ?_⟩) ?_ ?_
      rotate_left
      · intro w'
        go_simp
        with_reducible rfl
      rotate_left
      · simp only [Act.put, List.setIfInBounds_toArray, List.set_cons_zero, List.set_cons_succ, i64_w, i32_w]
        rfl
      refine pure_ (i := 3) (N := some 27) (v := ?_) (a' := ?_) #[true, false, false, true, false, false, false, false, false, false, false, false, false, false, false, false, false] rfl rfl (by kernel_rfl) (fun _ _ _ h => h) (Or.inl ⟨by rfl, ?_⟩) ?_ ?_
      rotate_left
      · intro w'
        go_simp
        with_reducible rfl
      rotate_left
      · simp only [Act.put, List.setIfInBounds_toArray, List.set_cons_zero, List.set_cons_succ, i64_w, i32_w]
        rfl
      refine take_ (i := 4) (N := some 28) (v := ?_) (a' := ?_) #[true, false, false, true, true, false, false, false, false, false, false, false, false, false, false, false, false] rfl rfl (by kernel_rfl) (fun _ _ _ h => h) (Or.inl ⟨by rfl, ?_⟩) hHeld ?_ ?_
      rotate_left
      · rintro w' s0
        go_simp
        with_reducible rfl
      rotate_left
      · simp only [Act.put, List.setIfInBounds_toArray, List.set_cons_zero, List.set_cons_succ, i64_w, i32_w]
        rfl
      refine one_ (i := 1) (N := some 25) #[true, true, false, true, true, false, false, false, false, false, false, false, false, false, false, false, false] rfl rfl (by kernel_rfl) (by decide) (fun K hK => ?_)
      refine goes_ Try.func17 (by kernel_rfl) rfl #[.pointer (some ⟨w3.heap.size, 0, none⟩)] (by rfl) rfl rfl (by (try simp only [List.map_toArray, List.map_cons, List.map_nil]); first | rfl | (go_simp; done)) ?_
      refine (wout_calls HD.out.1).mono ?_
      rintro e w7 ⟨v7, rfl, hv7, hb7⟩
      obtain ⟨A7, c7, rfl, hc7, hC7⟩ := Kd.R_reads hv7
      refine ⟨_, rfl, ?_⟩
      have hcv7 := conv_row (c := c7) rfl hC7 (Below.refl _ _)
      refine hK.out _ _ (HC.out _ (below_step HD.out.2.2 hb7)) (fun hHeld => ?_)
      clear hK K
      refine norm_ (a' := ?_) ?_ ?_
      rotate_left
      · show Act.put _ (some 25) _ = _
        simp only [Act.put, List.setIfInBounds_toArray, List.set_cons_zero, List.set_cons_succ, i64_w, i32_w]
        rfl
      have H7 := Aside0.mk (below_step HD.out.2.1 hb7)
      clear hv7 hb7 hc7 hC7
      refine one_ (i := 2) (N := some 26) #[true, true, true, true, true, false, false, false, false, false, false, false, false, false, false, false, false] rfl rfl (by kernel_rfl) (by decide) (fun K hK => ?_)
      refine value_ (w1 := ?_) (v := ?_) (by rfl) rfl ?_ ?_
      rotate_left 2
      · go_simp
        constructor
        · rfl
        · rfl
      refine hK.out _ _ (hHeld) (fun hHeld => ?_)
      clear hK K
      refine norm_ (a' := ?_) ?_ ?_
      rotate_left
      · show Act.put _ (some 26) _ = _
        simp only [Act.put, List.setIfInBounds_toArray, List.set_cons_zero, List.set_cons_succ, i64_w, i32_w]
        rfl
      clear hcv7
      refine pure_ (i := 5) (N := some 29) (v := ?_) (a' := ?_) #[true, true, true, true, true, true, false, false, false, false, false, false, false, false, false, false, false] rfl rfl (by kernel_rfl) (fun _ _ _ h => h) (Or.inl ⟨by rfl, ?_⟩) ?_ ?_
      rotate_left
      · intro w'
        go_simp
        with_reducible rfl
      rotate_left
      · simp only [Act.put, List.setIfInBounds_toArray, List.set_cons_zero, List.set_cons_succ, i64_w, i32_w]
        rfl
      refine pure_ (i := 6) (N := some 30) (v := ?_) (a' := ?_) #[true, true, true, true, true, true, true, false, false, false, false, false, false, false, false, false, false] rfl rfl (by kernel_rfl) (fun _ _ _ h => h) (Or.inl ⟨by rfl, ?_⟩) ?_ ?_
      rotate_left
      · intro w'
        go_simp
        with_reducible rfl
      rotate_left
      · simp only [Act.put, List.setIfInBounds_toArray, List.set_cons_zero, List.set_cons_succ, i64_w, i32_w]
        rfl
      refine pure_ (i := 7) (N := some 31) (v := ?_) (a' := ?_) #[true, true, true, true, true, true, true, true, false, false, false, false, false, false, false, false, false] rfl rfl (by kernel_rfl) (fun _ _ _ h => h) (Or.inl ⟨by rfl, ?_⟩) ?_ ?_
      rotate_left
      · intro w'
        go_simp
        with_reducible rfl
      rotate_left
      · simp only [Act.put, List.setIfInBounds_toArray, List.set_cons_zero, List.set_cons_succ, i64_w, i32_w]
        rfl
      refine pure_ (i := 8) (N := some 32) (v := ?_) (a' := ?_) #[true, true, true, true, true, true, true, true, true, false, false, false, false, false, false, false, false] rfl rfl (by kernel_rfl) (fun _ _ _ h => h) (Or.inl ⟨by rfl, ?_⟩) ?_ ?_
      rotate_left
      · intro w'
        go_simp
        with_reducible rfl
      rotate_left
      · simp only [Act.put, List.setIfInBounds_toArray, List.set_cons_zero, List.set_cons_succ, i64_w, i32_w]
        rfl
      refine pure_ (i := 9) (N := some 33) (v := ?_) (a' := ?_) #[true, true, true, true, true, true, true, true, true, true, false, false, false, false, false, false, false] rfl rfl (by kernel_rfl) (fun _ _ _ h => h) (Or.inl ⟨by rfl, ?_⟩) ?_ ?_
      rotate_left
      · intro w'
        go_simp
        with_reducible rfl
      rotate_left
      · simp only [Act.put, List.setIfInBounds_toArray, List.set_cons_zero, List.set_cons_succ, i64_w, i32_w]
        rfl
      refine pure_ (i := 10) (N := some 34) (v := ?_) (a' := ?_) #[true, true, true, true, true, true, true, true, true, true, true, false, false, false, false, false, false] rfl rfl (by kernel_rfl) (fun _ _ _ h => h) (Or.inl ⟨by rfl, ?_⟩) ?_ ?_
      rotate_left
      · intro w'
        go_simp
        with_reducible rfl
      rotate_left
      · simp only [Act.put, List.setIfInBounds_toArray, List.set_cons_zero, List.set_cons_succ, i64_w, i32_w]
        rfl
      refine pure_ (i := 11) (N := some 35) (v := ?_) (a' := ?_) #[true, true, true, true, true, true, true, true, true, true, true, true, false, false, false, false, false] rfl rfl (by kernel_rfl) (fun _ _ _ h => h) (Or.inl ⟨by rfl, ?_⟩) ?_ ?_
      rotate_left
      · intro w'
        go_simp
        with_reducible rfl
      rotate_left
      · simp only [Act.put, List.setIfInBounds_toArray, List.set_cons_zero, List.set_cons_succ, i64_w, i32_w]
        rfl
      refine pure_ (i := 12) (N := some 36) (v := ?_) (a' := ?_) #[true, true, true, true, true, true, true, true, true, true, true, true, true, false, false, false, false] rfl rfl (by kernel_rfl) (fun _ _ _ h => h) (Or.inl ⟨by rfl, ?_⟩) ?_ ?_
      rotate_left
      · intro w'
        go_simp
        with_reducible rfl
      rotate_left
      · simp only [Act.put, List.setIfInBounds_toArray, List.set_cons_zero, List.set_cons_succ, i64_w, i32_w]
        rfl
      refine pure_ (i := 13) (N := some 37) (v := ?_) (a' := ?_) #[true, true, true, true, true, true, true, true, true, true, true, true, true, true, false, false, false] rfl rfl (by kernel_rfl) (fun _ _ _ h => h) (Or.inl ⟨by rfl, ?_⟩) ?_ ?_
      rotate_left
      · intro w'
        go_simp
        with_reducible rfl
      rotate_left
      · simp only [Act.put, List.setIfInBounds_toArray, List.set_cons_zero, List.set_cons_succ, i64_w, i32_w]
        rfl
      refine pure_ (i := 14) (N := some 38) (v := ?_) (a' := ?_) #[true, true, true, true, true, true, true, true, true, true, true, true, true, true, true, false, false] rfl rfl (by kernel_rfl) (fun _ _ _ h => h) (Or.inl ⟨by rfl, ?_⟩) ?_ ?_
      rotate_left
      · intro w'
        go_simp
        with_reducible rfl
      rotate_left
      · simp only [Act.put, List.setIfInBounds_toArray, List.set_cons_zero, List.set_cons_succ, i64_w, i32_w]
        rfl
      refine pure_ (i := 15) (N := some 39) (v := ?_) (a' := ?_) #[true, true, true, true, true, true, true, true, true, true, true, true, true, true, true, true, false] rfl rfl (by kernel_rfl) (fun _ _ _ h => h) (Or.inl ⟨by rfl, ?_⟩) ?_ ?_
      rotate_left
      · intro w'
        go_simp
        with_reducible rfl
      rotate_left
      · simp only [Act.put, List.setIfInBounds_toArray, List.set_cons_zero, List.set_cons_succ, i64_w, i32_w]
        rfl
      refine pure_ (i := 16) (N := some 2) (v := ?_) (a' := ?_) #[true, true, true, true, true, true, true, true, true, true, true, true, true, true, true, true, true] rfl rfl (by kernel_rfl) (fun _ _ _ h => h) (Or.inl ⟨by rfl, ?_⟩) ?_ ?_
      rotate_left
      · intro w'
        go_simp
        with_reducible rfl
      rotate_left
      · simp only [Act.put, List.setIfInBounds_toArray, List.set_cons_zero, List.set_cons_succ, i64_w, i32_w]
        rfl
      refine done_ (by kernel_rfl) ?_
      go_wp2
      go_ret
      exact ⟨rfl, H7.out⟩
    · have hb : (R1.1.end_ != 0) = true := bne_iff_ne.2 hend
      clear hend
      go_enter Try.func4, Try.ntmps4
      go_wp2_with (first
        | (go_at_call 9; go_loud (refine awake_calls.mono ?_; rintro e w1 ⟨rfl, hb1⟩; have H1 := Aside0.mk hb1; clear hb1))
        | (go_at_call 18; go_loud (have hx := newReader_calls A c (Kd.C_below HX.out.1 H1.out) (by have := HX.out.2.1; have := HX.out.2.2.2.2; omega) (by have := HX.out.2.2.1; have := HX.out.2.2.2.2; omega) HX.out.2.2.2.1; rw [← HX.out.2.2.2.2] at hx; refine hx.mono ?_; rintro e w2 ⟨g, rfl, hd2, hb2⟩; have H2 := Aside0.mk (And.intro hd2 (below_step H1.out hb2)); clear hd2 hb2 hx))
        | (go_at_call 19; go_loud (refine (uint_any H2.out.2 (fun k h => Nat.le_trans (below_size H1.out) h.1) H2.out.1).mono ?_; rw [← HR1.out]; rintro e w3 ⟨rfl, hd3, hb3, _⟩; have H3 := Aside0.mk (And.intro hd3 hb3); clear hd3 hb3))
        | (go_at_call 23; go_loud (refine (end_calls H3.out.1).mono ?_; rintro e w4 ⟨rfl, rfl⟩)))
      go_ret
      exact ⟨rfl, H3.out.2⟩
theorem one_row {a : Option Addr} {len cap : Nat} {zs : List Int} (h : InRow w a len cap zs) (hl : len * 1 ≤ 140737488351232) : Calls Try.prog 4 #[.slice a len cap] w fun e w' => e = .returned (.bool true) ∧ Below w.heap.size w w' := by
  obtain ⟨xs, h1, h2, h3, h4, h5⟩ := row_bytes h hl
  exact one_law a len cap h1 h2 h3 h4 h5
end
end Go.Proofs.Ytlcanfniphdelaa.Cod
