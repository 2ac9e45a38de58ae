/- The law CodecOwn. -/
import Derived.Test.YtlcanfniphdelaaCodL1
namespace Go.Proofs.Ytlcanfniphdelaa.Cod
open Go.RowKit Go.Proofs.YtlcanfniphdelaaW.PrintWords Go.Proofs.YtlcanfniphdelaaW.PrintLast Go.Proofs.YtlcanfniphdelaaW.PrintMore Go.Proofs.Ytlcanfniphdelaa.Mem Go.Proofs.Ytlcanfniphdelaa.PCod Go.Proofs.Ytlcanfniphdelaa.Conv
set_option linter.unusedVariables false
set_option linter.unusedSimpArgs false
section
variable {P : Program} {ops : Array Oper} {rest : List Oper} {o : Oper} {a : Act} {Q : Exit → Act → World → Prop}
/-- '[]byte(s)' of a string: a new row. -/
theorem str_event {w0 W : World} {base : Nat} {src dst e : TypeId} {x : Operand} {s : ByteArray} (hgd : o.guard = none) (ho : o.op = .convert src dst x) (hx : a.eval x = .string s) {u : TypeDesc} (hsr : P.underlying src = some u) (hds : P.underlying dst = some (.slice e)) (he : P.underlying e = some (.int .u8)) (hs : s.size ≤ 9223372036854775807) (HB : Below base w0 W) (hbase : base ≤ W.heap.size)
    (h : ∀ (W' : World) (c : Nat), Below base w0 W' → Below W.heap.size W W' → s.size ≤ c → W.heap.size < W'.heap.size → Kd.C (Kd.int .u8) W' (some ⟨W.heap.size, 0, none⟩) s.size (bytesOf s) → (∀ j, j < s.size → W'.frozen? ⟨W.heap.size, j, none⟩ = false) → wpList P ops Q rest (a.put o.dst (.slice (some ⟨W.heap.size, 0, none⟩) s.size c)) W') :
    wpList P ops Q (o :: rest) a W := by
  have hrun := Lib.run_convert_string_bytes (P := P) W src dst e s hsr hds he
  refine Kd.event_run hgd (v := .slice (some ⟨W.heap.size, 0, none⟩) s.size (grownCap W s.size 0 e)) (w1 := Lib.bytesWorld W e s) ?_ (h _ _ (bytes_below HB hbase e s) (bytes_below (Below.refl _ _) (Nat.le_refl _) e s) ?_ (by rw [Lib.bytesWorld_size]; omega) (Kd.C_of_reads (d := (0 : Int)) (h1 := fun _ => rfl) (bytes_reads W e s hs)) ?_)
  · unfold execOp
    simp [ho, hx, hrun]
  · exact grownCap_ge W s.size 0 e
  · intro j hj
    unfold World.frozen?
    rw [Lib.bytesWorld_at_new]
    have : (Lib.bytesCells W e s).size = s.size + (grownCap W s.size 0 e - s.size) := by simp [Lib.bytesCells]
    simp only [Bool.and_eq_false_imp, decide_eq_true_eq]
    intro h1
    simp; omega
end
section
variable {w : World} {R : RM} {b r xs : List Int}
theorem S_take (hb : Byt xs) (k : Nat) : (S xs).extract 0 k = S (xs.take k) := by rw [S_ext hb, List.drop_zero]
theorem S_drop (hb : Byt xs) (k : Nat) : (S xs).extract k (S xs).size = S (xs.drop k) := by rw [S_ext hb, S_size, List.take_of_length_le (Nat.le_refl _)]
theorem own_fz {w : World} {e base n c g : Nat} {ok : Nat → Prop} {xs : List Int} (h : Kd.R (Kd.int .u8) e w base ok (.slice (some ⟨g, 0, none⟩) n c) xs) (hn : 0 < xs.length) (i : Nat) : w.frozen? ⟨g, i, none⟩ = false := by
  have hn2 := (Kd.R_reads' h).1
  obtain ⟨h0, inner, ho, hr⟩ := h
  rcases ho.2 with ⟨h2, _⟩ | ⟨g', cap, cur, h2, hg, hh, r⟩
  · injection h2 with h3 _ _; cases h3
  · injection h2 with h3 _ _
    injection h3 with h3
    injection h3 with h3
    subst h3
    exact blk_frozen hh i
set_option maxHeartbeats 4000000 in
set_option maxRecDepth 100000 in
theorem own_law (A : Option Addr) (n c : Nat) (x : Int) (hx0 : 0 ≤ x) (hx1 : x ≤ 255) (hn : n = xs.length) (hr : Kd.C (Kd.int .u8) w A xs.length xs) (hc : n ≤ c) (hl : n < 140737488355328) (hy : Byt xs) :
    Calls Try.prog 6 #[.slice A n c, .int .u8 x] w fun e w' => e = .returned (.bool true) ∧ Below w.heap.size w w' := by
  by_cases hout : n < 3 ∨ 200 < n ∨ x = 0
  · have hq : (n < 3) ∨ (¬ n < 3 ∧ 200 < n) ∨ (¬ n < 3 ∧ ¬ 200 < n ∧ x = 0) := by omega
    clear hr hc hl hy hn hout
    rcases hq with h | ⟨h, h2⟩ | ⟨h, h2, rfl⟩
    · have d1 : decide ((n : Int) < 3) = true := decide_eq_true (by omega)
      go_enter Try.func6, Try.ntmps6
      go_wp2_with (go_at_call 9; go_loud (refine awake_calls.mono ?_; rintro e w1 ⟨rfl, hb1⟩; have HB1 := Aside0.mk hb1; clear hb1))
      go_ret
      exact ⟨rfl, HB1.out⟩
    · have d1 : decide ((n : Int) < 3) = false := decide_eq_false (by omega)
      have d2 : decide (200 < (n : Int)) = true := decide_eq_true (by omega)
      go_enter Try.func6, Try.ntmps6
      go_wp2_with (go_at_call 9; go_loud (refine awake_calls.mono ?_; rintro e w1 ⟨rfl, hb1⟩; have HB1 := Aside0.mk hb1; clear hb1))
      go_ret
      exact ⟨rfl, HB1.out⟩
    · have d1 : decide ((n : Int) < 3) = false := decide_eq_false (by omega)
      have d2 : decide (200 < (n : Int)) = false := decide_eq_false (by omega)
      go_enter Try.func6, Try.ntmps6
      go_wp2_with (go_at_call 9; go_loud (refine awake_calls.mono ?_; rintro e w1 ⟨rfl, hb1⟩; have HB1 := Aside0.mk hb1; clear hb1))
      go_ret
      exact ⟨rfl, HB1.out⟩
  · have n3 : 3 ≤ n := by omega
    have n200 : n ≤ 200 := by omega
    have hxn : x ≠ 0 := by omega
    have d1 : decide ((n : Int) < 3) = false := decide_eq_false (by omega)
    have d2 : decide (200 < (n : Int)) = false := decide_eq_false (by omega)
    have d3 : (x == 0) = false := beq_eq_false_iff_ne.2 hxn
    obtain ⟨X, hX⟩ : ∃ X, X = S xs := ⟨_, rfl⟩
    have hXs : X.size = n := by rw [hX, S_size, hn]
    have hXb : bytesOf X = xs := by rw [hX]; exact bytesOf_str hy
    have hf2 : (⟨xs, 0⟩ : RM).fixed 2 = (⟨xs.drop 2, 0⟩, xs.take 2) := RM.fixed_ok rfl (by omega) (by show ¬ (xs.length : Int) < 2; omega)
    have hf3 : (⟨xs.drop 2, 0⟩ : RM).fixed ((n : Int) - 2) = (⟨[], 0⟩, xs.drop 2) := by
      have hl2 : (xs.drop 2).length = n - 2 := by rw [List.length_drop]; omega
      rw [RM.fixed_ok rfl (by omega) (by show ¬ ((xs.drop 2).length : Int) < _; omega), show ((n : Int) - 2).toNat = n - 2 by omega]
      show ((⟨(xs.drop 2).drop (n - 2), 0⟩ : RM), (xs.drop 2).take (n - 2)) = _
      rw [List.drop_of_length_le (by omega), List.take_of_length_le (by omega)]
    have HF := Aside0.mk (And.intro hf2 hf3)
    have HX := Aside0.mk (And.intro hr (And.intro hc (And.intro hl (And.intro hy (And.intro hn (And.intro hX (And.intro hXs hXb)))))))
    clear hr hc hl hy hout hf2 hf3 hn hX hXb hXs hxn
    go_enter Try.func6, Try.ntmps6
    go_upto_region 11 with (first
      | (go_at_call 9; go_loud (refine awake_calls.mono ?_; rintro e w1 ⟨rfl, hb1⟩; have hcv := conv_row (c := c) HX.out.2.2.2.2.1 HX.out.1 hb1; rw [← HX.out.2.2.2.2.2.1] at hcv; have H1 := Aside0.mk hb1; clear hb1))
      | ((with_reducible refine gate_dst (N := 31) rfl ?_); go_loud (refine str_event (s := X) (w0 := w) (base := w.heap.size) rfl rfl rfl Try.underlying9 Try.underlying27 Try.underlying5 (by have := HX.out.2.2.2.2.2.2.1; omega) H1.out (below_size H1.out) ?_; intro w2 c2 hb2 hbb2 hc2 hs2 hC2 hfz2; rw [HX.out.2.2.2.2.2.2.2] at hC2; rw [HX.out.2.2.2.2.2.2.1] at hC2 hc2 hfz2 ⊢; have H2 := Aside0.mk (And.intro hb2 (And.intro hc2 (And.intro hs2 (And.intro hC2 hfz2)))); clear hcv hb2 hbb2 hc2 hs2 hC2 hfz2))
      | (go_at_call 18; go_loud (obtain ⟨hb2, hc2, hs2, hC2, hfz2⟩ := H2.out; have hn := HX.out.2.2.2.2.1; rw [hn] at hC2 hc2; have hx := newReader_calls (some ⟨w1.heap.size, 0, none⟩) c2 hC2 hc2 (by omega) HX.out.2.2.2.1; rw [← hn] at hx; refine hx.mono ?_; rintro e w3 ⟨g, rfl, hd3, hb3⟩; obtain ⟨ad, ea, hcell⟩ := Kd.at_int hC2 1 (by omega) (by omega); cases ea; have c1 : w3.cell? ⟨w1.heap.size, 1, none⟩ = some (.int .u8 (rd xs 1)) := (hb3.cell (p := ⟨w1.heap.size, 1, none⟩) hs2).trans hcell; have f1 : w3.frozen? ⟨w1.heap.size, 1, none⟩ = false := (hb3.frozen (p := ⟨w1.heap.size, 1, none⟩) hs2).trans (hfz2 1 (by omega)); have H3 := Aside0.mk (And.intro hd3 (And.intro hb3 (And.intro hs2 (below_step hb2 hb3)))); clear hd3 hb3 hx hb2 hc2 hs2 hC2 hfz2 hn hcell))
      | (go_at_call 22; go_loud (obtain ⟨hd3, hb3, hs2, hbw⟩ := H3.out; obtain ⟨y1, hy1⟩ : ∃ y1, y1 = bits BinOp.xor IntKind.u8 (rd xs 1) x := ⟨_, rfl⟩; rw [← hy1]; have hk := (Kept.refl w3 (fun k => k = w1.heap.size)).setCell (p := ⟨w1.heap.size, 1, none⟩) (.inl rfl) (.int .u8 y1); have hd4 := hd3.kept hk (fun k hk h => by have h1 : w2.heap.size ≤ k := hk.1; have h2 : k = w1.heap.size := h; omega); have hbs : Below w.heap.size w (w3.setCell ⟨w1.heap.size, 1, none⟩ (.int .u8 y1)) := below_set hbw (below_size H1.out); have hs3 : (w3.setCell ⟨w1.heap.size, 1, none⟩ (.int .u8 y1)).heap.size = w3.heap.size := (by simp); have hx := fixed_calls hbs (fun k h => by have h1 : w2.heap.size ≤ k := h.1; have := H2.out.2.2.1; have := below_size H1.out; omega) hd4 2; rw [HF.out.1, hs3] at hx; refine hx.mono ?_; rintro e w4 ⟨v4, rfl, hv4, hd4', hb4, hk4⟩; have hl2 : (xs.take 2).length = 2 := (by rw [List.length_take]; have := HX.out.2.2.2.2.1; omega); obtain ⟨b4, c4, rfl, hl4, hu4, _, hcc4, hat4⟩ := own_at (xs := xs.take 2) hv4 (by omega); rw [hl2] at hcc4 hat4 ⊢; have H4 := Aside0.mk (And.intro hv4 (And.intro hd4' (And.intro hb4 (And.intro hl4 (And.intro hu4 hat4))))); clear hd3 hb3 hs2 hbw hk hd4 hbs hs3 hx hv4 hd4' hb4 hk4 hl2 hl4 hu4 hat4 hy1)))
    obtain ⟨hv4, hd4, hb4, hl4, hu4, hat4⟩ := H4.out
    obtain ⟨wd, hwd⟩ : ∃ wd, wd = w4.drew := ⟨_, rfl⟩
    have hbd : Below w4.heap.size w4 wd := by rw [hwd]; exact below_drew1 (Below.refl _ _)
    have hcv4 := conv_row (c := c4) (n := 2) (by rw [List.length_take]; have := HX.out.2.2.2.2.1; omega) (Kd.R_reads' hv4).2.2 hbd
    have hX2 : X.extract 0 2 = S (xs.take 2) := by rw [HX.out.2.2.2.2.2.1, S_take HX.out.2.2.2.1]
    have hXl : ((2 : Int) ≤ (X.size : Int)) = True := eq_true (by have := HX.out.2.2.2.2.2.2.1; omega)
    have c4' : wd.cell? ⟨b4, 0, none⟩ = some (.int .u8 (rd (xs.take 2) 0)) := (hbd.cell (p := ⟨b4, 0, none⟩) hu4).trans (hat4 0 (by omega))
    have f4' : wd.frozen? ⟨b4, 0, none⟩ = false := (hbd.frozen (p := ⟨b4, 0, none⟩) hu4).trans (own_fz hv4 (by rw [List.length_take]; have := HX.out.2.2.2.2.1; omega) 0)
    have H5 := Aside0.mk (And.intro (hd4.below hbd) (And.intro (below_step hb4 hbd) (And.intro hl4 (And.intro hu4 (below_size hbd)))))
    clear hv4 hd4 hb4 hl4 hu4 hat4 hbd H4
    refine start_ (n := 5) (S := fun w' => (convert 27 9 (.slice (some ⟨b4, 0, none⟩) 2 c4)).run Try.prog w' = .ok (.string (S (xs.take 2))) w') (ds := []) #[false, false, false, false, false] (by kernel_rfl) rfl rfl (by rw [← hwd]; exact hcv4) (fun hHeld => ?_)
    rw [← hwd] at hHeld ⊢
    clear hwd hcv4
    refine pure_ (i := 0) (N := some 42) (v := ?_) (a' := ?_) #[true, false, false, false, false] rfl rfl (by kernel_rfl) (fun _ _ _ h => h) (Or.inl ⟨by rfl, ?_⟩) ?_ ?_
    rotate_left
    · intro w'
      go_simp
      with_reducible rfl
    rotate_left
    · simp only [Act.put, List.setIfInBounds_toArray, List.set_cons_zero, List.set_cons_succ, i64_w, i32_w]
      rfl
    refine take_ (i := 1) (N := some 43) (v := ?_) (a' := ?_) #[true, true, false, false, false] rfl rfl (by kernel_rfl) (fun _ _ _ h => h) (Or.inl ⟨by rfl, ?_⟩) hHeld ?_ ?_
    rotate_left
    · rintro w' s0
      go_simp
      with_reducible rfl
    rotate_left
    · simp only [Act.put, List.setIfInBounds_toArray, List.set_cons_zero, List.set_cons_succ, i64_w, i32_w]
      rfl
    refine pure_ (i := 2) (N := some 44) (v := ?_) (a' := ?_) #[true, true, true, false, false] rfl rfl (by kernel_rfl) (fun _ _ _ h => h) (Or.inl ⟨by rfl, ?_⟩) ?_ ?_
    rotate_left
    · intro w'
      go_simp
      with_reducible rfl
    rotate_left
    · simp only [Act.put, List.setIfInBounds_toArray, List.set_cons_zero, List.set_cons_succ, i64_w, i32_w]
      rfl
    refine pure_ (i := 3) (N := some 45) (v := ?_) (a' := ?_) #[true, true, true, true, false] rfl rfl (by kernel_rfl) (fun _ _ _ h => h) (Or.inl ⟨by rfl, ?_⟩) ?_ ?_
    rotate_left
    · intro w'
      go_simp
      with_reducible rfl
    rotate_left
    · simp only [Act.put, List.setIfInBounds_toArray, List.set_cons_zero, List.set_cons_succ, i64_w, i32_w]
      rfl
    refine pure_ (i := 4) (N := some 46) (v := ?_) (a' := ?_) #[true, true, true, true, true] rfl rfl (by kernel_rfl) (fun _ _ _ h => h) (Or.inl ⟨by rfl, ?_⟩) ?_ ?_
    rotate_left
    · intro w'
      go_simp
      with_reducible rfl
    rotate_left
    · simp only [Act.put, List.setIfInBounds_toArray, List.set_cons_zero, List.set_cons_succ, i64_w, i32_w]
      rfl
    refine done_ (by kernel_rfl) ?_
    clear hHeld
    clear hX2 hXl
    go_upto_region 19 with (first
      | (go_at_call 22; go_loud (obtain ⟨hd5, hb5, hl4, hu4, hs5⟩ := H5.out; obtain ⟨y2, hy2⟩ : ∃ y2, y2 = bits BinOp.xor IntKind.u8 (rd (xs.take 2) 0) x := ⟨_, rfl⟩; rw [← hy2]; have hk := (Kept.refl wd (fun k => k = b4)).setCell (p := ⟨b4, 0, none⟩) (.inl rfl) (.int .u8 y2); have hd6 := hd5.kept hk (fun k hk h => by have h1 : k < w3.heap.size := hk.2; have h2 : k = b4 := h; omega); have hb3 := below_size H3.out.2.2.2; have hbs : Below w.heap.size w (wd.setCell ⟨b4, 0, none⟩ (.int .u8 y2)) := below_set hb5 (by omega); have hx := fixed_calls hbs (fun k h => by have h1 : w2.heap.size ≤ k := h.1; have h2 := H2.out.2.2.1; have h3 := below_size H1.out; omega) hd6 ((n : Int) - 2); rw [HF.out.2] at hx; refine hx.mono ?_; rintro e w6 ⟨v6, rfl, hv6, _, hb6, _⟩; obtain ⟨A6, c6, rfl, hc6, hC6⟩ := Kd.R_reads (xs := xs.drop 2) hv6; have H6 := Aside0.mk (And.intro hC6 hb6); clear hd5 hb5 hl4 hu4 hs5 hy2 hk hd6 hb3 hbs hx hv6 hb6 hC6))
      | (go_at_call 10; go_loud (refine (newWriter_calls (w := w6)).mono ?_; rintro e w7 ⟨rfl, hd7, hb7⟩; have H7 := Aside0.mk (And.intro hd7 hb7); clear hd7 hb7))
      | (go_at_call 16; go_loud (obtain ⟨hr, hc, hl, hy, hn, _, _, _⟩ := HX.out; refine (wfixed_calls H7.out.2 (Nat.le_refl _) H7.out.1 A n c hn (Kd.C_below hr (below_step H6.out.2 H7.out.2)) (by simp; omega) hy).mono ?_; rintro e w8 ⟨rfl, hd8, hb8, hk8⟩; have H8 := Aside0.mk (And.intro hd8.cut hb8); clear hd8 hb8 hk8 hr hc hl hy hn))
      | (go_at_call 17; go_loud (refine (wout_calls H8.out.1).mono ?_; rintro e w9 ⟨v9, rfl, hv9, hb9⟩; have hlx : 0 < ([] ++ xs).length := (by have := HX.out.2.2.2.2.1; simp; omega); obtain ⟨b9, c9, rfl, hl9, hu9, _, hc9, hat9⟩ := own_at hv9 hlx; have c9' : w9.cell? ⟨b9, 0, none⟩ = some (.int .u8 (rd ([] ++ xs) 0)) := hat9 0 hlx; have f9' : w9.frozen? ⟨b9, 0, none⟩ = false := own_fz hv9 hlx 0; have hlw : 0 < ([] ++ xs).length := hlx; have H9 := Aside0.mk (And.intro hb9 (And.intro hl9 hu9)); clear hv9 hb9 hl9 hu9 hat9 hlx)))
    obtain ⟨y3, hy3⟩ : ∃ y3, y3 = bits BinOp.xor IntKind.u8 (rd xs 0) x := ⟨_, rfl⟩
    rw [← hy3]
    obtain ⟨hb9, hl9, hu9⟩ := H9.out
    obtain ⟨hd8, hb8⟩ := H8.out
    rw [List.nil_append] at hd8
    have hk9 := (Kept.refl w9 (fun k => k = b9)).setCell (p := ⟨b9, 0, none⟩) (.inl rfl) (.int .u8 y3)
    have hd9 := (hd8.below hb9).kept hk9 (fun k hk h => by have h1 := hk.2.2; have h2 : k = b9 := h; omega)
    have hb6e : Below w6.heap.size w6 (w9.setCell ⟨b9, 0, none⟩ (.int .u8 y3)) := below_set (below_step hb8 hb9) (by have := below_size hb8; omega)
    obtain ⟨we, hwe⟩ : ∃ we, we = (w9.setCell ⟨b9, 0, none⟩ (.int .u8 y3)).drew := ⟨_, rfl⟩
    have hbe : Below (w9.setCell ⟨b9, 0, none⟩ (.int .u8 y3)).heap.size (w9.setCell ⟨b9, 0, none⟩ (.int .u8 y3)) we := by rw [hwe]; exact below_drew1 (Below.refl _ _)
    have hb6d : Below w6.heap.size w6 we := below_step hb6e hbe
    have hld : (xs.drop 2).length = xs.length - 2 := List.length_drop
    have hcv := fun (W : World) (h : Below w6.heap.size w6 W) => conv_row (c := c6) hld.symm H6.out.1 h
    have hcv6 := hcv we hb6d
    have HC := Aside0.mk hcv
    have HD := Aside0.mk (And.intro (hd9.below hbe) hb6d)
    have hsd : (S xs).extract 2 (S xs).size = S (xs.drop 2) := S_drop HX.out.2.2.2.1 2
    have hXl : ((2 : Int) ≤ ((S xs).size : Int)) = True := eq_true (by rw [S_size]; have := HX.out.2.2.2.2.1; omega)
    clear hy3 hb9 hl9 hu9 hd8 hb8 hk9 hd9 hb6e hbe hb6d hld hcv
    refine start_ (n := 13) (S := fun w' => (convert 27 9 (.slice A6 (xs.length - 2) c6)).run Try.prog w' = .ok (.string (S (xs.drop 2))) w') (ds := []) #[false, false, false, false, false, false, false, false, false, false, false, false, false] (by kernel_rfl) rfl rfl (by rw [← hwe]; exact hcv6) (fun hHeld => ?_)
    rw [← hwe] at hHeld ⊢
    clear hwe hcv6
    refine pure_ (i := 0) (N := some 70) (v := ?_) (a' := ?_) #[true, false, false, false, false, false, false, false, false, false, false, false, false] rfl rfl (by kernel_rfl) (fun _ _ _ h => h) (Or.inl ⟨by rfl, ?_⟩) ?_ ?_
    rotate_left
    · intro w'
      go_simp
      with_reducible rfl
    rotate_left
    · simp only [Act.put, List.setIfInBounds_toArray, List.set_cons_zero, List.set_cons_succ, i64_w, i32_w]
      rfl
    refine pure_ (i := 2) (N := some 72) (v := ?_) (a' := ?_) #[true, false, true, false, false, false, false, false, false, false, false, false, false] rfl rfl (by kernel_rfl) (fun _ _ _ h => h) (Or.inl ⟨by rfl, ?_⟩) ?_ ?_
    rotate_left
    · intro w'
      go_simp
      with_reducible rfl
    rotate_left
    · simp only [Act.put, List.setIfInBounds_toArray, List.set_cons_zero, List.set_cons_succ, i64_w, i32_w]
      rfl
    refine pure_ (i := 3) (N := some 73) (v := ?_) (a' := ?_) #[true, false, true, true, false, false, false, false, false, false, false, false, false] rfl rfl (by kernel_rfl) (fun _ _ _ h => h) (Or.inl ⟨by rfl, ?_⟩) ?_ ?_
    rotate_left
    · intro w'
      go_simp
      with_reducible rfl
    rotate_left
    · simp only [Act.put, List.setIfInBounds_toArray, List.set_cons_zero, List.set_cons_succ, i64_w, i32_w]
      rfl
    refine take_ (i := 1) (N := some 71) (v := ?_) (a' := ?_) #[true, true, true, true, false, false, false, false, false, false, false, false, false] rfl rfl (by kernel_rfl) (fun _ _ _ h => h) (Or.inl ⟨by rfl, ?_⟩) hHeld ?_ ?_
    rotate_left
    · rintro w' s0
      go_simp
      with_reducible rfl
    rotate_left
    · simp only [Act.put, List.setIfInBounds_toArray, List.set_cons_zero, List.set_cons_succ, i64_w, i32_w]
      rfl
    refine pure_ (i := 4) (N := some 74) (v := ?_) (a' := ?_) #[true, true, true, true, true, false, false, false, false, false, false, false, false] rfl rfl (by kernel_rfl) (fun _ _ _ h => h) (Or.inl ⟨by rfl, ?_⟩) ?_ ?_
    rotate_left
    · intro w'
      go_simp
      with_reducible rfl
    rotate_left
    · simp only [Act.put, List.setIfInBounds_toArray, List.set_cons_zero, List.set_cons_succ, i64_w, i32_w]
      rfl
    refine pure_ (i := 5) (N := some 75) (v := ?_) (a' := ?_) #[true, true, true, true, true, true, false, false, false, false, false, false, false] rfl rfl (by kernel_rfl) (fun _ _ _ h => h) (Or.inl ⟨by rfl, ?_⟩) ?_ ?_
    rotate_left
    · intro w'
      go_simp
      with_reducible rfl
    rotate_left
    · simp only [Act.put, List.setIfInBounds_toArray, List.set_cons_zero, List.set_cons_succ, i64_w, i32_w]
      rfl
    refine pure_ (i := 6) (N := some 76) (v := ?_) (a' := ?_) #[true, true, true, true, true, true, true, false, false, false, false, false, false] rfl rfl (by kernel_rfl) (fun _ _ _ h => h) (Or.inl ⟨by rfl, ?_⟩) ?_ ?_
    rotate_left
    · intro w'
      go_simp
      with_reducible rfl
    rotate_left
    · simp only [Act.put, List.setIfInBounds_toArray, List.set_cons_zero, List.set_cons_succ, i64_w, i32_w]
      rfl
    refine pure_ (i := 9) (N := some 79) (v := ?_) (a' := ?_) #[true, true, true, true, true, true, true, false, false, true, false, false, false] rfl rfl (by kernel_rfl) (fun _ _ _ h => h) (Or.inl ⟨by rfl, ?_⟩) ?_ ?_
    rotate_left
    · intro w'
      go_simp
      with_reducible rfl
    rotate_left
    · simp only [Act.put, List.setIfInBounds_toArray, List.set_cons_zero, List.set_cons_succ, i64_w, i32_w]
      rfl
    refine one_ (i := 7) (N := some 77) #[true, true, true, true, true, true, true, true, false, true, false, false, false] rfl rfl (by kernel_rfl) (by decide) (fun K hK => ?_)
    refine goes_ Try.func17 (by kernel_rfl) rfl #[.pointer (some ⟨w6.heap.size, 0, none⟩)] (by rfl) rfl rfl (by (try simp only [List.map_toArray, List.map_cons, List.map_nil]); first | rfl | (go_simp; done)) ?_
    refine (wout_calls HD.out.1).mono ?_
    rintro e w10 ⟨v10, rfl, hv10, hb10⟩
    obtain ⟨A10, c10, rfl, hc10, hC10⟩ := Kd.R_reads hv10
    refine ⟨_, rfl, ?_⟩
    have hcv10 := conv_row (c := c10) rfl hC10 (Below.refl _ _)
    refine hK.out _ _ (HC.out _ (below_step HD.out.2 hb10)) (fun hHeld => ?_)
    clear hK K
    refine norm_ (a' := ?_) ?_ ?_
    rotate_left
    · show Act.put _ (some 77) _ = _
      simp only [Act.put, List.setIfInBounds_toArray, List.set_cons_zero, List.set_cons_succ, i64_w, i32_w]
      rfl
    have H10 := Aside0.mk (below_step H6.out.2 (below_step HD.out.2 hb10))
    clear hv10 hb10 hc10 hC10
    refine one_ (i := 8) (N := some 78) #[true, true, true, true, true, true, true, true, true, true, false, false, false] rfl rfl (by kernel_rfl) (by decide) (fun K hK => ?_)
    refine value_ (w1 := ?_) (v := ?_) (by rfl) rfl ?_ ?_
    rotate_left 2
    · go_simp
      constructor
      · rfl
      · rfl
    refine hK.out _ _ (hHeld) (fun hHeld => ?_)
    clear hK K
    refine norm_ (a' := ?_) ?_ ?_
    rotate_left
    · show Act.put _ (some 78) _ = _
      simp only [Act.put, List.setIfInBounds_toArray, List.set_cons_zero, List.set_cons_succ, i64_w, i32_w]
      rfl
    clear hcv10
    refine pure_ (i := 10) (N := some 80) (v := ?_) (a' := ?_) #[true, true, true, true, true, true, true, true, true, true, true, false, false] rfl rfl (by kernel_rfl) (fun _ _ _ h => h) (Or.inl ⟨by rfl, ?_⟩) ?_ ?_
    rotate_left
    · intro w'
      go_simp
      with_reducible rfl
    rotate_left
    · simp only [Act.put, List.setIfInBounds_toArray, List.set_cons_zero, List.set_cons_succ, i64_w, i32_w]
      rfl
    refine pure_ (i := 11) (N := some 81) (v := ?_) (a' := ?_) #[true, true, true, true, true, true, true, true, true, true, true, true, false] rfl rfl (by kernel_rfl) (fun _ _ _ h => h) (Or.inl ⟨by rfl, ?_⟩) ?_ ?_
    rotate_left
    · intro w'
      go_simp
      with_reducible rfl
    rotate_left
    · simp only [Act.put, List.setIfInBounds_toArray, List.set_cons_zero, List.set_cons_succ, i64_w, i32_w]
      rfl
    refine pure_ (i := 12) (N := some 4) (v := ?_) (a' := ?_) #[true, true, true, true, true, true, true, true, true, true, true, true, true] rfl rfl (by kernel_rfl) (fun _ _ _ h => h) (Or.inl ⟨by rfl, ?_⟩) ?_ ?_
    rotate_left
    · intro w'
      go_simp
      with_reducible rfl
    rotate_left
    · simp only [Act.put, List.setIfInBounds_toArray, List.set_cons_zero, List.set_cons_succ, i64_w, i32_w]
      rfl
    refine done_ (by kernel_rfl) ?_
    go_wp2
    go_ret
    exact ⟨rfl, H10.out⟩
theorem own_row {a : Option Addr} {len cap : Nat} {zs : List Int} (h : InRow w a len cap zs) (hl : len * 1 ≤ 140737488351232) {x : Int} (hx : (Lit.int .u8 x).wf = true) : Calls Try.prog 6 #[.slice a len cap, .int .u8 x] w fun e w' => e = .returned (.bool true) ∧ Below w.heap.size w w' := by
  obtain ⟨xs, h1, h2, h3, h4, h5⟩ := row_bytes h hl
  have h6 := byt_of_wf (l := [x]) (by simpa using hx) x (by simp)
  exact own_law a len cap x h6.1 h6.2 h1 h2 h3 h4 h5
end
end Go.Proofs.Ytlcanfniphdelaa.Cod
