/- The codec's reader and writer: what they are in memory, and what their calls do. -/
import Derived.Test.YtlcanfniphdelaaDoorMem
namespace Go.Proofs.YtlcanfniphdelaaDoor.Cod
open Go.RowKit Go.Proofs.YtlcanfniphdelaaDoorW.PrintWords Go.Proofs.YtlcanfniphdelaaDoorW.PrintLast Go.Proofs.YtlcanfniphdelaaDoorW.PrintMore Go.Proofs.YtlcanfniphdelaaDoor.Mem
set_option linter.unusedVariables false
set_option linter.unusedSimpArgs false

/-- A reader's state: the bytes that are left, the first error. -/
structure RM where
  b : List Int
  e : Int

/-- The reader behind a pointer to block g; it lies in F. -/
def RdAt (w : World) (F : Nat → Prop) (g : Nat) (R : RM) : Prop :=
  ∃ A c, F g ∧ (∀ ad, A = some ad → F ad.block ∧ ad.block ≠ g) ∧ w.heap[g]? = some (.cells #[.slice A R.b.length c, .int .i64 R.e] 84 (0, 0)) ∧ Kd.C (Kd.int .u8) w A R.b.length R.b ∧ R.b.length ≤ c ∧ R.b.length < 140737488355328 ∧ c ≤ 9223372036854775807 ∧ Byt R.b

theorem C_kept {w w' : World} {S : Nat → Prop} {A : Option Addr} {n : Nat} {xs : List Int} (h : Kd.C (Kd.int .u8) w A n xs) (hk : Kept w w' S) (hs : ∀ ad, A = some ad → ¬ S ad.block) : Kd.C (Kd.int .u8) w' A n xs := by
  refine ⟨h.1, h.2.1, fun hn => ?_⟩
  obtain ⟨ad, e, hc⟩ := h.2.2 hn
  refine ⟨ad, e, fun j p hj => ?_⟩
  obtain ⟨cs, h1, h2, h3⟩ := hc j p hj
  refine ⟨cs, h1, h2, fun i u hu => ?_⟩
  have hb : (ad.add (j * (Kd.int IntKind.u8).sz + i)).block = ad.block := by unfold Addr.add; split <;> rfl
  exact cell_kept (h3 i u hu) hk (by rw [hb]; exact hs ad e)

theorem RdAt.kept {w w' : World} {F S : Nat → Prop} {g : Nat} {R : RM} (h : RdAt w F g R) (hk : Kept w w' S) (ha : Apart F S) : RdAt w' F g R := by
  obtain ⟨A, c, h1, h2, h3, h4, h5⟩ := h
  exact ⟨A, c, h1, h2, blk_kept h3 hk (ha g h1), C_kept h4 hk (fun ad e => ha _ (h2 ad e).1), h5⟩
theorem RdAt.below {w w' : World} {F : Nat → Prop} {g : Nat} {R : RM} (h : RdAt w F g R) (hb : Below w.heap.size w w') : RdAt w' F g R := h.kept (Kept.of_below hb (fun _ => False)) (fun _ _ h => h)

def RM.fail (R : RM) (e : Int) : RM := if R.e = 0 then { R with e := e } else R

section
variable {w : World} {F : Nat → Prop} {g : Nat} {R : RM}
theorem err_calls (hd : RdAt w F g R) : Calls Tryd.prog 34 #[.pointer (some ⟨g, 0, none⟩)] w fun e w' => e = .returned (.int .i64 R.e) ∧ w = w' := by
  obtain ⟨A, c, _, _, h3, _⟩ := hd
  have c1 : w.cell? ⟨g, 1, none⟩ = some (.int .i64 R.e) := (blk_cell h3 1).trans rfl
  clear h3
  go_enter Tryd.func34, Tryd.ntmps34
  go_wp2
  go_ret
  exact ⟨rfl, rfl⟩
theorem err_nil : Calls Tryd.prog 34 #[.pointer none] w fun e w' => e = .returned (.int .i64 1) ∧ w = w' := by
  go_enter Tryd.func34, Tryd.ntmps34
  go_wp2
  go_ret
  exact ⟨rfl, rfl⟩
theorem fail_nil (x : Int) : Calls Tryd.prog 45 #[.pointer none, .int .i64 x] w fun e w' => e = .returned (.tuple #[]) ∧ w = w' := by
  go_enter Tryd.func45, Tryd.ntmps45
  go_wp2
  go_end0
  exact ⟨rfl, rfl⟩
theorem rd_set {A : Option Addr} {c : Nat} {x : Int} (h1 : F g) (h2 : ∀ ad, A = some ad → F ad.block ∧ ad.block ≠ g) (h3 : w.heap[g]? = some (.cells #[.slice A R.b.length c, .int .i64 R.e] 84 (0, 0))) (h4 : Kd.C (Kd.int .u8) w A R.b.length R.b) (h5 : R.b.length ≤ c ∧ R.b.length < 140737488355328 ∧ c ≤ 9223372036854775807 ∧ Byt R.b) :
    RdAt (w.setCell ⟨g, 1, none⟩ (.int .i64 x)) F g ⟨R.b, x⟩ := by
  refine ⟨A, c, h1, h2, by simpa using blk_set h3 1 (.int .i64 x), ?_, h5⟩
  exact C_kept h4 ((Kept.refl w (fun k => k = g)).setCell (p := ⟨g, 1, none⟩) (.inl rfl) _) (fun ad e => (h2 ad e).2)
theorem fail_calls {w0 : World} (hB : Below w0.heap.size w0 w) (hF : ∀ k, F k → w0.heap.size ≤ k) (hd : RdAt w F g R) (x : Int) :
    Calls Tryd.prog 45 #[.pointer (some ⟨g, 0, none⟩), .int .i64 x] w fun e w' => e = .returned (.tuple #[]) ∧ RdAt w' F g (R.fail x) ∧ Below w0.heap.size w0 w' ∧ Kept w w' (fun k => k = g) := by
  obtain ⟨A, c, h1, h2, h3, h4, h5⟩ := hd
  have hd : RdAt w F g R := ⟨A, c, h1, h2, h3, h4, h5⟩
  have c1 : w.cell? ⟨g, 1, none⟩ = some (.int .i64 R.e) := (blk_cell h3 1).trans rfl
  have f1 : w.frozen? ⟨g, 1, none⟩ = false := blk_frozen h3 1
  have hz := rd_set (x := x) h1 h2 h3 h4 h5
  have HX := Aside0.mk (And.intro hd (And.intro hz (And.intro hB (hF g h1))))
  clear hd hz hB hF h1 h2 h3 h4 h5
  obtain ⟨e, he⟩ : ∃ e, e = R.e := ⟨_, rfl⟩
  rw [← he] at c1
  have HE := Aside0.mk he
  clear he
  by_cases h : e = 0
  · subst h
    go_enter Tryd.func45, Tryd.ntmps45
    go_wp2
    go_end0
    refine ⟨rfl, ?_, below_set HX.out.2.2.1 HX.out.2.2.2, (Kept.refl w (fun k => k = g)).setCell (p := ⟨g, 1, none⟩) (.inl rfl) _⟩
    unfold RM.fail
    rw [if_pos HE.out.symm]
    exact HX.out.2.1
  · have hb : (e == 0) = false := beq_eq_false_iff_ne.2 h
    go_enter Tryd.func45, Tryd.ntmps45
    go_wp2
    go_end0
    refine ⟨rfl, ?_, HX.out.2.2.1, Kept.refl _ _⟩
    unfold RM.fail
    rw [if_neg (by rw [← HE.out]; exact h)]
    exact HX.out.1

/-! ### take -/
theorem take_nil (n : Int) : Calls Tryd.prog 44 #[.pointer none, .int .i64 n] w fun e w' => e = .returned (.slice none 0 0) ∧ w = w' := by
  go_enter Tryd.func44, Tryd.ntmps44
  go_wp2_with (go_at_call 34; refine (err_nil).mono ?_; rintro e w' ⟨rfl, rfl⟩)
  go_ret
  exact ⟨rfl, rfl⟩
theorem take_err (hd : RdAt w F g R) (he : R.e ≠ 0) (n : Int) : Calls Tryd.prog 44 #[.pointer (some ⟨g, 0, none⟩), .int .i64 n] w fun e w' => e = .returned (.slice none 0 0) ∧ w = w' := by
  have h1 := err_calls hd
  obtain ⟨q, hq⟩ : ∃ q, q = R.e := ⟨_, rfl⟩
  rw [← hq] at h1 he
  clear hq hd
  have hb : (q != 0) = true := bne_iff_ne.2 he
  go_enter Tryd.func44, Tryd.ntmps44
  go_wp2_with (go_at_call 34; refine h1.mono ?_; rintro e w' ⟨rfl, rfl⟩)
  go_ret
  exact ⟨rfl, rfl⟩
theorem take_neg {w0 : World} (hB : Below w0.heap.size w0 w) (hF : ∀ k, F k → w0.heap.size ≤ k) (hd : RdAt w F g R) (he : R.e = 0) (n : Int) (hn : n < 0) :
    Calls Tryd.prog 44 #[.pointer (some ⟨g, 0, none⟩), .int .i64 n] w fun e w' => e = .returned (.slice none 0 0) ∧ RdAt w' F g ⟨R.b, 1⟩ ∧ Below w0.heap.size w0 w' ∧ Kept w w' (fun k => k = g) := by
  have h1 := err_calls hd
  rw [he] at h1
  have h2 := fail_calls hB hF hd 1
  rw [show R.fail 1 = ⟨R.b, 1⟩ by unfold RM.fail; rw [if_pos he]] at h2
  clear he hd hB hF
  have hb : decide (n < 0) = true := decide_eq_true hn
  go_enter Tryd.func44, Tryd.ntmps44
  go_wp2_with (first | (go_at_call 34; refine h1.mono ?_; rintro e w' ⟨rfl, rfl⟩) | (go_at_call 45; refine h2.mono ?_; rintro e w1 ⟨rfl, h3, h4, h5⟩; have H := Aside0.mk (And.intro h3 (And.intro h4 h5)); clear h3 h4 h5))
  go_ret
  exact ⟨rfl, H.out⟩
theorem take_short {w0 : World} (hB : Below w0.heap.size w0 w) (hF : ∀ k, F k → w0.heap.size ≤ k) (hd : RdAt w F g R) (he : R.e = 0) (n : Int) (hn : (R.b.length : Int) < n) :
    Calls Tryd.prog 44 #[.pointer (some ⟨g, 0, none⟩), .int .i64 n] w fun e w' => e = .returned (.slice none 0 0) ∧ RdAt w' F g ⟨R.b, 10⟩ ∧ Below w0.heap.size w0 w' ∧ Kept w w' (fun k => k = g) := by
  have h1 := err_calls hd
  rw [he] at h1
  have h2 := fail_calls hB hF hd 10
  rw [show R.fail 10 = ⟨R.b, 10⟩ by unfold RM.fail; rw [if_pos he]] at h2
  obtain ⟨A, c, _, _, h3, _⟩ := hd
  have c0 : w.cell? ⟨g, 0, none⟩ = some (.slice A R.b.length c) := (blk_cell h3 0).trans rfl
  clear he hB hF h3
  obtain ⟨m, hm⟩ : ∃ m, m = R.b.length := ⟨_, rfl⟩
  rw [← hm] at c0 hn
  clear hm
  have hb : decide (n < 0) = false := decide_eq_false (by omega)
  have hb : decide ((m : Int) < n) = true := decide_eq_true hn
  go_enter Tryd.func44, Tryd.ntmps44
  go_wp2_with (first | (go_at_call 34; refine h1.mono ?_; rintro e w' ⟨rfl, rfl⟩) | (go_at_call 45; refine h2.mono ?_; rintro e w1 ⟨rfl, h3, h4, h5⟩; have H := Aside0.mk (And.intro h3 (And.intro h4 h5)); clear h3 h4 h5))
  go_ret
  exact ⟨rfl, H.out⟩
theorem info_u8s : (Tryd.prog.info? 5).map (·.size) = some 1 := by kernel_rfl
theorem cut_two (A : Option Addr) (n c : Nat) (j : Nat) (hm : j ≤ c) :
    ∀ W : World, (Instr.slice 25 (.slice A n c) none (some (.int .i64 (j : Int))) (some (.int .i64 (j : Int)))).run Tryd.prog W = .ok (.slice A j j) W := by
  intro W
  obtain ⟨i, hi, hz⟩ := Option.map_eq_some_iff.1 info_u8s
  have hel : Tryd.prog.elem 25 = 5 := by simp [Program.elem, Tryd.underlying25]
  have hu : Tryd.prog.underlying 25 = some (.slice (Tryd.prog.elem 25)) := by rw [hel]; exact Tryd.underlying25
  have ha : (A.map fun x => x.add 0) = A := by cases A <;> simp [Addr.add]
  simp [Instr.slice, run_underlying hu, Instr.sliceBounds, run_sliceBound, hm, hel, sizeOf, typeInfo, hi]
  exact fun _ => ha
theorem cut_rest (A : Option Addr) (n c : Nat) (j : Nat) (hm : j ≤ n) :
    ∀ W : World, (Instr.slice 25 (.slice A n c) (some (.int .i64 (j : Int))) none none).run Tryd.prog W = .ok (.slice (if c = j then A else A.map (·.add (j * 1))) (n - j) (c - j)) W := by
  obtain ⟨i, hi, hz⟩ := Option.map_eq_some_iff.1 info_u8s
  have h := cut_from (P := Tryd.prog) 25 5 .i64 Tryd.underlying25 hi 1 hz A n c (j : Int) (by omega) (by omega)
  simpa using h
theorem add_block (a : Addr) (i : Nat) : (a.add i).block = a.block := by unfold Addr.add; split <;> rfl
set_option maxRecDepth 100000 in
theorem take_ok {w0 : World} (hB : Below w0.heap.size w0 w) (hF : ∀ k, F k → w0.heap.size ≤ k) (hd : RdAt w F g R) (he : R.e = 0) (n : Nat) (hn : n ≤ R.b.length) :
    Calls Tryd.prog 44 #[.pointer (some ⟨g, 0, none⟩), .int .i64 n] w fun e w' => ∃ A, e = .returned (.slice A n n) ∧ (∀ ad, A = some ad → F ad.block ∧ ad.block ≠ g) ∧ Kd.C (Kd.int .u8) w' A (R.b.take n).length (R.b.take n) ∧ RdAt w' F g ⟨R.b.drop n, 0⟩ ∧ Below w0.heap.size w0 w' ∧ Kept w w' (fun k => k = g) := by
  have h1 := err_calls hd
  rw [he] at h1
  obtain ⟨A, c, hf, ha, h3, h4, hc, hl, hx, hy⟩ := hd
  have c0 : w.cell? ⟨g, 0, none⟩ = some (.slice A R.b.length c) := (blk_cell h3 0).trans rfl
  have f0 : w.frozen? ⟨g, 0, none⟩ = false := blk_frozen h3 0
  have hs1 := cut_two A R.b.length c n (by omega)
  have hs2 := cut_rest A R.b.length c n (by omega)
  have hct := Kd.C_take h4 hn
  have hcd := Kd.C_drop (c := c) h4 hn hc
  have ha2 : ∀ ad, (if c = n then A else A.map (·.add (n * 1))) = some ad → F ad.block ∧ ad.block ≠ g := by
    intro ad hq
    split at hq
    · exact ha ad hq
    · obtain ⟨a0, h0, rfl⟩ := Option.map_eq_some_iff.1 hq
      rw [add_block]
      exact ha a0 h0
  obtain ⟨A2, hA2⟩ : ∃ A2, A2 = (if c = n then A else A.map (·.add (n * 1))) := ⟨_, rfl⟩
  rw [← hA2] at hs2 ha2
  have hcd2 : Kd.C (Kd.int .u8) w A2 (R.b.drop n).length (R.b.drop n) := by rw [hA2]; exact hcd
  have HX := Aside0.mk (And.intro hf (And.intro ha (And.intro h3 (And.intro hct (And.intro hcd2 (And.intro ha2 (And.intro hB hF)))))))
  have HY := Aside0.mk (And.intro hc (And.intro hl (And.intro hx (And.intro hy (And.intro he hn)))))
  clear he hB hF h3 hf ha h4 hy hct hcd hcd2 hA2 ha2
  obtain ⟨m, hm⟩ : ∃ m, m = R.b.length := ⟨_, rfl⟩
  rw [← hm] at c0 hn hc hl hs1 hs2
  have HM := Aside0.mk hm
  clear hm
  have hb : decide ((n : Int) < 0) = false := decide_eq_false (by omega)
  have hb2 : decide ((m : Int) < (n : Int)) = false := decide_eq_false (by omega)
  have hb3 : decide (m < n) = false := decide_eq_false (by omega)
  go_enter Tryd.func44, Tryd.ntmps44
  go_wp2_with (first | (go_at_call 34; refine h1.mono ?_; rintro e w' ⟨rfl, rfl⟩))
  go_ret
  obtain ⟨hf, ha, h3, hct, hcd2, ha2, hB, hF⟩ := HX.out
  obtain ⟨hc', hl', hx', hy, he, hn'⟩ := HY.out
  have hk := (Kept.refl w (fun k => k = g)).setCell (p := ⟨g, 0, none⟩) (.inl rfl) (.slice A2 (m - n) (c - n))
  refine ⟨A, rfl, ha, C_kept hct hk (fun ad e => (ha ad e).2), ⟨A2, c - n, hf, ha2, ?_, C_kept hcd2 hk (fun ad e => (ha2 ad e).2), ?_, ?_, ?_, fun x hx => hy x (List.mem_of_mem_drop hx)⟩, below_set hB (hF g hf), hk⟩
  · have h := blk_set h3 0 (.slice A2 (m - n) (c - n))
    rw [HM.out, he] at h
    simpa [HM.out] using h
  · simp only [List.length_drop]; omega
  · simp only [List.length_drop]; omega
  · omega

/-! ### take, whatever comes of it; Fixed -/
def RM.fixed (R : RM) (n : Int) : RM × List Int := if R.e ≠ 0 then (R, []) else if n < 0 then (⟨R.b, 1⟩, []) else if (R.b.length : Int) < n then (⟨R.b, 10⟩, []) else (⟨R.b.drop n.toNat, 0⟩, R.b.take n.toNat)
theorem take_any {w0 : World} (hB : Below w0.heap.size w0 w) (hF : ∀ k, F k → w0.heap.size ≤ k) (hd : RdAt w F g R) (n : Int) :
    Calls Tryd.prog 44 #[.pointer (some ⟨g, 0, none⟩), .int .i64 n] w fun e w' => ∃ A k c, e = .returned (.slice A k c) ∧ k = (R.fixed n).2.length ∧ k ≤ c ∧ k < 140737488355328 ∧ (∀ ad, A = some ad → F ad.block ∧ ad.block ≠ g) ∧ Kd.C (Kd.int .u8) w' A (R.fixed n).2.length (R.fixed n).2 ∧ RdAt w' F g (R.fixed n).1 ∧ Below w0.heap.size w0 w' ∧ Kept w w' (fun k => k = g) := by
  have hno : ∀ ad : Addr, (none : Option Addr) = some ad → F ad.block ∧ ad.block ≠ g := fun ad e => by cases e
  by_cases he : R.e = 0
  · by_cases hn : n < 0
    · have hq : R.fixed n = (⟨R.b, 1⟩, []) := by unfold RM.fixed; rw [if_neg (by simpa using he), if_pos hn]
      rw [hq]
      refine (take_neg hB hF hd he n hn).mono ?_
      rintro e w' ⟨rfl, h⟩
      exact ⟨none, 0, 0, rfl, rfl, Nat.le_refl _, by omega, hno, Kd.C_nil _ _, h⟩
    · by_cases hs : (R.b.length : Int) < n
      · have hq : R.fixed n = (⟨R.b, 10⟩, []) := by unfold RM.fixed; rw [if_neg (by simpa using he), if_neg hn, if_pos hs]
        rw [hq]
        refine (take_short hB hF hd he n hs).mono ?_
        rintro e w' ⟨rfl, h⟩
        exact ⟨none, 0, 0, rfl, rfl, Nat.le_refl _, by omega, hno, Kd.C_nil _ _, h⟩
      · have hq : R.fixed n = (⟨R.b.drop n.toNat, 0⟩, R.b.take n.toNat) := by unfold RM.fixed; rw [if_neg (by simpa using he), if_neg hn, if_neg hs]
        rw [hq]
        obtain ⟨m, rfl⟩ := Int.eq_ofNat_of_zero_le (show 0 ≤ n by omega)
        have hl : R.b.length < 140737488355328 := by obtain ⟨A, c, _, _, _, _, _, h, _⟩ := hd; exact h
        refine (take_ok hB hF hd he m (by omega)).mono ?_
        rintro e w' ⟨A, rfl, h1, h2, h3⟩
        refine ⟨A, m, m, rfl, ?_, Nat.le_refl _, by omega, h1, h2, h3⟩
        rw [Int.toNat_natCast, List.length_take]
        omega
  · have hq : R.fixed n = (R, []) := by unfold RM.fixed; rw [if_pos he]
    rw [hq]
    refine (take_err hd he n).mono ?_
    rintro e w' ⟨rfl, rfl⟩
    exact ⟨none, 0, 0, rfl, rfl, Nat.le_refl _, by omega, hno, Kd.C_nil _ _, hd, hB, Kept.refl _ _⟩
theorem fixed_nil (n : Int) : Calls Tryd.prog 46 #[.pointer none, .int .i64 n] w fun e w' => e = .returned (.slice none 0 0) ∧ Below w.heap.size w w' := by
  go_enter Tryd.func46, Tryd.ntmps46
  go_wp2_with (first | (go_at_call 44; refine (take_nil n).mono ?_; rintro e w' ⟨rfl, rfl⟩) | (go_at_call 42; refine (clone_n (n := 0) none 0 [] _ rfl (Kd.C_nil _ _) (by omega) (by omega)).mono ?_; rintro e w1 ⟨v, rfl, hv, hb, hn1, hn2⟩; have HB := Aside0.mk hb; obtain rfl := hn1 rfl; clear hv hb hn1 hn2))
  go_ret
  exact ⟨rfl, HB.out⟩
theorem fixed_calls {w0 : World} (hB : Below w0.heap.size w0 w) (hF : ∀ k, F k → w0.heap.size ≤ k) (hd : RdAt w F g R) (n : Int) :
    Calls Tryd.prog 46 #[.pointer (some ⟨g, 0, none⟩), .int .i64 n] w fun e w' => ∃ v, e = .returned v ∧ Kd.R (Kd.int .u8) 5 w' w.heap.size (fun _ => True) v (R.fixed n).2 ∧ RdAt w' F g (R.fixed n).1 ∧ Below w0.heap.size w0 w' ∧ Kept w w' (fun k => k = g) := by
  have h1 := Aside0.mk (take_any hB hF hd n)
  clear hB hF hd
  go_enter Tryd.func46, Tryd.ntmps46
  go_wp2_with (first | (go_at_call 44; go_loud (refine h1.out.mono ?_; rintro e w1 ⟨A, k, c, rfl, hk, hkc, hkm, _, hC, hd, hB, hK⟩; have HX := Aside0.mk (And.intro hk (And.intro hkc (And.intro hkm (And.intro hC (And.intro hd (And.intro hB hK)))))); clear hk hkc hkm hC hd hB hK)) | (go_at_call 42; go_loud (refine (clone_n A c (R.fixed n).2 _ HX.out.1.symm HX.out.2.2.2.1 HX.out.2.1 HX.out.2.2.1).mono ?_; rintro e w2 ⟨v, rfl, hv, hb, _⟩; have HV := Aside0.mk (And.intro hv hb); clear hv hb)))
  go_ret
  obtain ⟨_, _, _, _, hd, hB, hK⟩ := HX.out
  obtain ⟨hv, hb⟩ := HV.out
  exact ⟨_, rfl, Kd.R_lower hv hK.1, hd.below hb, below_step hB hb, hK.below hb⟩

/-! ### Uint -/
/-- A number's digits: what is left, the error, the number. -/
def rdNum (i : Nat) (x m : Int) : List Int → List Int × Int × Int
  | [] => ([], 10, 0)
  | c :: r => if (i = 9 ∧ 1 < c) ∨ (0 < i ∧ c = 0) then (r, 11, 0) else if c < 128 then (r, 0, x + m * (c % 128)) else rdNum (i + 1) (x + m * (c % 128)) (m * 128) r
def RM.uint (R : RM) : RM × Int := if R.e ≠ 0 then (R, 0) else (⟨(rdNum 0 0 1 R.b).1, (rdNum 0 0 1 R.b).2.1⟩, (rdNum 0 0 1 R.b).2.2)
theorem pow_128 (i : Nat) : (128 : Int) ^ (i + 1) = 128 ^ i * 128 := by rw [Int.pow_succ]
theorem pow_le : ∀ (i : Nat), i ≤ 9 → (128 : Int) ^ i ≤ 9223372036854775808 ∧ 1 ≤ (128 : Int) ^ i := by decide

theorem wraps_u64 (n : Int) (h0 : 0 ≤ n) (h1 : n < 2 ^ 64) : IntKind.u64.wrap n = n := by
  have e : IntKind.u64.wrap n = n % 18446744073709551616 := by simp [IntKind.wrap, IntKind.bits, IntKind.signed]
  rw [e]
  omega
theorem or_digit (i : Nat) (x c : Int) (hi : i ≤ 9) (h9 : i = 9 → c ≤ 1) (hx0 : 0 ≤ x) (hx1 : x < 128 ^ i) (hc0 : 0 ≤ c) (hc1 : c ≤ 255) :
    bits .or .u64 x (IntKind.u64.wrap (IntKind.u64.wrap (bits .and .u8 c 127) * 2 ^ (7 * i))) = x + 128 ^ i * (c % 128) ∧ 0 ≤ x + 128 ^ i * (c % 128) ∧ (i < 9 → x + 128 ^ i * (c % 128) < 128 ^ (i + 1)) ∧ x + 128 ^ i * (c % 128) ≤ 18446744073709551615 := by
  have e1 : bits .and .u8 c 127 = c % 128 := bits_mask .u8 8 (by decide) wraps_u8 7 (by decide) c hc0 (by omega)
  have e2 : (2 : Int) ^ (7 * i) = 128 ^ i := by rw [Int.pow_mul]; rfl
  have hm0 : 0 ≤ c % 128 := by omega
  have hm1 : c % 128 ≤ 127 := by omega
  have hp := pow_le i hi
  have hle : 128 ^ i * (c % 128) + 128 ^ i ≤ 18446744073709551616 := by
    by_cases h : i = 9
    · subst h
      have := h9 rfl
      have h3 : c % 128 ≤ 1 := by omega
      have h4 : (128 : Int) ^ 9 = 9223372036854775808 := by decide
      rw [h4]
      omega
    · have h3 : (128 : Int) ^ i ≤ 72057594037927936 := by
        have : ∀ i : Nat, i ≤ 8 → (128 : Int) ^ i ≤ 72057594037927936 := by decide
        exact this i (by omega)
      have h4 : 128 ^ i * (c % 128) ≤ 128 ^ i * 127 := Int.mul_le_mul_of_nonneg_left hm1 (by omega)
      omega
  have hnn : 0 ≤ 128 ^ i * (c % 128) := Int.mul_nonneg (by omega) hm0
  rw [e1, e2, wraps_u64 _ hm0 (by omega), Int.mul_comm (c % 128), wraps_u64 _ hnn (by omega)]
  refine ⟨?_, by omega, fun _ => ?_, by omega⟩
  · have hcomm : ∀ a b : Int, bits .or .u64 a b = bits .or .u64 b a := by
      intro a b
      simp only [bits]
      rw [BitVec.or_comm]
    rw [hcomm, Int.add_comm]
    refine bits_join .u64 64 (by decide) wraps_u64 (7 * i) _ _ hnn ?_ (by omega) hx0 (by rw [e2]; exact hx1) (by omega)
    rw [e2]
    exact Int.mul_emod_right _ _
  · rw [pow_128]
    have h4 : 128 ^ i * (c % 128) ≤ 128 ^ i * 127 := Int.mul_le_mul_of_nonneg_left hm1 (by omega)
    omega
theorem take_one {w0 : World} {c : Int} {r : List Int} (hB : Below w0.heap.size w0 w) (hF : ∀ k, F k → w0.heap.size ≤ k) (hd : RdAt w F g ⟨c :: r, 0⟩) :
    Calls Tryd.prog 44 #[.pointer (some ⟨g, 0, none⟩), .int .i64 1] w fun e w' => ∃ ad, e = .returned (.slice (some ad) 1 1) ∧ w'.cell? ad = some (.int .u8 c) ∧ RdAt w' F g ⟨r, 0⟩ ∧ Below w0.heap.size w0 w' ∧ Kept w w' (fun k => k = g) := by
  refine (take_ok hB hF hd rfl 1 (by simp)).mono ?_
  rintro e w' ⟨A, rfl, _, hC, h⟩
  obtain ⟨ad, rfl, hc⟩ := Kd.at_int (xs := [c]) hC 0 (by omega) (by simp)
  refine ⟨ad, rfl, ?_, h⟩
  have e0 : ad.add (0 : Int).toNat = ad := by unfold Addr.add; split <;> simp_all
  rw [e0] at hc
  exact hc
set_option maxHeartbeats 1000000 in
set_option maxRecDepth 100000 in
theorem uint_calls {w0 : World} (hB : Below w0.heap.size w0 w) (hF : ∀ k, F k → w0.heap.size ≤ k) (hd : RdAt w F g R) (he : R.e = 0) :
    Calls Tryd.prog 33 #[.pointer (some ⟨g, 0, none⟩)] w fun e w' => e = .returned (.int .u64 R.uint.2) ∧ RdAt w' F g R.uint.1 ∧ Below w0.heap.size w0 w' ∧ Kept w w' (fun k => k = g) := by
  have hq : R.uint = (⟨(rdNum 0 0 1 R.b).1, (rdNum 0 0 1 R.b).2.1⟩, (rdNum 0 0 1 R.b).2.2) := by unfold RM.uint; rw [if_neg (by simpa using he)]
  rw [hq]
  clear hq
  obtain ⟨b, e⟩ := R
  obtain rfl : e = 0 := he

  show Calls _ _ _ _ fun e w' => e = .returned (.int .u64 (rdNum 0 0 1 b).2.2) ∧ RdAt w' F g ⟨(rdNum 0 0 1 b).1, (rdNum 0 0 1 b).2.1⟩ ∧ Below w0.heap.size w0 w' ∧ Kept w w' (fun k => k = g)
  obtain ⟨z, hz⟩ : ∃ z, rdNum 0 0 1 b = z := ⟨_, rfl⟩
  rw [hz]
  have HD := Aside0.mk hd
  have HB := Aside0.mk hB
  have HF := Aside0.mk hF
  have HZ := Aside0.mk hz
  clear hd hB hF hz
  go_enter Tryd.func33, Tryd.ntmps33
  go_wp2
  go_step3
  go_wp2
  go_step3
  go_wp2
  go_loopg [3, 4, 5, 6] b.length (fun q v3 v4 v5 v6 wr => ∃ (i : Nat) (x : Int) (bs : List Int), v3 = .int .u64 x ∧ v4 = .int .i64 i ∧ q = bs.length ∧ i ≤ 9 ∧ 0 ≤ x ∧ x < 128 ^ i ∧ Aside0 (rdNum i x (128 ^ i) bs = z) ∧ Aside0 (RdAt wr F g ⟨bs, 0⟩) ∧ Aside0 (Below w0.heap.size w0 wr) ∧ Aside0 (Kept w wr (fun k => k = g)))
  case atStart => exact ⟨0, 0, b, rfl, rfl, rfl, by omega, by omega, by decide, HZ, HD, HB, ⟨Kept.refl _ _⟩⟩
  case round =>
    clear HD HB HZ
    obtain ⟨i, x, bs, rfl, rfl, rfl, hi, hx0, hx1, hz, hd, hb, hk⟩ := hrel
    have hpw := pow_le i hi
    have HX1 := Aside0.mk hx1
    clear hx1
    cases bs with
    | nil =>
      have ht := Aside0.mk (take_short hb.out HF.out hd.out rfl 1 (by simp))
      have hz2 : ([], 10, 0) = z := hz.out
      have hq0 := fun W => Lib.run_eql_slice_nil (P := Tryd.prog) W 25 5 none 0 0 0 0 Tryd.underlying25
      go_wp2_with (go_at_call 44; go_loud (refine ht.out.mono ?_; rintro e w1 ⟨rfl, hd1, hb1, hk1⟩; have HX := Aside0.mk (And.intro hd1 (And.intro hb1 (hk.out.then_ hk1 (fun k h => .inl h)))); clear hd1 hb1 hk1))
      rw [Exit.noGoto_ret]
      go_ret
      subst hz2
      exact ⟨rfl, HX.out⟩
    | cons c r =>
      have ht := Aside0.mk (take_one hb.out HF.out hd.out)
      have hc : 0 ≤ c ∧ c ≤ 255 := by obtain ⟨_, _, _, _, _, _, _, _, _, hy⟩ := hd.out; exact hy c (by simp)
      obtain ⟨hc0, hc1⟩ := hc
      have hnn := fun W ad => Lib.run_eql_slice_nil (P := Tryd.prog) W 25 5 (some ad) 1 1 0 0 Tryd.underlying25
      have hkk := Aside0.mk hk.out
      by_cases hbad : (i = 9 ∧ 1 < c) ∨ (0 < i ∧ c = 0)
      · have hz2 : (r, 11, 0) = z := by have := hz.out; unfold rdNum at this; rw [if_pos hbad] at this; exact this
        have HZ2 := Aside0.mk hz2
        clear hz2 hz hd hb hk
        rcases hbad with ⟨rfl, h1⟩ | ⟨h0, rfl⟩
        · have d1 : decide (1 < c) = true := decide_eq_true h1
          go_wp2_with (first | (go_at_call 44; go_loud (refine ht.out.mono ?_; rintro e w1 ⟨ad, rfl, hcell, hd1, hb1, hk1⟩; have HX := Aside0.mk (And.intro hd1 (And.intro hb1 (hkk.out.then_ hk1 (fun k h => .inl h)))); clear hd1 hb1 hk1)) | (go_at_call 45; go_loud (refine (fail_calls HX.out.2.1 HF.out HX.out.1 11).mono ?_; rintro e w2 ⟨rfl, hd2, hb2, hk2⟩; have HX2 := Aside0.mk (And.intro hd2 (And.intro hb2 (HX.out.2.2.then_ hk2 (fun k h => .inl h)))); clear hd2 hb2 hk2)))
          rw [Exit.noGoto_ret]
          go_ret
          have hz2 := HZ2.out
          subst hz2
          exact ⟨rfl, HX2.out⟩
        · have d0 : decide (0 < (i : Int)) = true := decide_eq_true (by omega)
          have dn : decide (0 < i) = true := decide_eq_true (by omega)
          by_cases h9 : i = 9
          all_goals
            first | (have d9 : ((i : Int) == 9) = true := by rw [h9]; rfl) | (have d9 : ((i : Int) == 9) = false := beq_eq_false_iff_ne.2 (by omega))
            clear h9
            go_wp2_with (first | (go_at_call 44; go_loud (refine ht.out.mono ?_; rintro e w1 ⟨ad, rfl, hcell, hd1, hb1, hk1⟩; have HX := Aside0.mk (And.intro hd1 (And.intro hb1 (hkk.out.then_ hk1 (fun k h => .inl h)))); clear hd1 hb1 hk1)) | (go_at_call 45; go_loud (refine (fail_calls HX.out.2.1 HF.out HX.out.1 11).mono ?_; rintro e w2 ⟨rfl, hd2, hb2, hk2⟩; have HX2 := Aside0.mk (And.intro hd2 (And.intro hb2 (HX.out.2.2.then_ hk2 (fun k h => .inl h)))); clear hd2 hb2 hk2)))
            rw [Exit.noGoto_ret]
            go_ret
            have hz2 := HZ2.out
            subst hz2
            exact ⟨rfl, HX2.out⟩
      · have hg1 : (i = 9 → c ≤ 1) ∧ (i ≠ 0 → c ≠ 0) := ⟨fun h => by omega, fun h => by omega⟩
        have hz2 : (if c < 128 then (r, 0, x + 128 ^ i * (c % 128)) else rdNum (i + 1) (x + 128 ^ i * (c % 128)) (128 ^ i * 128) r) = z := by have := hz.out; unfold rdNum at this; rw [if_neg hbad] at this; exact this
        have HZ2 := Aside0.mk hz2
        clear hz2 hz hd hb hk hbad
        have dpick : ((i : Int) == 9 && decide (1 < c)) = false := by
          by_cases h : i = 9
          · have := hg1.1 h
            rw [show decide (1 < c) = false from decide_eq_false (by omega)]; simp
          · rw [show ((i : Int) == 9) = false from beq_eq_false_iff_ne.2 (by omega)]; rfl
        obtain ⟨hor, hy0, hy1, hy2⟩ := or_digit i x c hi hg1.1 hx0 HX1.out hc0 hc1
        obtain ⟨y, hy⟩ : ∃ y, y = x + 128 ^ i * (c % 128) := ⟨_, rfl⟩
        rw [← hy] at hor hy0 hy1 hy2
        have HY := Aside0.mk hy
        have HY1 := Aside0.mk hy1
        have HG := Aside0.mk hg1
        have d1 : i = 9 → decide (1 < c) = false := fun h => decide_eq_false (by have := hg1.1 h; omega)
        have d2 : 0 < i → (c == 0) = false := fun h => beq_eq_false_iff_ne.2 (by have := hg1.2 (by omega); omega)
        have HD1 := Aside0.mk d1
        have HD2 := Aside0.mk d2
        clear hg1 dpick hy hy1 d1 d2
        have split3 : i = 0 ∨ (0 < i ∧ i ≠ 9) ∨ i = 9 := by omega
        by_cases hlt : c < 128
        · have d4 : decide (c < 128) = true := decide_eq_true hlt
          rcases split3 with h3 | ⟨h3, h4⟩ | h3
          · have d9 : ((i : Int) == 9) = false := beq_eq_false_iff_ne.2 (by omega)
            have d0 : decide (0 < (i : Int)) = false := decide_eq_false (by omega)
            have dn : decide (0 < i) = false := decide_eq_false (by omega)
            have H3 := Aside0.mk h3
            clear h3
            go_wp2_with (first | (go_at_call 44; go_loud (refine ht.out.mono ?_; rintro e w1 ⟨ad, rfl, hcell, hd1, hb1, hk1⟩; have HX := Aside0.mk (And.intro hd1 (And.intro hb1 (hkk.out.then_ hk1 (fun k h => .inl h)))); clear hd1 hb1 hk1)) | (go_at_call 45; go_loud (refine (fail_calls HX.out.2.1 HF.out HX.out.1 11).mono ?_; rintro e w2 ⟨rfl, hd2, hb2, hk2⟩; have HX2 := Aside0.mk (And.intro hd2 (And.intro hb2 (HX.out.2.2.then_ hk2 (fun k h => .inl h)))); clear hd2 hb2 hk2)))
            rw [Exit.noGoto_ret]
            go_ret
            have hz2 := HZ2.out
            rw [if_pos hlt, ← HY.out] at hz2
            subst hz2
            exact ⟨rfl, HX.out⟩
          · have d9 : ((i : Int) == 9) = false := beq_eq_false_iff_ne.2 (by omega)
            have d0 : decide (0 < (i : Int)) = true := decide_eq_true (by omega)
            have dn : decide (0 < i) = true := decide_eq_true (by omega)
            have dc := HD2.out h3
            go_wp2_with (first | (go_at_call 44; go_loud (refine ht.out.mono ?_; rintro e w1 ⟨ad, rfl, hcell, hd1, hb1, hk1⟩; have HX := Aside0.mk (And.intro hd1 (And.intro hb1 (hkk.out.then_ hk1 (fun k h => .inl h)))); clear hd1 hb1 hk1)) | (go_at_call 45; go_loud (refine (fail_calls HX.out.2.1 HF.out HX.out.1 11).mono ?_; rintro e w2 ⟨rfl, hd2, hb2, hk2⟩; have HX2 := Aside0.mk (And.intro hd2 (And.intro hb2 (HX.out.2.2.then_ hk2 (fun k h => .inl h)))); clear hd2 hb2 hk2)))
            rw [Exit.noGoto_ret]
            go_ret
            have hz2 := HZ2.out
            rw [if_pos hlt, ← HY.out] at hz2
            subst hz2
            exact ⟨rfl, HX.out⟩
          · have dc := HD2.out (by omega)
            have dc1 := HD1.out h3
            have d9 : ((i : Int) == 9) = true := beq_iff_eq.2 (by omega)
            have d0 : decide (0 < (i : Int)) = true := decide_eq_true (by omega)
            have dn : decide (0 < i) = true := decide_eq_true (by omega)
            clear h3
            go_wp2_with (first | (go_at_call 44; go_loud (refine ht.out.mono ?_; rintro e w1 ⟨ad, rfl, hcell, hd1, hb1, hk1⟩; have HX := Aside0.mk (And.intro hd1 (And.intro hb1 (hkk.out.then_ hk1 (fun k h => .inl h)))); clear hd1 hb1 hk1)) | (go_at_call 45; go_loud (refine (fail_calls HX.out.2.1 HF.out HX.out.1 11).mono ?_; rintro e w2 ⟨rfl, hd2, hb2, hk2⟩; have HX2 := Aside0.mk (And.intro hd2 (And.intro hb2 (HX.out.2.2.then_ hk2 (fun k h => .inl h)))); clear hd2 hb2 hk2)))
            rw [Exit.noGoto_ret]
            go_ret
            have hz2 := HZ2.out
            rw [if_pos hlt, ← HY.out] at hz2
            subst hz2
            exact ⟨rfl, HX.out⟩
        · have d4 : decide (c < 128) = false := decide_eq_false hlt
          have hz2 := HZ2.out
          rw [if_neg hlt, ← HY.out, ← pow_128] at hz2
          have HZ3 := Aside0.mk hz2
          clear HZ2 hz2
          rcases split3 with h3 | ⟨h3, h4⟩ | h3
          · have d9 : ((i : Int) == 9) = false := beq_eq_false_iff_ne.2 (by omega)
            have d0 : decide (0 < (i : Int)) = false := decide_eq_false (by omega)
            have dn : decide (0 < i) = false := decide_eq_false (by omega)
            have H3 := Aside0.mk h3
            clear h3
            go_wp2_with (first | (go_at_call 44; go_loud (refine ht.out.mono ?_; rintro e w1 ⟨ad, rfl, hcell, hd1, hb1, hk1⟩; have HX := Aside0.mk (And.intro hd1 (And.intro hb1 (hkk.out.then_ hk1 (fun k h => .inl h)))); clear hd1 hb1 hk1)) | (go_at_call 45; go_loud (refine (fail_calls HX.out.2.1 HF.out HX.out.1 11).mono ?_; rintro e w2 ⟨rfl, hd2, hb2, hk2⟩; have HX2 := Aside0.mk (And.intro hd2 (And.intro hb2 (HX.out.2.2.then_ hk2 (fun k h => .inl h)))); clear hd2 hb2 hk2)))
            go_roundg r.length
            case measure => simp
            case rel => exact ⟨i + 1, y, r, rfl, by go_num, rfl, by have := H3.out; omega, hy0, HY1.out (by have := H3.out; omega), HZ3, ⟨HX.out.1⟩, ⟨HX.out.2.1⟩, ⟨HX.out.2.2⟩⟩
          · have d9 : ((i : Int) == 9) = false := beq_eq_false_iff_ne.2 (by omega)
            have d0 : decide (0 < (i : Int)) = true := decide_eq_true (by omega)
            have dn : decide (0 < i) = true := decide_eq_true (by omega)
            have dc := HD2.out h3
            go_wp2_with (first | (go_at_call 44; go_loud (refine ht.out.mono ?_; rintro e w1 ⟨ad, rfl, hcell, hd1, hb1, hk1⟩; have HX := Aside0.mk (And.intro hd1 (And.intro hb1 (hkk.out.then_ hk1 (fun k h => .inl h)))); clear hd1 hb1 hk1)) | (go_at_call 45; go_loud (refine (fail_calls HX.out.2.1 HF.out HX.out.1 11).mono ?_; rintro e w2 ⟨rfl, hd2, hb2, hk2⟩; have HX2 := Aside0.mk (And.intro hd2 (And.intro hb2 (HX.out.2.2.then_ hk2 (fun k h => .inl h)))); clear hd2 hb2 hk2)))
            go_roundg r.length
            case measure => simp
            case rel => exact ⟨i + 1, y, r, rfl, by go_num, rfl, by omega, hy0, HY1.out (by omega), HZ3, ⟨HX.out.1⟩, ⟨HX.out.2.1⟩, ⟨HX.out.2.2⟩⟩
          · exact absurd (HG.out.1 h3) (by omega)
end
end Go.Proofs.YtlcanfniphdelaaDoor.Cod
