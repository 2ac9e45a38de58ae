/- The codec's reader: Uint whatever the state, Bytes, Bool, End, NewReader. -/
import Derived.Test.YtlcanfniphdelaaDoorCod
namespace Go.Proofs.YtlcanfniphdelaaDoor.Cod
open Go.RowKit Go.Proofs.YtlcanfniphdelaaDoorW.PrintWords Go.Proofs.YtlcanfniphdelaaDoorW.PrintLast Go.Proofs.YtlcanfniphdelaaDoorW.PrintMore Go.Proofs.YtlcanfniphdelaaDoor.Mem
set_option linter.unusedVariables false
set_option linter.unusedSimpArgs false
section
variable {w : World} {F : Nat → Prop} {g : Nat} {R : RM}
theorem uint_nil : Calls Tryd.prog 33 #[.pointer none] w fun e w' => e = .returned (.int .u64 0) ∧ w = w' := by
  have hq0 := fun W => Lib.run_eql_slice_nil (P := Tryd.prog) W 25 5 none 0 0 0 0 Tryd.underlying25
  go_enter Tryd.func33, Tryd.ntmps33
  go_wp2
  go_step3
  go_wp2
  go_step3
  go_wp2
  go_loopg [3, 4, 5, 6] 1 (fun q v3 v4 v5 v6 wr => v3 = .int .u64 0 ∧ v4 = .int .i64 0 ∧ wr = w)
  case atStart => exact ⟨rfl, rfl, rfl⟩
  case round =>
    obtain ⟨rfl, rfl, rfl⟩ := hrel
    go_wp2_with (go_at_call 44; go_loud (refine (take_nil 1).mono ?_; rintro e w1 ⟨rfl, rfl⟩))
    rw [Exit.noGoto_ret]
    go_ret
    exact ⟨rfl, rfl⟩
theorem uint_err (hd : RdAt w F g R) (he : R.e ≠ 0) : Calls Tryd.prog 33 #[.pointer (some ⟨g, 0, none⟩)] w fun e w' => e = .returned (.int .u64 0) ∧ w = w' := by
  have hq0 := fun W => Lib.run_eql_slice_nil (P := Tryd.prog) W 25 5 none 0 0 0 0 Tryd.underlying25
  have ht := Aside0.mk (take_err hd he 1)
  clear hd he
  go_enter Tryd.func33, Tryd.ntmps33
  go_wp2
  go_step3
  go_wp2
  go_step3
  go_wp2
  go_loopg [3, 4, 5, 6] 1 (fun q v3 v4 v5 v6 wr => v3 = .int .u64 0 ∧ v4 = .int .i64 0 ∧ wr = w)
  case atStart => exact ⟨rfl, rfl, rfl⟩
  case round =>
    obtain ⟨rfl, rfl, rfl⟩ := hrel
    go_wp2_with (go_at_call 44; go_loud (refine ht.out.mono ?_; rintro e w1 ⟨rfl, rfl⟩))
    rw [Exit.noGoto_ret]
    go_ret
    exact ⟨rfl, rfl⟩
theorem uint_any {w0 : World} (hB : Below w0.heap.size w0 w) (hF : ∀ k, F k → w0.heap.size ≤ k) (hd : RdAt w F g R) :
    Calls Tryd.prog 33 #[.pointer (some ⟨g, 0, none⟩)] w fun e w' => e = .returned (.int .u64 R.uint.2) ∧ RdAt w' F g R.uint.1 ∧ Below w0.heap.size w0 w' ∧ Kept w w' (fun k => k = g) := by
  by_cases he : R.e = 0
  · exact uint_calls hB hF hd he
  · rw [show R.uint = (R, 0) by unfold RM.uint; rw [if_pos he]]
    refine (uint_err hd he).mono ?_
    rintro e w' ⟨rfl, rfl⟩
    exact ⟨rfl, hd, hB, Kept.refl _ _⟩
theorem rdNum_bd : ∀ (b : List Int) (i : Nat) (x : Int), Byt b → i ≤ 9 → 0 ≤ x → x < 128 ^ i → 0 ≤ (rdNum i x (128 ^ i) b).2.2 ∧ (rdNum i x (128 ^ i) b).2.2 ≤ 18446744073709551615 := by
  intro b
  induction b with
  | nil => intro i x _ _ _ _; unfold rdNum; exact ⟨by show (0 : Int) ≤ 0; omega, by show (0 : Int) ≤ _; omega⟩
  | cons c r ih =>
    intro i x hb hi h0 h1
    unfold rdNum
    have hc := hb c List.mem_cons_self
    split
    · exact ⟨by show (0 : Int) ≤ 0; omega, by show (0 : Int) ≤ _; omega⟩
    · rename_i hn
      obtain ⟨_, hy0, hy1, hy2⟩ := or_digit i x c hi (fun h => by omega) h0 h1 hc.1 hc.2
      split
      · exact ⟨hy0, hy2⟩
      · rename_i hlt
        have h9 : i ≠ 9 := fun h => by omega
        rw [← pow_128]
        exact ih (i + 1) _ (fun x hx => hb x (List.mem_cons_of_mem _ hx)) (by omega) hy0 (hy1 (by omega))
theorem RM.uint_bd (hd : Byt R.b) : 0 ≤ R.uint.2 ∧ R.uint.2 ≤ 18446744073709551615 := by
  unfold RM.uint
  split
  · exact ⟨by show (0 : Int) ≤ 0; omega, by show (0 : Int) ≤ _; omega⟩
  · exact rdNum_bd R.b 0 0 hd (by omega) (by omega) (by decide)
theorem RdAt.byt (h : RdAt w F g R) : Byt R.b := by obtain ⟨_, _, _, _, _, _, _, _, _, hy⟩ := h; exact hy

/-! ### Bytes -/
def RM.bytes (R : RM) (most : Int) : RM × List Int := if R.uint.1.e ≠ 0 then (R.uint.1, []) else if most < 0 ∨ most < R.uint.2 then (⟨R.uint.1.b, 13⟩, []) else R.uint.1.fixed R.uint.2
theorem bytes_nil (m : Int) : Calls Tryd.prog 36 #[.pointer none, .int .i64 m] w fun e w' => e = .returned (.slice none 0 0) ∧ w = w' := by
  go_enter Tryd.func36, Tryd.ntmps36
  go_wp2_with (first | (go_at_call 33; refine (uint_nil).mono ?_; rintro e w' ⟨rfl, rfl⟩) | (go_at_call 34; refine (err_nil).mono ?_; rintro e w' ⟨rfl, rfl⟩))
  go_ret
  exact ⟨rfl, rfl⟩
set_option maxHeartbeats 1000000 in
theorem bytes_calls {w0 : World} (hB : Below w0.heap.size w0 w) (hF : ∀ k, F k → w0.heap.size ≤ k) (hd : RdAt w F g R) (m : Int) (hm : m ≤ 9223372036854775807) :
    Calls Tryd.prog 36 #[.pointer (some ⟨g, 0, none⟩), .int .i64 m] w fun e w' => ∃ v, e = .returned v ∧ Kd.R (Kd.int .u8) 5 w' w.heap.size (fun _ => True) v (R.bytes m).2 ∧ RdAt w' F g (R.bytes m).1 ∧ Below w0.heap.size w0 w' ∧ Kept w w' (fun k => k = g) := by
  have h1 := Aside0.mk (uint_any hB hF hd)
  obtain ⟨hn0, hn1⟩ := RM.uint_bd hd.byt
  have HF := Aside0.mk hF
  unfold RM.bytes
  obtain ⟨u, hu⟩ : ∃ u, u = R.uint := ⟨_, rfl⟩
  rw [← hu] at h1 hn0 hn1 ⊢
  clear hB hF hd hu
  obtain ⟨R1, n⟩ := u
  have h2 : Aside0 (Calls Tryd.prog 33 #[.pointer (some ⟨g, 0, none⟩)] w fun e w' => e = .returned (.int .u64 n) ∧ RdAt w' F g R1 ∧ Below w0.heap.size w0 w' ∧ Kept w w' (fun k => k = g)) := h1
  clear h1
  obtain ⟨b1, e1⟩ := R1
  simp only at hn0 hn1 ⊢
  by_cases he : e1 = 0
  · subst he
    rw [if_neg (by simp)]
    by_cases hbad : m < 0 ∨ m < n
    · rw [if_pos hbad]
      rcases Int.lt_or_le m 0 with h | h
      · have d1 : decide (m < 0) = true := decide_eq_true h
        go_enter Tryd.func36, Tryd.ntmps36
        go_wp2_with (first | (go_at_call 33; go_loud (refine h2.out.mono ?_; rintro e w1 ⟨rfl, hd1, hb1, hk1⟩; have HX := Aside0.mk (And.intro hd1 (And.intro hb1 hk1)); clear hd1 hb1 hk1)) | (go_at_call 34; go_loud (refine (err_calls HX.out.1).mono ?_; rintro e w2 ⟨rfl, rfl⟩)) | (go_at_call 45; go_loud (refine (fail_calls HX.out.2.1 HF.out HX.out.1 13).mono ?_; rintro e w3 ⟨rfl, hd3, hb3, hk3⟩; have HX3 := Aside0.mk (And.intro hd3 (And.intro hb3 (HX.out.2.2.then_ hk3 (fun k h => .inl h)))); clear hd3 hb3 hk3)))
        go_ret
        exact ⟨_, rfl, Kd.R_nil _ _ _ _ _, HX3.out⟩
      · have h3 : m < n := by omega
        have d1 : decide (m < 0) = false := decide_eq_false (by omega)
        have hw : IntKind.u64.wrap m = m := wraps_u64 _ h (by omega)
        have d2 : decide (m < n) = true := decide_eq_true h3
        go_enter Tryd.func36, Tryd.ntmps36
        go_wp2_with (first | (go_at_call 33; go_loud (refine h2.out.mono ?_; rintro e w1 ⟨rfl, hd1, hb1, hk1⟩; have HX := Aside0.mk (And.intro hd1 (And.intro hb1 hk1)); clear hd1 hb1 hk1)) | (go_at_call 34; go_loud (refine (err_calls HX.out.1).mono ?_; rintro e w2 ⟨rfl, rfl⟩)) | (go_at_call 45; go_loud (refine (fail_calls HX.out.2.1 HF.out HX.out.1 13).mono ?_; rintro e w3 ⟨rfl, hd3, hb3, hk3⟩; have HX3 := Aside0.mk (And.intro hd3 (And.intro hb3 (HX.out.2.2.then_ hk3 (fun k h => .inl h)))); clear hd3 hb3 hk3)))
        go_ret
        exact ⟨_, rfl, Kd.R_nil _ _ _ _ _, HX3.out⟩
    · rw [if_neg hbad]
      have h : 0 ≤ m := by omega
      have h3 : n ≤ m := by omega
      have d1 : decide (m < 0) = false := decide_eq_false (by omega)
      have hw : IntKind.u64.wrap m = m := wraps_u64 _ h (by omega)
      have hw2 : wrap64 n = n := IntWalk.wrap64_in n ⟨by omega, by omega⟩
      have d2 : decide (m < n) = false := decide_eq_false (by omega)
      clear hbad
      go_enter Tryd.func36, Tryd.ntmps36
      go_wp2_with (first | (go_at_call 33; go_loud (refine h2.out.mono ?_; rintro e w1 ⟨rfl, hd1, hb1, hk1⟩; have HX := Aside0.mk (And.intro hd1 (And.intro hb1 hk1)); clear hd1 hb1 hk1)) | (go_at_call 34; go_loud (refine (err_calls HX.out.1).mono ?_; rintro e w2 ⟨rfl, rfl⟩)) | (go_at_call 46; go_loud (refine (fixed_calls HX.out.2.1 HF.out HX.out.1 n).mono ?_; rintro e w3 ⟨v, rfl, hv3, hd3, hb3, hk3⟩; have HX3 := Aside0.mk (And.intro (Kd.R_lower hv3 HX.out.2.2.1) (And.intro hd3 (And.intro hb3 (HX.out.2.2.then_ hk3 (fun k h => .inl h))))); clear hv3 hd3 hb3 hk3)))
      go_ret
      exact ⟨_, rfl, HX3.out⟩
  · rw [if_pos he]
    have hb : (e1 != 0) = true := bne_iff_ne.2 he
    clear he
    go_enter Tryd.func36, Tryd.ntmps36
    go_wp2_with (first | (go_at_call 33; go_loud (refine h2.out.mono ?_; rintro e w1 ⟨rfl, hd1, hb1, hk1⟩; have HX := Aside0.mk (And.intro hd1 (And.intro hb1 hk1)); clear hd1 hb1 hk1)) | (go_at_call 34; go_loud (refine (err_calls HX.out.1).mono ?_; rintro e w2 ⟨rfl, rfl⟩)))
    go_ret
    exact ⟨_, rfl, Kd.R_nil _ _ _ _ _, HX.out⟩

/-! ### Bool -/
def RM.bool (R : RM) : RM × Bool := if R.e ≠ 0 then (R, false) else match R.b with
  | [] => (⟨[], 10⟩, false)
  | c :: r => (⟨r, if 1 < c then 11 else 0⟩, c == 1)
theorem take_one' {w0 : World} {c : Int} {r : List Int} (hB : Below w0.heap.size w0 w) (hF : ∀ k, F k → w0.heap.size ≤ k) (hd : RdAt w F g ⟨c :: r, 0⟩) :
    Calls Tryd.prog 44 #[.pointer (some ⟨g, 0, none⟩), .int .i64 1] w fun e w' => ∃ ad, e = .returned (.slice (some ad) 1 1) ∧ w'.cell? ad = some (.int .u8 c) ∧ ad.block ≠ g ∧ RdAt w' F g ⟨r, 0⟩ ∧ Below w0.heap.size w0 w' ∧ Kept w w' (fun k => k = g) := by
  refine (take_ok hB hF hd rfl 1 (by simp)).mono ?_
  rintro e w' ⟨A, rfl, hA, hC, h⟩
  obtain ⟨ad, rfl, hc⟩ := Kd.at_int (xs := [c]) hC 0 (by omega) (by simp)
  refine ⟨ad, rfl, ?_, (hA ad rfl).2, h⟩
  have e0 : ad.add (0 : Int).toNat = ad := by unfold Addr.add; split <;> simp_all
  rw [e0] at hc
  exact hc
theorem bool_cons (c : Int) (r : List Int) : (⟨c :: r, 0⟩ : RM).bool = (⟨r, if 1 < c then 11 else 0⟩, c == 1) := by simp [RM.bool]
theorem bool_none : (⟨[], 0⟩ : RM).bool = (⟨[], 10⟩, false) := by simp [RM.bool]
/-! ### End, NewReader -/
def RM.end_ (R : RM) : Int := if R.e ≠ 0 then R.e else if R.b = [] then 0 else 12
theorem end_nil : Calls Tryd.prog 37 #[.pointer none] w fun e w' => e = .returned (.int .i64 1) ∧ w = w' := by
  go_enter Tryd.func37, Tryd.ntmps37
  go_wp2_with (first | (go_at_call 34; refine (err_nil).mono ?_; rintro e w' ⟨rfl, rfl⟩))
  go_ret
  exact ⟨rfl, rfl⟩
theorem end_calls (hd : RdAt w F g R) : Calls Tryd.prog 37 #[.pointer (some ⟨g, 0, none⟩)] w fun e w' => e = .returned (.int .i64 R.end_) ∧ w = w' := by
  have h1 := err_calls hd
  obtain ⟨A, c, _, _, h3, _⟩ := hd
  have c0 : w.cell? ⟨g, 0, none⟩ = some (.slice A R.b.length c) := (blk_cell h3 0).trans rfl
  clear h3
  unfold RM.end_
  obtain ⟨b, e⟩ := R
  simp only at h1 c0 ⊢
  by_cases he : e = 0
  · subst he
    rw [if_neg (by simp)]
    cases b with
    | nil =>
      rw [if_pos rfl]
      have c0' : w.cell? ⟨g, 0, none⟩ = some (.slice A 0 c) := c0
      clear c0
      go_enter Tryd.func37, Tryd.ntmps37
      go_wp2_with (first | (go_at_call 34; refine h1.mono ?_; rintro e w' ⟨rfl, rfl⟩))
      go_ret
      exact ⟨rfl, rfl⟩
    | cons x r =>
      rw [if_neg (by simp)]
      have c0' : w.cell? ⟨g, 0, none⟩ = some (.slice A (r.length + 1) c) := c0
      clear c0
      obtain ⟨m, hm⟩ : ∃ m, m = r.length + 1 := ⟨_, rfl⟩
      rw [← hm] at c0'
      have hm0 : 0 < m := by omega
      clear hm
      go_enter Tryd.func37, Tryd.ntmps37
      go_wp2_with (first | (go_at_call 34; refine h1.mono ?_; rintro e w' ⟨rfl, rfl⟩))
      go_ret
      exact ⟨rfl, rfl⟩
  · rw [if_pos he]
    have hb : (e != 0) = true := bne_iff_ne.2 he
    clear he
    go_enter Tryd.func37, Tryd.ntmps37
    go_wp2_with (first | (go_at_call 34; refine h1.mono ?_; rintro e w' ⟨rfl, rfl⟩))
    go_ret
    exact ⟨rfl, rfl⟩
end
end Go.Proofs.YtlcanfniphdelaaDoor.Cod
