/- The law CodecNone. -/
import Derived.Test.YtlcanfniphdelaaCodL1
namespace Go.Proofs.Ytlcanfniphdelaa.Cod
open Go.RowKit Go.Proofs.YtlcanfniphdelaaW.PrintWords Go.Proofs.YtlcanfniphdelaaW.PrintLast Go.Proofs.YtlcanfniphdelaaW.PrintMore Go.Proofs.Ytlcanfniphdelaa.Mem Go.Proofs.Ytlcanfniphdelaa.PCod Go.Proofs.Ytlcanfniphdelaa.Conv
set_option linter.unusedVariables false
set_option linter.unusedSimpArgs false
section
variable {w : World} {R : RM} {b r xs : List Int}
theorem zid_nums : (nums .u8 (List.replicate 32 0)).toArray = zidL.toArray := by rw [zid_cells]
theorem zid_eq : ∀ W : World, (Op.equalIn 10000 61 (.agg zidL.toArray) (.agg (#[.int .u8 0, .int .u8 0, .int .u8 0, .int .u8 0, .int .u8 0, .int .u8 0, .int .u8 0, .int .u8 0, .int .u8 0, .int .u8 0, .int .u8 0, .int .u8 0, .int .u8 0, .int .u8 0, .int .u8 0, .int .u8 0, .int .u8 0, .int .u8 0, .int .u8 0, .int .u8 0, .int .u8 0, .int .u8 0, .int .u8 0, .int .u8 0, .int .u8 0, .int .u8 0, .int .u8 0, .int .u8 0, .int .u8 0, .int .u8 0, .int .u8 0, .int .u8 0]))).run Try.prog W = .ok true W := fun W => by
  have h := eq_id (List.replicate 32 0) (List.replicate 32 0) (by simp) (by simp) W
  rw [zid_nums] at h
  have e : ((List.replicate 32 (0 : Int)) == List.replicate 32 0) = true := by simp
  rw [e] at h
  exact h
theorem bool_10 : (⟨xs, 10⟩ : RM).bool = (⟨xs, 10⟩, false) := by unfold RM.bool; rw [if_pos (by show (10 : Int) ≠ 0; omega)]
theorem id_10 : (nums .u8 (⟨xs, 10⟩ : RM).id.2).toArray = zidL.toArray := by
  have h : (⟨xs, 10⟩ : RM).fixed 32 = (⟨xs, 10⟩, []) := RM.fixed_e (by show (10 : Int) ≠ 0; omega) 32
  unfold RM.id
  rw [h]
  exact zid_nums
theorem id_nil' : Calls Try.prog 29 #[.pointer none] w fun e w' => e = .returned (.agg zidL.toArray) ∧ Below w.heap.size w w' := by
  have h := id_nil (w := w)
  rwa [zid_nums] at h
set_option maxHeartbeats 1000000 in
set_option maxRecDepth 100000 in
theorem none_law (A : Option Addr) (n c : Nat) (x : Int) (hn : n = xs.length) (hr : Kd.C (Kd.int .u8) w A xs.length xs) (hc : n ≤ c) (hl : n < 140737488355328) (hy : Byt xs) :
    Calls Try.prog 8 #[.slice A n c, .int .i64 x] w fun e w' => e = .returned (.bool true) ∧ Below w.heap.size w w' := by
  by_cases h300 : n > 300
  · have d1 : decide (300 < (n : Int)) = true := decide_eq_true (by omega)
    clear hr hc hl hy hn
    go_enter Try.func8, Try.ntmps8
    go_wp2_with (go_at_call 9; go_loud (refine awake_calls.mono ?_; rintro e w1 ⟨rfl, hb1⟩; have HB1 := Aside0.mk hb1; clear hb1))
    go_ret
    exact ⟨rfl, HB1.out⟩
  · have d1 : decide (300 < (n : Int)) = false := decide_eq_false (by omega)
    have h0 : 0 ≤ n := by omega
    have hf1 : (⟨xs, 0⟩ : RM).fixed ((n : Int) + 1) = (⟨xs, 10⟩, []) := RM.fixed_short rfl (by omega) (by show (xs.length : Int) < _; omega)
    have he10 : (⟨xs, 10⟩ : RM).e ≠ 0 := by show (10 : Int) ≠ 0; omega
    have hf2 := RM.fixed_e he10 0
    have hf3 := RM.fixed_e he10 (-1)
    have hee := RM.end_e he10
    have HF := Aside0.mk (And.intro hf1 (And.intro hf2 (And.intro hf3 (And.intro he10 hee))))
    have HX := Aside0.mk (And.intro hr (And.intro hc (And.intro hl (And.intro hy hn))))
    clear hr hc hl hy hf1 hf2 hf3 he10 hee hn
    have hz1 := zid_eq
    go_enter Try.func8, Try.ntmps8
    go_wp2_with (first
      | (go_at_call 9; go_loud (refine awake_calls.mono ?_; rintro e w1 ⟨rfl, hb1⟩; have H1 := Aside0.mk hb1; clear hb1))
      | (go_at_call 11; go_loud (refine (wuint_nil 5 (by omega) (by omega)).mono ?_; rintro e w2 ⟨rfl, hb2⟩; have H2 := Aside0.mk (below_step H1.out hb2); clear hb2))
      | (go_at_call 13; go_loud (refine (wbytes_nil A n c (by omega)).mono ?_; rintro e w3 ⟨rfl, hb3⟩; have H3 := Aside0.mk (below_step H2.out hb3); clear hb3))
      | (go_at_call 15; go_loud (refine (wbool_nil true).mono ?_; rintro e w4 ⟨rfl, hb4⟩; have H4 := Aside0.mk (below_step H3.out hb4); clear hb4))
      | (go_at_call 19; (with_reducible refine uint_nil.mono ?_); rintro e w5 ⟨rfl, rfl⟩)
      | (go_at_call 22; (with_reducible refine (fixed_nil 1).mono ?_); rintro e w6 ⟨rfl, hb6⟩; have H6 := Aside0.mk (below_step H4.out hb6); clear hb6)
      | (go_at_call 20; (with_reducible refine (bytes_nil 9).mono ?_); rintro e w7 ⟨rfl, rfl⟩)
      | (go_at_call 21; (with_reducible refine bool_nil.mono ?_); rintro e w8 ⟨rfl, rfl⟩)
      | (go_at_call 29; (with_reducible refine id_nil'.mono ?_); rintro e w9 ⟨rfl, hb9⟩; have H9 := Aside0.mk (below_step H6.out hb9); clear hb9)
      | (go_at_call 24; (with_reducible refine err_nil.mono ?_); rintro e w10 ⟨rfl, rfl⟩)
      | (go_at_call 23; (with_reducible refine end_nil.mono ?_); rintro e w11 ⟨rfl, rfl⟩)
      | (go_at_call 17; (with_reducible refine wout_nil.mono ?_); rintro e w12 ⟨rfl, rfl⟩)
      | (go_at_call 18; go_loud (obtain ⟨hr, hc, hl, hy, hn⟩ := HX.out; rw [hn] at hc hl; have hx := newReader_calls A c (Kd.C_below hr H9.out) hc hl hy; rw [← hn] at hx; refine hx.mono ?_; rintro e w13 ⟨g, rfl, hd13, hb13⟩; have H13 := Aside0.mk (And.intro hd13 (below_step H9.out hb13)); clear hd13 hb13 hx hr hc hl hy hn))
      | (go_at_call 22; have _t := H15; have hx := fixed_calls H15.out.2 (fun k h => Nat.le_trans (below_size H9.out) h.1) H15.out.1 (-1); rw [HF.out.2.2.1] at hx; refine hx.mono ?_; clear hx; rintro e w16 ⟨v16, rfl, hv16, hd16, hb16, hk16⟩; have s16 := hk16.1; clear hk16; obtain ⟨A16, c16, rfl, _, _⟩ := Kd.R_reads (xs := []) hv16; have H16 := Aside0.mk (And.intro hd16 hb16); clear hv16 hd16 hb16)
      | (go_at_call 22; have _t := H14; have hx := fixed_calls H14.out.2 (fun k h => Nat.le_trans (below_size H9.out) h.1) H14.out.1 (0); rw [HF.out.2.1] at hx; refine hx.mono ?_; clear hx; rintro e w15 ⟨v15, rfl, hv15, hd15, hb15, hk15⟩; have s15 := hk15.1; clear hk15; obtain ⟨A15, c15, rfl, _, _⟩ := Kd.R_reads (xs := []) hv15; have H15 := Aside0.mk (And.intro hd15 hb15); clear hv15 hd15 hb15)
      | (go_at_call 22; go_loud (have hx := fixed_calls H13.out.2 (fun k h => Nat.le_trans (below_size H9.out) h.1) H13.out.1 ((n : Int) + 1); rw [HF.out.1] at hx; refine hx.mono ?_; clear hx; rintro e w14 ⟨v14, rfl, hv14, hd14, hb14, hk14⟩; have s14 := hk14.1; clear hk14; obtain ⟨A14, c14, rfl, _, _⟩ := Kd.R_reads (xs := []) hv14; have H14 := Aside0.mk (And.intro hd14 hb14); clear hv14 hd14 hb14))
      | (go_at_call 24; go_loud (refine (err_calls H16.out.1).mono ?_; rintro e w17 ⟨rfl, rfl⟩))
      | (go_at_call 23; go_loud (refine (end_calls H16.out.1).mono ?_; rw [HF.out.2.2.2.2]; rintro e w18 ⟨rfl, rfl⟩))
      | (go_at_call 19; go_loud (refine (uint_err H16.out.1 HF.out.2.2.2.1).mono ?_; rintro e w19 ⟨rfl, rfl⟩))
      | (go_at_call 21; go_loud (refine (bool_calls H16.out.2 (fun k h => Nat.le_trans (below_size H9.out) h.1) H16.out.1).mono ?_; rw [bool_10]; rintro e w20 ⟨rfl, hd20, hb20, hk20⟩; have s20 := hk20.1; have H20 := Aside0.mk (And.intro hd20 hb20); clear hd20 hb20 hk20))
      | (go_at_call 29; go_loud (have hx := id_calls H20.out.2 (fun k h => Nat.le_trans (below_size H9.out) h.1) (fun k h => by have h2 : k < w13.heap.size := h.2; omega) H20.out.1; rw [id_10] at hx; refine hx.mono ?_; clear hx; rintro e w21 ⟨rfl, hd21, hb21, _⟩; have H21 := Aside0.mk hb21; clear hd21 hb21)))
    go_ret
    exact ⟨rfl, H21.out⟩
theorem none_row {a : Option Addr} {len cap : Nat} {zs : List Int} (h : InRow w a len cap zs) (hl : len * 1 ≤ 140737488351232) (x : Int) : Calls Try.prog 8 #[.slice a len cap, .int .i64 x] w fun e w' => e = .returned (.bool true) ∧ Below w.heap.size w w' := by
  obtain ⟨xs, h1, h2, h3, h4, h5⟩ := row_bytes h hl
  exact none_law a len cap x h1 h2 h3 h4 h5
end
end Go.Proofs.Ytlcanfniphdelaa.Cod
