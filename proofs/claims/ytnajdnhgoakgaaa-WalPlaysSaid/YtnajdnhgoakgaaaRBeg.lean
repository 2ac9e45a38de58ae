/- The document's log: Begin. -/
import Derived.Test.YtnajdnhgoakgaaaBox9
namespace Go.Proofs.Ytnajdnhgoakgaaa.Blk
open Go.RowKit Go.Proofs.YtnajdnhgoakgaaaW.PrintWords Go.Proofs.YtnajdnhgoakgaaaW.PrintLast Go.Proofs.YtnajdnhgoakgaaaW.PrintMore Go.Proofs.Ytnajdnhgoakgaaa.Mem Go.Proofs.Ytnajdnhgoakgaaa.Open Go.Proofs.Ytnajdnhgoakgaaa.Wal
set_option linter.unusedVariables false
set_option linter.unusedSimpArgs false
set_option maxRecDepth 100000
set_option maxHeartbeats 4000000
def beginR (D : DM) (fr n l : Int) : RL := if allE D fr n = 0 then refl_ (beginM D fr n l) else R0
section
variable {w : World} {D : DM}
theorem rbegin_calls (hok : D.Ok) {A : Option Addr} {c : Nat} (hr : Kd.C Kd.string w A D.L.length D.L) (hc : D.L.length ≤ c) (fr n l : Int) :
    Calls Try.prog 44 #[dv (.slice A D.L.length c) D, .int .i64 fr, .int .i64 n, .int .u64 l] w fun e w' => ∃ v : Value, e = .returned (.tuple #[lv v (beginR D fr n l), .int .i64 (allE D fr n)]) ∧ Kd.R Kd.string 9 w' w.heap.size (fun _ => True) v (beginR D fr n l).l ∧ Below w.heap.size w w' := by
  have HX := Aside0.mk (And.intro hok (And.intro hr hc))
  clear hok hr hc
  obtain ⟨m, hm⟩ : ∃ m, m = D.L.length := ⟨_, rfl⟩
  have HM := Aside0.mk hm
  rw [← hm]
  clear hm
  have hu30 := Try.underlying30
  have hu75 := Try.underlying75
  by_cases hE : allE D fr n = 0
  · have e0 : openR D fr n = refl_ (openM D fr n) := if_pos hE
    have e1 : beginR D fr n l = ⟨fr, n, 0, beginN D fr n l, 0, [], 0⟩ := if_pos hE
    obtain ⟨nx, hnx⟩ : ∃ x, x = openN D fr n := ⟨_, rfl⟩
    have e2 : (openR D fr n).next = nx := by rw [e0, hnx]; rfl
    have HE := Aside0.mk (And.intro hE e2)
    rw [e1, hE]
    obtain ⟨bn, hbn⟩ : ∃ x, x = beginN D fr n l := ⟨_, rfl⟩
    have hcase : (decide (nx > 0) = true ∧ decide (l > nx) = true ∧ bn = l) ∨ (decide (nx > 0) = true ∧ decide (l > nx) = false ∧ bn = nx) ∨ (decide (nx > 0) = false ∧ bn = nx) := by
      rw [hbn]
      unfold beginN
      rw [← hnx]
      by_cases h0 : nx > 0
      · rw [if_pos h0]
        by_cases h1 : l > nx
        · exact .inl ⟨decide_eq_true h0, decide_eq_true h1, if_pos h1⟩
        · exact .inr (.inl ⟨decide_eq_true h0, decide_eq_false h1, if_neg h1⟩)
      · rw [if_neg h0]
        exact .inr (.inr ⟨decide_eq_false h0, rfl⟩)
    rw [← hbn]
    clear e0 e1 e2 hE hnx hbn
    rcases hcase with ⟨d1, d2, hbn⟩ | ⟨d1, d2, hbn⟩ | ⟨d1, hbn⟩
    all_goals
      have HBN := Aside0.mk hbn
      clear hbn
      go_enter Try.func44, Try.ntmps44
      go_wp2_with (first
        | ((with_reducible refine gate_dst (N := 4) rfl ?_); refine box_event ?hg (N := 4) ?hd (cs := #[.slice A m c, .int .i64 D.left, .int .i64 D.torn, .bool D.down]) (t := 30) ?hr ?_; (case hd => rfl); (case hg => rfl); (case hr => first | (go_simp; done) | (go_simp; rfl)); intro g4 hg4 w1 hbox hb1; have H1 := Aside0.mk (And.intro (show BoxAt w1 g4 (.slice A m c) D from hbox) hb1); clear hbox hb1 hg4)
        | ((with_reducible refine gate_dst (N := 8) rfl ?_); refine lbox_new ?hg ?hr ?_; (case hg => rfl); (case hr => first | kernel_rfl | (go_simp; done) | (go_simp; rfl)); intro w2 hb2 hbl2 hs2; obtain ⟨g8, hg8⟩ : ∃ g, g = w1.heap.size := ⟨_, rfl⟩; rw [← hg8] at hb2 ⊢; have H2 := Aside0.mk (And.intro hb2 (And.intro (H1.out.1.below hbl2) (And.intro (below_step H1.out.2 hbl2) (show w.heap.size ≤ g8 by rw [hg8]; exact H1.out.2.size)))); clear hb2 hbl2 hs2 hg8)
        | ((with_reducible refine gate_dst (N := 14) rfl ?_); refine box_load (v := .slice A m c) (D := D) (g := g4) ?hg (.tmp 4) ?ho ?hx ?hb ?_; (case hg => rfl); (case ho => rfl); (case hx => rfl); (case hb => exact H2.out.2.1))
        | (go_at_call 42; go_loud (have hx := ropen_calls (w := w2) HX.out.1 (A := A) (c := c) (Kd.C_below HX.out.2.1 H2.out.2.2.1) HX.out.2.2 fr n; rw [← HM.out, HE.out.1] at hx; refine hx.mono ?_; clear hx; rintro e w3 ⟨v3, rfl, hv3, hb3⟩; obtain ⟨A3, c3, rfl, _, _⟩ := Kd.R_reads hv3; have H3 := Aside0.mk (And.intro (H2.out.1.below hb3) (And.intro (below_step H2.out.2.2.1 hb3) H2.out.2.2.2)); obtain ⟨R3, hR3⟩ : ∃ R, R = openR D fr n := ⟨_, rfl⟩; obtain ⟨k3, hk3⟩ : ∃ k, k = (openR D fr n).l.length := ⟨_, rfl⟩; rw [← hk3, ← hR3]; have hq : R3.next = nx := (by rw [hR3]; exact HE.out.2); clear hv3 hb3 hR3 hk3; obtain ⟨q1, q2, q3, q4, q5, q6, q7⟩ := R3; obtain rfl : q4 = nx := hq))
        | ((with_reducible refine gate_dst (N := 10) rfl ?_); refine lbox_new ?hg ?hr ?_; (case hg => rfl); (case hr => first | kernel_rfl | (go_simp; done) | (go_simp; rfl)); intro w5 hb5 hbl5 hs5; obtain ⟨g10, hg10⟩ : ∃ g, g = w3.heap.size := ⟨_, rfl⟩; rw [← hg10] at hb5 ⊢; have H5 := Aside0.mk (And.intro hb5 (And.intro (H3.out.1.below hbl5) (And.intro (below_step H3.out.2.1 hbl5) (And.intro H3.out.2.2 (And.intro (show w.heap.size ≤ g10 by rw [hg10]; exact H3.out.2.1.size) (show g8 ≠ g10 by have := blk_lt H3.out.1; omega)))))); clear hb5 hbl5 hs5 hg10)
        | ((with_reducible refine gate_store (ty := 75) (x := .tmp 10) (y := .tmp 18) rfl ?_); refine lbox_put (R' := ⟨q1, q2, q3, q4, q5, q6, q7⟩) ?hg (.tmp 10) (.tmp 18) ?ho (g := g10) (n := k3) (c := c3) (A := A3) ?hx ?hy H5.out.1 ?_; (case hg => rfl); (case ho => rfl); (case hx => rfl); (case hy => rfl); intro w6 hb6 hk6 hbl6 hs6; have H6 := Aside0.mk (And.intro hb6 (And.intro (H5.out.2.1.kept hk6 H5.out.2.2.2.2.2) (And.intro (hbl6 _ _ H5.out.2.2.2.2.1 H5.out.2.2.1) H5.out.2.2.2))); obtain ⟨_, _, _, e3, _⟩ := hb6.cells; clear hb6 hk6 hbl6 hs6)
        | ((with_reducible refine gate_dst (N := 12) rfl ?_); refine lbox_new ?hg ?hr ?_; (case hg => rfl); (case hr => first | kernel_rfl | (go_simp; done) | (go_simp; rfl)); intro w7 hb7 hbl7 hs7; obtain ⟨g12, hg12⟩ : ∃ g, g = w6.heap.size := ⟨_, rfl⟩; rw [← hg12] at hb7 ⊢; have H7 := Aside0.mk (And.intro hb7 (And.intro (H6.out.2.1.below hbl7) (And.intro (below_step H6.out.2.2.1 hbl7) (And.intro H6.out.2.2.2.1 (And.intro (show w.heap.size ≤ g12 by rw [hg12]; exact H6.out.2.2.1.size) (And.intro (show g8 ≠ g12 by have := blk_lt H6.out.2.1; omega) (And.intro (show g10 ≠ g12 by have := blk_lt H6.out.1; omega) (H6.out.1.below hbl7)))))))); clear hb7 hbl7 hs7 hg12)
        | ((with_reducible refine gate_store (ty := 75) (x := .tmp 12) (y := .tmp 28) rfl ?_); refine lbox_put (R' := ⟨fr, n, 0, q4, 0, [], 0⟩) ?hg (.tmp 12) (.tmp 28) ?ho (g := g12) (n := 0) (c := 0) (A := none) ?hx ?hy H7.out.1 ?_; (case hg => rfl); (case ho => rfl); (case hx => rfl); (case hy => rfl); intro w8 hb8 hk8 hbl8 hs8; have H8 := Aside0.mk (And.intro hb8 (And.intro (H7.out.2.1.kept hk8 H7.out.2.2.2.2.2.1) (And.intro (hbl8 _ _ H7.out.2.2.2.2.1 H7.out.2.2.1) (And.intro H7.out.2.2.2.1 (And.intro H7.out.2.2.2.2.1 H7.out.2.2.2.2.2.1))))); obtain ⟨_, _, _, e3, _⟩ := (H7.out.2.2.2.2.2.2.2.kept hk8 H7.out.2.2.2.2.2.2.1).cells; obtain ⟨_, _, _, e4, _⟩ := hb8.cells; have f4 : w8.frozen? ⟨g12, 3, none⟩ = false := blk_frozen hb8 3; clear hb8 hk8 hbl8 hs8)
        | ((with_reducible refine gate_dst (N := 40) rfl ?_); refine wpName (fun wq hwq => ?_); (first | have H9 := Aside0.mk (show LBox wq g12 (.slice none 0 0) ⟨fr, n, 0, bn, 0, [], 0⟩ ∧ LBox wq g8 (.slice none 0 0) R0 ∧ Below w.heap.size w wq from ⟨(by rw [hwq, HBN.out]; exact blk_set H8.out.1 3 (.int .u64 l)), (by rw [hwq]; exact H8.out.2.1.kept (kept_set w8 g12 3 (.int .u64 l)) H8.out.2.2.2.2.2), (by rw [hwq]; exact below_set H8.out.2.2.1 H8.out.2.2.2.2.1)⟩) | have H9 := Aside0.mk (show LBox wq g12 (.slice none 0 0) ⟨fr, n, 0, bn, 0, [], 0⟩ ∧ LBox wq g8 (.slice none 0 0) R0 ∧ Below w.heap.size w wq from ⟨(by rw [hwq, HBN.out]; exact H8.out.1), (by rw [hwq]; exact H8.out.2.1), (by rw [hwq]; exact H8.out.2.2.1)⟩)); clear hwq; refine lbox_load (v := .slice none 0 0) (R := ⟨fr, n, 0, bn, 0, [], 0⟩) (g := g12) ?hg (.tmp 12) ?ho ?hx ?hb ?_; (case hg => rfl); (case ho => rfl); (case hx => rfl); (case hb => exact H9.out.1))
        | ((with_reducible refine gate_store (ty := 75) (x := .tmp 8) (y := .tmp 40) rfl ?_); refine lbox_put (R' := ⟨fr, n, 0, bn, 0, [], 0⟩) ?hg (.tmp 8) (.tmp 40) ?ho (g := g8) (n := 0) (c := 0) (A := none) ?hx ?hy H9.out.2.1 ?_; (case hg => rfl); (case ho => rfl); (case hx => rfl); (case hy => rfl); intro w10 hb10 hk10 hbl10 hs10; have H10 := Aside0.mk (And.intro hb10 (hbl10 _ _ H8.out.2.2.2.1 H9.out.2.2)); clear hb10 hk10 hbl10 hs10))

      refine bodyPost_ret (results_ct rfl _ _ g8 75 (lcs (.slice none 0 0) ⟨fr, n, 0, bn, 0, [], 0⟩) (0, 0) _ rfl H10.out.1 hu75 rfl (by kernel_rfl)) rfl ?_
      exact ⟨_, rfl, Kd.R_nil _ _ _ _ _, H10.out.2⟩
  · have e0 : openR D fr n = R0 := if_neg hE
    have e1 : beginR D fr n l = R0 := if_neg hE
    obtain ⟨er, her⟩ : ∃ x, x = allE D fr n := ⟨_, rfl⟩
    have HE := Aside0.mk (And.intro her e0)
    rw [e1, ← her]
    have d1 : (er != 0) = true := bne_iff_ne.2 (by rw [her]; exact hE)
    clear e0 e1 hE her
    go_enter Try.func44, Try.ntmps44
    go_wp2_with (first
      | ((with_reducible refine gate_dst (N := 4) rfl ?_); refine box_event ?hg (N := 4) ?hd (cs := #[.slice A m c, .int .i64 D.left, .int .i64 D.torn, .bool D.down]) (t := 30) ?hr ?_; (case hd => rfl); (case hg => rfl); (case hr => first | (go_simp; done) | (go_simp; rfl)); intro g4 hg4 w1 hbox hb1; have H1 := Aside0.mk (And.intro (show BoxAt w1 g4 (.slice A m c) D from hbox) hb1); clear hbox hb1 hg4)
      | ((with_reducible refine gate_dst (N := 8) rfl ?_); refine lbox_new ?hg ?hr ?_; (case hg => rfl); (case hr => first | kernel_rfl | (go_simp; done) | (go_simp; rfl)); intro w2 hb2 hbl2 hs2; obtain ⟨g8, hg8⟩ : ∃ g, g = w1.heap.size := ⟨_, rfl⟩; rw [← hg8] at hb2 ⊢; have H2 := Aside0.mk (And.intro hb2 (And.intro (H1.out.1.below hbl2) (And.intro (below_step H1.out.2 hbl2) (show w.heap.size ≤ g8 by rw [hg8]; exact H1.out.2.size)))); clear hb2 hbl2 hs2 hg8)
      | ((with_reducible refine gate_dst (N := 14) rfl ?_); refine box_load (v := .slice A m c) (D := D) (g := g4) ?hg (.tmp 4) ?ho ?hx ?hb ?_; (case hg => rfl); (case ho => rfl); (case hx => rfl); (case hb => exact H2.out.2.1))
      | (go_at_call 42; go_loud (have hx := ropen_calls (w := w2) HX.out.1 (A := A) (c := c) (Kd.C_below HX.out.2.1 H2.out.2.2.1) HX.out.2.2 fr n; rw [← HM.out, ← HE.out.1, HE.out.2] at hx; refine hx.mono ?_; clear hx; rintro e w3 ⟨v3, rfl, hv3, hb3⟩; obtain ⟨A3, c3, rfl, _, _⟩ := Kd.R_reads hv3; have H3 := Aside0.mk (And.intro (H2.out.1.below hb3) (And.intro (below_step H2.out.2.2.1 hb3) H2.out.2.2.2)); clear hv3 hb3))
      | ((with_reducible refine gate_dst (N := 10) rfl ?_); refine lbox_new ?hg ?hr ?_; (case hg => rfl); (case hr => first | kernel_rfl | (go_simp; done) | (go_simp; rfl)); intro w5 hb5 hbl5 hs5; obtain ⟨g10, hg10⟩ : ∃ g, g = w3.heap.size := ⟨_, rfl⟩; rw [← hg10] at hb5 ⊢; have H5 := Aside0.mk (And.intro hb5 (And.intro (H3.out.1.below hbl5) (And.intro (below_step H3.out.2.1 hbl5) (And.intro H3.out.2.2 (And.intro (show w.heap.size ≤ g10 by rw [hg10]; exact H3.out.2.1.size) (show g8 ≠ g10 by have := blk_lt H3.out.1; omega)))))); clear hb5 hbl5 hs5 hg10)
      | ((with_reducible refine gate_store (ty := 75) (x := .tmp 10) (y := .tmp 18) rfl ?_); refine lbox_put (R' := R0) ?hg (.tmp 10) (.tmp 18) ?ho (g := g10) (n := 0) (c := c3) (A := A3) ?hx ?hy H5.out.1 ?_; (case hg => rfl); (case ho => rfl); (case hx => rfl); (case hy => rfl); intro w6 hb6 hk6 hbl6 hs6; have H6 := Aside0.mk (And.intro hb6 (And.intro (H5.out.2.1.kept hk6 H5.out.2.2.2.2.2) (And.intro (hbl6 _ _ H5.out.2.2.2.2.1 H5.out.2.2.1) H5.out.2.2.2))); clear hb6 hk6 hbl6 hs6)
      | ((with_reducible refine gate_store (ty := 75) (x := .tmp 8) (y := .tmp 22) rfl ?_); refine lbox_put (R' := R0) ?hg (.tmp 8) (.tmp 22) ?ho (g := g8) (n := 0) (c := 0) (A := none) ?hx ?hy H6.out.2.1 ?_; (case hg => rfl); (case ho => rfl); (case hx => rfl); (case hy => rfl); intro w10 hb10 hk10 hbl10 hs10; have H10 := Aside0.mk (And.intro hb10 (hbl10 _ _ H6.out.2.2.2.1 H6.out.2.2.1)); clear hb10 hk10 hbl10 hs10))
    refine bodyPost_ret (results_ct rfl _ _ g8 75 (lcs (.slice none 0 0) R0) (0, 0) _ rfl H10.out.1 hu75 rfl (by kernel_rfl)) rfl ?_
    exact ⟨_, rfl, Kd.R_nil _ _ _ _ _, H10.out.2⟩
end
end Go.Proofs.Ytnajdnhgoakgaaa.Blk
