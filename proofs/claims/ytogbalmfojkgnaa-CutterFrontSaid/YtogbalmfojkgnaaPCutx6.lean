-- PRINTED anew over substituted functions by hook.py
import Derived.Test.YtogbalmfojkgnaaPCutx0
import Derived.Test.YtogbalmfojkgnaaPCutx5
namespace Go.Proofs.Ytogbalmfojkgnaa.PCut
open Go.RowKit Go.Proofs.YtogbalmfojkgnaaW.PrintWords Go.Proofs.YtogbalmfojkgnaaW.PrintLast Go.Proofs.YtogbalmfojkgnaaW.PrintMore
attribute [local go_sem] max2_int min2_int max_two min_two max_three min_three max_four min_four   -- for this text's walks alone
set_option linter.unusedVariables false
set_option linter.unusedSimpArgs false

/-! ### baileeref07_Ends: function 11 -/
mutual
def baileeref07_Ends.l0 : Nat → ByteArray → List Int → Int → Int → Int → Int → Int → Int → Option (List Int × Int)
  | 0, _, _, _, _, _, _, _, _ => none
  | k + 1, x0, x7, x8, x9, x10, x193000, x193001, x193002 => if x10 < (x0.size : Int) then (if 0 ≤ x10 then (if (wrap64 (x9 + 1)) = x193001 then (baileeref07_Ends.j1 k x0 x7 (IntKind.u64.wrap ((IntKind.u64.wrap (2 * x8)) + (IntKind.u64.wrap (11400714819323198485 * (IntKind.u64.wrap ((IntKind.u64.wrap (bt x0 x10)) + 1)))))) (wrap64 (x9 + 1)) x10 true x193000 x193001 x193002) else (baileeref07_Ends.j1 k x0 x7 (IntKind.u64.wrap ((IntKind.u64.wrap (2 * x8)) + (IntKind.u64.wrap (11400714819323198485 * (IntKind.u64.wrap ((IntKind.u64.wrap (bt x0 x10)) + 1)))))) (wrap64 (x9 + 1)) x10 ((wrap64 (x10 + 1)) == (x0.size : Int)) x193000 x193001 x193002)) else (none)) else (some (x7, 0))
def baileeref07_Ends.j1 : Nat → ByteArray → List Int → Int → Int → Int → Bool → Int → Int → Int → Option (List Int × Int)
  | 0, _, _, _, _, _, _, _, _, _ => none
  | k + 1, x0, x7, x8, x9, x10, x11, x193000, x193001, x193002 => if x11 = true then (baileeref07_Ends.j2 k x0 x7 x8 x9 x10 x11 false x193000 x193001 x193002) else (baileeref07_Ends.j2 k x0 x7 x8 x9 x10 x11 (decide (x9 ≥ x193000)) x193000 x193001 x193002)
def baileeref07_Ends.j2 : Nat → ByteArray → List Int → Int → Int → Int → Bool → Bool → Int → Int → Int → Option (List Int × Int)
  | 0, _, _, _, _, _, _, _, _, _, _ => none
  | k + 1, x0, x7, x8, x9, x10, x11, x52, x193000, x193001, x193002 => if x52 = true then ((baileeref07_rare.f k x8 x193002).bind fun t194 => (if t194 = true then (if x7.length < 17592186044416 then (baileeref07_Ends.l0 k x0 (x7 ++ [wrap64 (x10 + 1)]) 0 0 (wrap64 (x10 + 1)) x193000 x193001 x193002) else (none)) else (baileeref07_Ends.l0 k x0 x7 x8 x9 (wrap64 (x10 + 1)) x193000 x193001 x193002))) else (if x11 = true then (if x7.length < 17592186044416 then (baileeref07_Ends.l0 k x0 (x7 ++ [wrap64 (x10 + 1)]) 0 0 (wrap64 (x10 + 1)) x193000 x193001 x193002) else (none)) else (baileeref07_Ends.l0 k x0 x7 x8 x9 (wrap64 (x10 + 1)) x193000 x193001 x193002))
end
def baileeref07_Ends.f (k : Nat) (a0 : ByteArray) (a1_0 : Int) (a1_1 : Int) (a1_2 : Int) : Option (List Int × Int) := (baileeref07_Check.f a1_0 a1_1 a1_2).bind fun t193 => (if t193 = 0 then (baileeref07_Ends.l0 k a0 ([] : List Int) 0 0 0 a1_0 a1_1 a1_2) else (some (([] : List Int), t193)))
theorem baileeref07_Ends.mono_l : ∀ k, (∀ y0 y1 y2 y3 y4 y5 y6 y7, LeO (baileeref07_Ends.l0 k y0 y1 y2 y3 y4 y5 y6 y7) (baileeref07_Ends.l0 (k + 1) y0 y1 y2 y3 y4 y5 y6 y7)) ∧ (∀ y0 y1 y2 y3 y4 y5 y6 y7 y8, LeO (baileeref07_Ends.j1 k y0 y1 y2 y3 y4 y5 y6 y7 y8) (baileeref07_Ends.j1 (k + 1) y0 y1 y2 y3 y4 y5 y6 y7 y8)) ∧ (∀ y0 y1 y2 y3 y4 y5 y6 y7 y8 y9, LeO (baileeref07_Ends.j2 k y0 y1 y2 y3 y4 y5 y6 y7 y8 y9) (baileeref07_Ends.j2 (k + 1) y0 y1 y2 y3 y4 y5 y6 y7 y8 y9))
  | 0 => ⟨fun _ _ _ _ _ _ _ _ r h => by simp [baileeref07_Ends.l0] at h, fun _ _ _ _ _ _ _ _ _ r h => by simp [baileeref07_Ends.j1] at h, fun _ _ _ _ _ _ _ _ _ _ r h => by simp [baileeref07_Ends.j2] at h⟩
  | k + 1 => by
    obtain ⟨ih0, ih1, ih2⟩ := baileeref07_Ends.mono_l k
    refine ⟨?_, ?_, ?_⟩
    · intro y0 y1 y2 y3 y4 y5 y6 y7
      unfold baileeref07_Ends.l0
      repeat' first
      | (with_reducible exact ih0 _ _ _ _ _ _ _ _)
      | (with_reducible exact ih1 _ _ _ _ _ _ _ _ _)
      | (with_reducible exact ih2 _ _ _ _ _ _ _ _ _ _)
      | (with_reducible exact baileeref07_rare.mono _ _ _)
      | (with_reducible exact LeO.refl _)
      | (with_reducible exact LeO.none _)
      | (with_reducible refine LeO.ite ?_ ?_)
      | (with_reducible refine LeO.bind ?_ (fun _ => ?_))
      | exact ih0 _ _ _ _ _ _ _ _
      | exact ih1 _ _ _ _ _ _ _ _ _
      | exact ih2 _ _ _ _ _ _ _ _ _ _
      | exact baileeref07_rare.mono _ _ _
      | exact LeO.none _
      | refine LeO.ite ?_ ?_
      | refine LeO.bind ?_ (fun _ => ?_)
    · intro y0 y1 y2 y3 y4 y5 y6 y7 y8
      unfold baileeref07_Ends.j1
      repeat' first
      | (with_reducible exact ih0 _ _ _ _ _ _ _ _)
      | (with_reducible exact ih1 _ _ _ _ _ _ _ _ _)
      | (with_reducible exact ih2 _ _ _ _ _ _ _ _ _ _)
      | (with_reducible exact baileeref07_rare.mono _ _ _)
      | (with_reducible exact LeO.refl _)
      | (with_reducible exact LeO.none _)
      | (with_reducible refine LeO.ite ?_ ?_)
      | (with_reducible refine LeO.bind ?_ (fun _ => ?_))
      | exact ih0 _ _ _ _ _ _ _ _
      | exact ih1 _ _ _ _ _ _ _ _ _
      | exact ih2 _ _ _ _ _ _ _ _ _ _
      | exact baileeref07_rare.mono _ _ _
      | exact LeO.none _
      | refine LeO.ite ?_ ?_
      | refine LeO.bind ?_ (fun _ => ?_)
    · intro y0 y1 y2 y3 y4 y5 y6 y7 y8 y9
      unfold baileeref07_Ends.j2
      repeat' first
      | (with_reducible exact ih0 _ _ _ _ _ _ _ _)
      | (with_reducible exact ih1 _ _ _ _ _ _ _ _ _)
      | (with_reducible exact ih2 _ _ _ _ _ _ _ _ _ _)
      | (with_reducible exact baileeref07_rare.mono _ _ _)
      | (with_reducible exact LeO.refl _)
      | (with_reducible exact LeO.none _)
      | (with_reducible refine LeO.ite ?_ ?_)
      | (with_reducible refine LeO.bind ?_ (fun _ => ?_))
      | exact ih0 _ _ _ _ _ _ _ _
      | exact ih1 _ _ _ _ _ _ _ _ _
      | exact ih2 _ _ _ _ _ _ _ _ _ _
      | exact baileeref07_rare.mono _ _ _
      | exact LeO.none _
      | refine LeO.ite ?_ ?_
      | refine LeO.bind ?_ (fun _ => ?_)
theorem baileeref07_Ends.mono : ∀ a0 a1 a2 a3 k, LeO (baileeref07_Ends.f k a0 a1 a2 a3) (baileeref07_Ends.f (k + 1) a0 a1 a2 a3) := by
  intro a0 a1 a2 a3 k
  obtain ⟨ih0, ih1, ih2⟩ := baileeref07_Ends.mono_l k
  unfold baileeref07_Ends.f
  repeat' first
      | (with_reducible exact ih0 _ _ _ _ _ _ _ _)
      | (with_reducible exact ih1 _ _ _ _ _ _ _ _ _)
      | (with_reducible exact ih2 _ _ _ _ _ _ _ _ _ _)
      | (with_reducible exact baileeref07_rare.mono _ _ _)
      | (with_reducible exact LeO.refl _)
      | (with_reducible exact LeO.none _)
      | (with_reducible refine LeO.ite ?_ ?_)
      | (with_reducible refine LeO.bind ?_ (fun _ => ?_))
      | exact ih0 _ _ _ _ _ _ _ _
      | exact ih1 _ _ _ _ _ _ _ _ _
      | exact ih2 _ _ _ _ _ _ _ _ _ _
      | exact baileeref07_rare.mono _ _ _
      | exact LeO.none _
      | refine LeO.ite ?_ ?_
      | refine LeO.bind ?_ (fun _ => ?_)
set_option maxHeartbeats 8000000 in
set_option maxRecDepth 100000 in
theorem baileeref07_Ends.calls (k : Nat) (a0 : ByteArray) (a1_0 : Int) (a1_1 : Int) (a1_2 : Int) (r1 : List Int) (r2 : Int) (w : World) (h : baileeref07_Ends.f k a0 a1_0 a1_1 a1_2 = some (r1, r2)) :
    Calls Try.prog 11 #[.string a0, .agg #[.int .i64 a1_0, .int .i64 a1_1, .int .i64 a1_2]] w fun e w' => ∃ v0_ : Value, e = .returned (.tuple #[v0_, .int .i64 r2]) ∧ Kd.R (Kd.int .i64) 3 w' w.heap.size (fun _ => True) v0_ r1 ∧ Below w.heap.size w w' := by
  have hu34 := Try.underlying34
  have HB := Aside0.mk (Below.refl w.heap.size w)
  have H : ((baileeref07_Check.f a1_0 a1_1 a1_2).bind fun t193 => (if t193 = 0 then (baileeref07_Ends.l0 k a0 ([] : List Int) 0 0 0 a1_0 a1_1 a1_2) else (some (([] : List Int), t193)))) = some (r1, r2) := h
  clear h
  replace H := Option.bind_eq_some_iff.mp H
  obtain ⟨t193, A30, H⟩ := H
  replace H : (if t193 = 0 then (baileeref07_Ends.l0 k a0 ([] : List Int) 0 0 0 a1_0 a1_1 a1_2) else (some (([] : List Int), t193))) = some (r1, r2) := H
  have A3 := Aside0.mk A30
  clear A30
  by_cases c4 : t193 = 0
  · rw [if_pos c4] at H
    have c4b0 : (t193 == 0) = true := beq_iff_eq.mpr c4
    have c4b1 : (t193 != 0) = false := bne_eq_false_iff_eq.mpr c4
    clear c4
    have H' := Aside0.mk H
    clear H
    go_enter Try.func11, Try.ntmps11
    go_wp2_with (first | ((with_reducible refine gate_dst (N := 3) rfl ?_); (try (refine gate_guard (by rfl) ?_; dsimp only)); refine box_event ?hg (N := 3) ?hd (cs := #[.int .i64 a1_0, .int .i64 a1_1, .int .i64 a1_2]) (t := 34) ?hr ?_; (case hd => rfl); (case hg => rfl); (case hr => first | (go_simp; done) | (go_simp; rfl)); intro gb192 hg w5 hbox hb; have n0_ := Aside0.mk (below_step (by repeat (first | (with_reducible first | exact HB.out | apply below_alloc | apply pw_below_drewN | apply below_drew1) | exact HB.out)) hb); have n1_ := Aside0.mk (hbox); have n2_ := Aside0.mk ((by rw [hg]; exact (below_size (by repeat (first | (with_reducible first | exact HB.out | apply below_alloc | apply pw_below_drewN | apply below_drew1) | exact HB.out))) : w.heap.size ≤ gb192)); have n3_ := Aside0.mk ((by rw [hg]; exact (below_size (by repeat (first | (with_reducible first | exact HB.out | apply below_alloc | apply pw_below_drewN | apply below_drew1) | exact HB.out))) : w.heap.size ≤ gb192)); clear HB; have HB := n0_; have BK192 := n1_; have GW192 := n2_; have GE192 := n3_; clear n0_ n1_ n2_ n3_; clear hb hbox hg; have hcz6_0 : w5.cell? ⟨gb192, 0, none⟩ = some (.int .i64 a1_0) := (blk_cell BK192.out 0).trans rfl; have hcz6_1 : w5.cell? ⟨gb192, 1, none⟩ = some (.int .i64 a1_1) := (blk_cell BK192.out 1).trans rfl; have hcz6_2 : w5.cell? ⟨gb192, 2, none⟩ = some (.int .i64 a1_2) := (blk_cell BK192.out 2).trans rfl; have hfz6_0 := blk_frozen BK192.out 0; have hfz6_1 := blk_frozen BK192.out 1; have hfz6_2 := blk_frozen BK192.out 2) | ((with_reducible refine gate_callee (f := 15) rfl ?_); refine goesL_ (some 13) rfl rfl Try.func15 (by kernel_rfl) rfl #[.agg #[.int .i64 a1_0, .int .i64 a1_1, .int .i64 a1_2]] rfl (by (try simp only [List.map_toArray, List.map_cons, List.map_nil]); first | done | rfl | (simp only [List.length_drop, List.length_take]; rfl)) ?_; (with_reducible refine (baileeref07_Check.calls a1_0 a1_1 a1_2 t193 _ A3.out).mono ?_); rintro e w7 ⟨rfl, hb⟩; refine ⟨_, rfl, ?_⟩; have n0_ := Aside0.mk (blk_below (g := gb192) (o := .cells #[.int .i64 a1_0, .int .i64 a1_1, .int .i64 a1_2] 34 (0, 0)) (by (with_reducible repeat (first | refine blk_drewN ?_ _ | refine blk_drew ?_ | refine blk_alloc ?_ _)); exact BK192.out) hb); have n1_ := Aside0.mk (below_step (by repeat (first | (with_reducible first | exact HB.out | apply below_alloc | apply pw_below_drewN | apply below_drew1 | refine below_set ?_ GE192.out) | exact HB.out)) hb); clear BK192; clear HB; have BK192 := n0_; have HB := n1_; clear n0_ n1_; (try clear hb); (try clear hb2); (try clear hk); (try clear hi)))
    go_loopg [7, 8, 9, 10] k (fun kq v7 v8 v9 v10 w' => ∃ (x7_1 : List Int) (x8_1 : Int) (x9_1 : Int) (x10_1 : Int), v8 = .int .u64 x8_1 ∧ v9 = .int .i64 x9_1 ∧ v10 = .int .i64 x10_1 ∧ Aside0 (baileeref07_Ends.l0 kq a0 x7_1 x8_1 x9_1 x10_1 a1_0 a1_1 a1_2 = some (r1, r2)) ∧ Aside0 (kq ≤ k) ∧ Aside0 (Kd.R (Kd.int .i64) 3 w' w.heap.size (fun _ => True) v7 x7_1) ∧ Aside0 (w'.heap[gb192]? = some (.cells #[.int .i64 a1_0, .int .i64 a1_1, .int .i64 a1_2] 34 (0, 0))) ∧ Aside0 (Below w.heap.size w w'))
    case atStart => exact ⟨(([] : List Int)), (0), (0), (0), (by first | rfl | (simp; done) | (simp [*]; done)), (by first | rfl | (simp; done) | (simp [*]; done)), (by first | rfl | (simp; done) | (simp [*]; done)), H', ⟨Nat.le_refl _⟩, ⟨by first | exact Kd.R_nil _ _ _ _ _ | exact Kd.N_nil _ _ _ _ _ | exact Kd.V_nil _ _ _ _ _ | exact Kd.Q_nil _ _ _ _ _ | exact Kd.S_nil _ _ _ _ _⟩, ⟨by (with_reducible repeat (first | refine blk_drewN ?_ _ | refine blk_drew ?_ | refine blk_alloc ?_ _)); exact BK192.out⟩, ⟨by repeat (first | (with_reducible first | exact HB.out | apply below_alloc | apply pw_below_drewN | apply below_drew1 | refine below_set ?_ GE192.out) | exact HB.out)⟩⟩
    case round =>
      clear H'
      try clear c1
      try clear p2
      try clear c4
      try clear c4b0
      try clear c4b1
      try clear hcz6_0
      try clear hcz6_1
      try clear hcz6_2
      try clear hfz6_0
      try clear hfz6_1
      try clear hfz6_2
      obtain ⟨x7_1, x8_1, x9_1, x10_1, rfl, rfl, rfl, HA, HK1, HO_7, BK192, HB⟩ := hrel
      cases gk with
      | zero => exact absurd HA.out (by simp [baileeref07_Ends.l0])
      | succ k1 =>
        have H := HA.out
        clear HA
        simp only [baileeref07_Ends.l0] at H
        by_cases c8 : x10_1 < (a0.size : Int)
        · rw [if_pos c8] at H
          have c8b0 : decide (x10_1 < (a0.size : Int)) = true := decide_eq_true c8
          clear c8
          by_cases c9 : 0 ≤ x10_1
          · rw [if_pos c9] at H
            have c9b0 : decide (0 ≤ x10_1) = true := decide_eq_true c9
            clear c9
            have HC11 := Aside0.mk H
            clear H
            have p10 : 0 ≤ (x10_1 : Int) := of_decide_eq_true (by first | (with_reducible assumption) | assumption)
            have q10 : x10_1 < (a0.size : Int) := of_decide_eq_true (by first | (with_reducible assumption) | assumption)
            have hx10 := bt_at a0 x10_1
            replace p10 := eq_true p10
            replace q10 := eq_true q10
            go_upto_region 12 with (fail)
            go_cut [11] (fun v11 wc => ∃ (kq : Nat) (x11_10 : Bool), v11 = .bool x11_10 ∧ Aside0 (baileeref07_Ends.j1 kq a0 x7_1 (IntKind.u64.wrap ((IntKind.u64.wrap (2 * x8_1)) + (IntKind.u64.wrap (11400714819323198485 * (IntKind.u64.wrap ((IntKind.u64.wrap (bt a0 x10_1)) + 1)))))) (wrap64 (x9_1 + 1)) x10_1 x11_10 a1_0 a1_1 a1_2 = some (r1, r2)) ∧ Aside0 (kq ≤ k1) ∧ Aside0 (Kd.R (Kd.int .i64) 3 wc w.heap.size (fun _ => True) u7 x7_1) ∧ Aside0 (wc.heap[gb192]? = some (.cells #[.int .i64 a1_0, .int .i64 a1_1, .int .i64 a1_2] 34 (0, 0))) ∧ Aside0 (Below w.heap.size w wc))
            case first =>
              have H := HC11.out
              clear HC11
              by_cases c12 : (wrap64 (x9_1 + 1)) = a1_1
              · rw [if_pos c12] at H
                have c12b0 : ((wrap64 (x9_1 + 1)) == a1_1) = true := beq_iff_eq.mpr c12
                have c12b1 : ((wrap64 (x9_1 + 1)) != a1_1) = false := bne_eq_false_iff_eq.mpr c12
                clear c12
                (first | rw [c12b0] | (simp only [i64_w, i32_w]; rw [c12b0]) | skip)
                have H' := Aside0.mk H
                clear H
                have hcz13_0 : wr.cell? ⟨gb192, 0, none⟩ = some (.int .i64 a1_0) := (blk_cell BK192.out 0).trans rfl
                have hcz13_1 : wr.cell? ⟨gb192, 1, none⟩ = some (.int .i64 a1_1) := (blk_cell BK192.out 1).trans rfl
                have hcz13_2 : wr.cell? ⟨gb192, 2, none⟩ = some (.int .i64 a1_2) := (blk_cell BK192.out 2).trans rfl
                have hfz13_0 := blk_frozen BK192.out 0
                have hfz13_1 := blk_frozen BK192.out 1
                have hfz13_2 := blk_frozen BK192.out 2
                go_wp2
                go_meet
                case rel => exact ⟨_, (true), (by first | rfl | (simp; done) | (simp [*]; done)), H', ⟨by have := HK1.out; first | omega | exact Nat.le_refl _⟩, ⟨by (with_reducible repeat (first | apply Kd.R_alloc | apply Kd.R_drewN | apply Kd.R_drew)); exact HO_7.out⟩, ⟨by (with_reducible repeat (first | refine blk_drewN ?_ _ | refine blk_drew ?_ | refine blk_alloc ?_ _)); exact BK192.out⟩, ⟨by repeat (first | (with_reducible first | exact HB.out | apply below_alloc | apply pw_below_drewN | apply below_drew1 | refine below_set ?_ GE192.out) | exact HB.out)⟩⟩
              · rw [if_neg c12] at H
                have c12b0 : ((wrap64 (x9_1 + 1)) == a1_1) = false := beq_eq_false_iff_ne.mpr c12
                have c12b1 : ((wrap64 (x9_1 + 1)) != a1_1) = true := bne_iff_ne.mpr c12
                (first | rw [c12b0] | (simp only [i64_w, i32_w]; rw [c12b0]) | skip)
                have H' := Aside0.mk H
                clear H
                have hcz14_0 : wr.cell? ⟨gb192, 0, none⟩ = some (.int .i64 a1_0) := (blk_cell BK192.out 0).trans rfl
                have hcz14_1 : wr.cell? ⟨gb192, 1, none⟩ = some (.int .i64 a1_1) := (blk_cell BK192.out 1).trans rfl
                have hcz14_2 : wr.cell? ⟨gb192, 2, none⟩ = some (.int .i64 a1_2) := (blk_cell BK192.out 2).trans rfl
                have hfz14_0 := blk_frozen BK192.out 0
                have hfz14_1 := blk_frozen BK192.out 1
                have hfz14_2 := blk_frozen BK192.out 2
                go_wp2
                go_meet
                case rel => exact ⟨_, (((wrap64 (x10_1 + 1)) == (a0.size : Int))), (by first | rfl | (simp; done) | (simp [*]; done)), H', ⟨by have := HK1.out; first | omega | exact Nat.le_refl _⟩, ⟨by (with_reducible repeat (first | apply Kd.R_alloc | apply Kd.R_drewN | apply Kd.R_drew)); exact HO_7.out⟩, ⟨by (with_reducible repeat (first | refine blk_drewN ?_ _ | refine blk_drew ?_ | refine blk_alloc ?_ _)); exact BK192.out⟩, ⟨by repeat (first | (with_reducible first | exact HB.out | apply below_alloc | apply pw_below_drewN | apply below_drew1 | refine below_set ?_ GE192.out) | exact HB.out)⟩⟩
            case rest =>
              clear HC11
              try clear c1
              try clear p1
              try clear q1
              try clear hx1
              try clear p2
              try clear c4
              try clear c4b0
              try clear c4b1
              try clear p6
              try clear c8
              try clear c8b0
              try clear c9
              try clear c9b0
              try clear p10
              try clear q10
              try clear hx10
              try clear c11
              try clear c12
              try clear c12b0
              try clear c12b1
              try clear hcz13_0
              try clear hcz13_1
              try clear hcz13_2
              try clear hcz14_0
              try clear hcz14_1
              try clear hcz14_2
              try clear hcz6_0
              try clear hcz6_1
              try clear hcz6_2
              try clear hfz13_0
              try clear hfz13_1
              try clear hfz13_2
              try clear hfz14_0
              try clear hfz14_1
              try clear hfz14_2
              try clear hfz6_0
              try clear hfz6_1
              try clear hfz6_2
              try clear p10
              try clear p2
              try clear q10
              obtain ⟨kq, x11_10, rfl, HA, HJ10, HO_7, BK192, HB⟩ := hcut
              cases kq with
              | zero => exact absurd HA.out (by simp [baileeref07_Ends.j1])
              | succ kj10 =>
                have H := HA.out
                clear HA
                simp only [baileeref07_Ends.j1] at H
                have HC15 := Aside0.mk H
                clear H
                go_upto_region 13 with (fail)
                go_cut [52] (fun v52 wc => ∃ (kq : Nat) (x52_14 : Bool), v52 = .bool x52_14 ∧ Aside0 (baileeref07_Ends.j2 kq a0 x7_1 (IntKind.u64.wrap ((IntKind.u64.wrap (2 * x8_1)) + (IntKind.u64.wrap (11400714819323198485 * (IntKind.u64.wrap ((IntKind.u64.wrap (bt a0 x10_1)) + 1)))))) (wrap64 (x9_1 + 1)) x10_1 x11_10 x52_14 a1_0 a1_1 a1_2 = some (r1, r2)) ∧ Aside0 (kq ≤ kj10) ∧ Aside0 (Kd.R (Kd.int .i64) 3 wc w.heap.size (fun _ => True) u7 x7_1) ∧ Aside0 (wc.heap[gb192]? = some (.cells #[.int .i64 a1_0, .int .i64 a1_1, .int .i64 a1_2] 34 (0, 0))) ∧ Aside0 (Below w.heap.size w wc))
                case first =>
                  have H := HC15.out
                  clear HC15
                  by_cases c16 : x11_10 = true
                  · subst c16
                    have H1 : (baileeref07_Ends.j2 kj10 a0 x7_1 (IntKind.u64.wrap ((IntKind.u64.wrap (2 * x8_1)) + (IntKind.u64.wrap (11400714819323198485 * (IntKind.u64.wrap ((IntKind.u64.wrap (bt a0 x10_1)) + 1)))))) (wrap64 (x9_1 + 1)) x10_1 true false a1_0 a1_1 a1_2) = some (r1, r2) := by rw [if_pos rfl] at H; exact H
                    clear H
                    have H := H1
                    clear H1
                    have H' := Aside0.mk H
                    clear H
                    go_wp2
                    go_meet
                    case rel => exact ⟨_, (false), (by first | rfl | (simp; done) | (simp [*]; done)), H', ⟨by have := HK1.out; have := HJ10.out; first | omega | exact Nat.le_refl _⟩, ⟨by (with_reducible repeat (first | apply Kd.R_alloc | apply Kd.R_drewN | apply Kd.R_drew)); exact HO_7.out⟩, ⟨by (with_reducible repeat (first | refine blk_drewN ?_ _ | refine blk_drew ?_ | refine blk_alloc ?_ _)); exact BK192.out⟩, ⟨by repeat (first | (with_reducible first | exact HB.out | apply below_alloc | apply pw_below_drewN | apply below_drew1 | refine below_set ?_ GE192.out) | exact HB.out)⟩⟩
                  · replace c16 := Bool.eq_false_iff.mpr c16
                    subst c16
                    have H1 : (baileeref07_Ends.j2 kj10 a0 x7_1 (IntKind.u64.wrap ((IntKind.u64.wrap (2 * x8_1)) + (IntKind.u64.wrap (11400714819323198485 * (IntKind.u64.wrap ((IntKind.u64.wrap (bt a0 x10_1)) + 1)))))) (wrap64 (x9_1 + 1)) x10_1 false (decide ((wrap64 (x9_1 + 1)) ≥ a1_0)) a1_0 a1_1 a1_2) = some (r1, r2) := by rw [if_neg (show ¬ (false = true) by decide)] at H; exact H
                    clear H
                    have H := H1
                    clear H1
                    have H' := Aside0.mk H
                    clear H
                    have hcz17_0 : wc.cell? ⟨gb192, 0, none⟩ = some (.int .i64 a1_0) := (blk_cell BK192.out 0).trans rfl
                    have hcz17_1 : wc.cell? ⟨gb192, 1, none⟩ = some (.int .i64 a1_1) := (blk_cell BK192.out 1).trans rfl
                    have hcz17_2 : wc.cell? ⟨gb192, 2, none⟩ = some (.int .i64 a1_2) := (blk_cell BK192.out 2).trans rfl
                    have hfz17_0 := blk_frozen BK192.out 0
                    have hfz17_1 := blk_frozen BK192.out 1
                    have hfz17_2 := blk_frozen BK192.out 2
                    go_wp2
                    go_meet
                    case rel => exact ⟨_, (decide ((wrap64 (x9_1 + 1)) ≥ a1_0)), (by first | rfl | (simp; done) | (simp [*]; done)), H', ⟨by have := HK1.out; have := HJ10.out; first | omega | exact Nat.le_refl _⟩, ⟨by (with_reducible repeat (first | apply Kd.R_alloc | apply Kd.R_drewN | apply Kd.R_drew)); exact HO_7.out⟩, ⟨by (with_reducible repeat (first | refine blk_drewN ?_ _ | refine blk_drew ?_ | refine blk_alloc ?_ _)); exact BK192.out⟩, ⟨by repeat (first | (with_reducible first | exact HB.out | apply below_alloc | apply pw_below_drewN | apply below_drew1 | refine below_set ?_ GE192.out) | exact HB.out)⟩⟩
                case rest =>
                  clear HC15
                  try clear c1
                  try clear p1
                  try clear q1
                  try clear hx1
                  try clear p2
                  try clear c4
                  try clear c4b0
                  try clear c4b1
                  try clear p6
                  try clear c8
                  try clear c8b0
                  try clear c9
                  try clear c9b0
                  try clear p10
                  try clear q10
                  try clear hx10
                  try clear c11
                  try clear c12
                  try clear c12b0
                  try clear c12b1
                  try clear c15
                  try clear c16
                  try clear hcz13_0
                  try clear hcz13_1
                  try clear hcz13_2
                  try clear hcz14_0
                  try clear hcz14_1
                  try clear hcz14_2
                  try clear hcz17_0
                  try clear hcz17_1
                  try clear hcz17_2
                  try clear hcz6_0
                  try clear hcz6_1
                  try clear hcz6_2
                  try clear hfz13_0
                  try clear hfz13_1
                  try clear hfz13_2
                  try clear hfz14_0
                  try clear hfz14_1
                  try clear hfz14_2
                  try clear hfz17_0
                  try clear hfz17_1
                  try clear hfz17_2
                  try clear hfz6_0
                  try clear hfz6_1
                  try clear hfz6_2
                  try clear p1
                  try clear p10
                  try clear p2
                  try clear p6
                  try clear q1
                  try clear q10
                  obtain ⟨kq, x52_14, rfl, HA, HJ14, HO_7, BK192, HB⟩ := hcut
                  cases kq with
                  | zero => exact absurd HA.out (by simp [baileeref07_Ends.j2])
                  | succ kj14 =>
                    have H := HA.out
                    clear HA
                    simp only [baileeref07_Ends.j2] at H
                    by_cases c18 : x52_14 = true
                    · subst c18
                      have H1 : ((baileeref07_rare.f kj14 (IntKind.u64.wrap ((IntKind.u64.wrap (2 * x8_1)) + (IntKind.u64.wrap (11400714819323198485 * (IntKind.u64.wrap ((IntKind.u64.wrap (bt a0 x10_1)) + 1)))))) a1_2).bind fun t194 => (if t194 = true then (if x7_1.length < 17592186044416 then (baileeref07_Ends.l0 kj14 a0 (x7_1 ++ [wrap64 (x10_1 + 1)]) 0 0 (wrap64 (x10_1 + 1)) a1_0 a1_1 a1_2) else (none)) else (baileeref07_Ends.l0 kj14 a0 x7_1 (IntKind.u64.wrap ((IntKind.u64.wrap (2 * x8_1)) + (IntKind.u64.wrap (11400714819323198485 * (IntKind.u64.wrap ((IntKind.u64.wrap (bt a0 x10_1)) + 1)))))) (wrap64 (x9_1 + 1)) (wrap64 (x10_1 + 1)) a1_0 a1_1 a1_2))) = some (r1, r2) := by rw [if_pos rfl] at H; exact H
                      clear H
                      have H := H1
                      clear H1
                      replace H := Option.bind_eq_some_iff.mp H
                      obtain ⟨t194, A190, H⟩ := H
                      replace H : (if t194 = true then (if x7_1.length < 17592186044416 then (baileeref07_Ends.l0 kj14 a0 (x7_1 ++ [wrap64 (x10_1 + 1)]) 0 0 (wrap64 (x10_1 + 1)) a1_0 a1_1 a1_2) else (none)) else (baileeref07_Ends.l0 kj14 a0 x7_1 (IntKind.u64.wrap ((IntKind.u64.wrap (2 * x8_1)) + (IntKind.u64.wrap (11400714819323198485 * (IntKind.u64.wrap ((IntKind.u64.wrap (bt a0 x10_1)) + 1)))))) (wrap64 (x9_1 + 1)) (wrap64 (x10_1 + 1)) a1_0 a1_1 a1_2)) = some (r1, r2) := H
                      have A19 := Aside0.mk A190
                      clear A190
                      by_cases c20 : t194 = true
                      · subst c20
                        have H1 : (if x7_1.length < 17592186044416 then (baileeref07_Ends.l0 kj14 a0 (x7_1 ++ [wrap64 (x10_1 + 1)]) 0 0 (wrap64 (x10_1 + 1)) a1_0 a1_1 a1_2) else (none)) = some (r1, r2) := by rw [if_pos rfl] at H; exact H
                        clear H
                        have H := H1
                        clear H1
                        by_cases c21 : x7_1.length < 17592186044416
                        · rw [if_pos c21] at H
                          have LMc21 := Aside0.mk c21
                          clear c21
                          obtain ⟨y195, hy195⟩ : ∃ y_ : List Int, y_ = (x7_1 ++ [wrap64 (x10_1 + 1)]) := ⟨_, rfl⟩
                          replace H : (baileeref07_Ends.l0 kj14 a0 y195 0 0 (wrap64 (x10_1 + 1)) a1_0 a1_1 a1_2) = some (r1, r2) := by first | (rw [hy195]; with_reducible exact H) | (have H2_ := (Option.bind_some _ _).symm.trans H; rw [hy195]; with_reducible exact H2_) | (have H2_ := (Option.bind_some _ _).symm.trans H; with_reducible exact H2_) | with_reducible exact H | (rw [hy195]; exact H) | exact H
                          have Ny195 := Aside0.mk hy195
                          clear hy195
                          have H' := Aside0.mk H
                          clear H
                          have hcz22_0 : wc.cell? ⟨gb192, 0, none⟩ = some (.int .i64 a1_0) := (blk_cell BK192.out 0).trans rfl
                          have hcz22_1 : wc.cell? ⟨gb192, 1, none⟩ = some (.int .i64 a1_1) := (blk_cell BK192.out 1).trans rfl
                          have hcz22_2 : wc.cell? ⟨gb192, 2, none⟩ = some (.int .i64 a1_2) := (blk_cell BK192.out 2).trans rfl
                          have hfz22_0 := blk_frozen BK192.out 0
                          have hfz22_1 := blk_frozen BK192.out 1
                          have hfz22_2 := blk_frozen BK192.out 2
                          go_wp2_with (first | ((with_reducible refine gate_callee (f := 16) rfl ?_); refine goesL_ (some 56) rfl rfl Try.func16 (by kernel_rfl) rfl #[.int .u64 (IntKind.u64.wrap ((IntKind.u64.wrap (2 * x8_1)) + (IntKind.u64.wrap (11400714819323198485 * (IntKind.u64.wrap ((IntKind.u64.wrap (bt a0 x10_1)) + 1)))))), .int .i64 a1_2] rfl (by (try simp only [List.map_toArray, List.map_cons, List.map_nil]); first | done | rfl | (simp only [List.length_drop, List.length_take]; rfl)) ?_; (with_reducible refine (baileeref07_rare.calls kj14 (IntKind.u64.wrap ((IntKind.u64.wrap (2 * x8_1)) + (IntKind.u64.wrap (11400714819323198485 * (IntKind.u64.wrap ((IntKind.u64.wrap (bt a0 x10_1)) + 1)))))) a1_2 true _ A19.out).mono ?_); rintro e w' ⟨rfl, ⟨nd, rfl⟩⟩; refine ⟨_, rfl, ?_⟩) | ((with_reducible refine gate_builtin (b := .append) (xs := #[.tmp 58, .tmp 61]) rfl ?_); (try (refine gate_guard (by rfl) ?_; dsimp only)); at_builtin; refine Kd.R_append (Kd.int .i64) (w0 := w) w.heap.size rfl (.tmp 58) (.tmp 61) 26 3 (.int .i64 0) 8 rfl Try.underlying26 info3 rfl (by decide) (by omega) u7 x7_1 (wrap64 (x10_1 + 1)) [.int .i64 (wrap64 (x10_1 + 1))] (fun _ => True) (fun _ => False) rfl rfl ?aP (fun _ hk => hk.elim) ?aF ?aO ?aB ?aS ?aL ?_; (case aP => exact rfl); (case aB => exact (by repeat (first | (with_reducible first | exact HB.out | apply below_alloc | apply pw_below_drewN | apply below_drew1 | refine below_set ?_ GE192.out) | exact HB.out))); (case aF => exact (fun _ _ => trivial)); (case aO => exact (by (with_reducible repeat (first | apply Kd.R_alloc | apply Kd.R_drewN | apply Kd.R_drew)); exact HO_7.out)); (case aS => exact (below_size (by repeat (first | (with_reducible first | exact HB.out | apply below_alloc | apply pw_below_drewN | apply below_drew1 | refine below_set ?_ GE192.out) | exact HB.out)))); (case aL => have := LMc21.out; omega); intro v196 w23 ho hb hg hat; rw [← Ny195.out] at ho; have n0_ := Aside0.mk (blk_grown (g := gb192) (o := .cells #[.int .i64 a1_0, .int .i64 a1_1, .int .i64 a1_2] 34 (0, 0)) (by (with_reducible repeat (first | refine blk_drewN ?_ _ | refine blk_drew ?_ | refine blk_alloc ?_ _)); exact BK192.out) hg (Kd.R_ne HO_7.out BK192.out (by decide))); have n1_ := Aside0.mk (hb); have n2_ := Aside0.mk (ho); clear BK192; clear HB; clear HO_7; have BK192 := n0_; have HB := n1_; have HO197 := n2_; clear n0_ n1_ n2_; clear ho hb hg hat))
                          go_roundg kj14
                          case measure => have := HK1.out; have := HJ10.out; have := HJ14.out; omega
                          case rel => exact ⟨(y195), (0), (0), (wrap64 (x10_1 + 1)), (by first | rfl | (simp; done) | (simp [*]; done)), (by first | rfl | (simp; done) | (simp [*]; done)), (by first | rfl | (simp; done) | (simp [*]; done)), H', ⟨by have := HK1.out; have := HJ10.out; have := HJ14.out; omega⟩, ⟨by (with_reducible repeat (first | apply Kd.R_alloc | apply Kd.R_drewN | apply Kd.R_drew)); exact HO197.out⟩, ⟨by (with_reducible repeat (first | refine blk_drewN ?_ _ | refine blk_drew ?_ | refine blk_alloc ?_ _)); exact BK192.out⟩, ⟨by repeat (first | (with_reducible first | exact HB.out | apply below_alloc | apply pw_below_drewN | apply below_drew1 | refine below_set ?_ GE192.out) | exact HB.out)⟩⟩
                        · rw [if_neg c21] at H
                          exact absurd H (by simp)
                      · replace c20 := Bool.eq_false_iff.mpr c20
                        subst c20
                        have H1 : (baileeref07_Ends.l0 kj14 a0 x7_1 (IntKind.u64.wrap ((IntKind.u64.wrap (2 * x8_1)) + (IntKind.u64.wrap (11400714819323198485 * (IntKind.u64.wrap ((IntKind.u64.wrap (bt a0 x10_1)) + 1)))))) (wrap64 (x9_1 + 1)) (wrap64 (x10_1 + 1)) a1_0 a1_1 a1_2) = some (r1, r2) := by rw [if_neg (show ¬ (false = true) by decide)] at H; exact H
                        clear H
                        have H := H1
                        clear H1
                        have H' := Aside0.mk H
                        clear H
                        have hcz24_0 : wc.cell? ⟨gb192, 0, none⟩ = some (.int .i64 a1_0) := (blk_cell BK192.out 0).trans rfl
                        have hcz24_1 : wc.cell? ⟨gb192, 1, none⟩ = some (.int .i64 a1_1) := (blk_cell BK192.out 1).trans rfl
                        have hcz24_2 : wc.cell? ⟨gb192, 2, none⟩ = some (.int .i64 a1_2) := (blk_cell BK192.out 2).trans rfl
                        have hfz24_0 := blk_frozen BK192.out 0
                        have hfz24_1 := blk_frozen BK192.out 1
                        have hfz24_2 := blk_frozen BK192.out 2
                        go_wp2_with (first | ((with_reducible refine gate_callee (f := 16) rfl ?_); refine goesL_ (some 56) rfl rfl Try.func16 (by kernel_rfl) rfl #[.int .u64 (IntKind.u64.wrap ((IntKind.u64.wrap (2 * x8_1)) + (IntKind.u64.wrap (11400714819323198485 * (IntKind.u64.wrap ((IntKind.u64.wrap (bt a0 x10_1)) + 1)))))), .int .i64 a1_2] rfl (by (try simp only [List.map_toArray, List.map_cons, List.map_nil]); first | done | rfl | (simp only [List.length_drop, List.length_take]; rfl)) ?_; (with_reducible refine (baileeref07_rare.calls kj14 (IntKind.u64.wrap ((IntKind.u64.wrap (2 * x8_1)) + (IntKind.u64.wrap (11400714819323198485 * (IntKind.u64.wrap ((IntKind.u64.wrap (bt a0 x10_1)) + 1)))))) a1_2 false _ A19.out).mono ?_); rintro e w' ⟨rfl, ⟨nd, rfl⟩⟩; refine ⟨_, rfl, ?_⟩))
                        go_roundg kj14
                        case measure => have := HK1.out; have := HJ10.out; have := HJ14.out; omega
                        case rel => exact ⟨(x7_1), ((IntKind.u64.wrap ((IntKind.u64.wrap (2 * x8_1)) + (IntKind.u64.wrap (11400714819323198485 * (IntKind.u64.wrap ((IntKind.u64.wrap (bt a0 x10_1)) + 1))))))), ((wrap64 (x9_1 + 1))), (wrap64 (x10_1 + 1)), (by first | rfl | (simp; done) | (simp [*]; done)), (by first | rfl | (simp; done) | (simp [*]; done)), (by first | rfl | (simp; done) | (simp [*]; done)), H', ⟨by have := HK1.out; have := HJ10.out; have := HJ14.out; omega⟩, ⟨by (with_reducible repeat (first | apply Kd.R_alloc | apply Kd.R_drewN | apply Kd.R_drew)); exact HO_7.out⟩, ⟨by (with_reducible repeat (first | refine blk_drewN ?_ _ | refine blk_drew ?_ | refine blk_alloc ?_ _)); exact BK192.out⟩, ⟨by repeat (first | (with_reducible first | exact HB.out | apply below_alloc | apply pw_below_drewN | apply below_drew1 | refine below_set ?_ GE192.out) | exact HB.out)⟩⟩
                    · replace c18 := Bool.eq_false_iff.mpr c18
                      subst c18
                      have H1 : (if x11_10 = true then (if x7_1.length < 17592186044416 then (baileeref07_Ends.l0 kj14 a0 (x7_1 ++ [wrap64 (x10_1 + 1)]) 0 0 (wrap64 (x10_1 + 1)) a1_0 a1_1 a1_2) else (none)) else (baileeref07_Ends.l0 kj14 a0 x7_1 (IntKind.u64.wrap ((IntKind.u64.wrap (2 * x8_1)) + (IntKind.u64.wrap (11400714819323198485 * (IntKind.u64.wrap ((IntKind.u64.wrap (bt a0 x10_1)) + 1)))))) (wrap64 (x9_1 + 1)) (wrap64 (x10_1 + 1)) a1_0 a1_1 a1_2)) = some (r1, r2) := by rw [if_neg (show ¬ (false = true) by decide)] at H; exact H
                      clear H
                      have H := H1
                      clear H1
                      by_cases c25 : x11_10 = true
                      · subst c25
                        have H1 : (if x7_1.length < 17592186044416 then (baileeref07_Ends.l0 kj14 a0 (x7_1 ++ [wrap64 (x10_1 + 1)]) 0 0 (wrap64 (x10_1 + 1)) a1_0 a1_1 a1_2) else (none)) = some (r1, r2) := by rw [if_pos rfl] at H; exact H
                        clear H
                        have H := H1
                        clear H1
                        by_cases c26 : x7_1.length < 17592186044416
                        · rw [if_pos c26] at H
                          have LMc26 := Aside0.mk c26
                          clear c26
                          obtain ⟨y198, hy198⟩ : ∃ y_ : List Int, y_ = (x7_1 ++ [wrap64 (x10_1 + 1)]) := ⟨_, rfl⟩
                          replace H : (baileeref07_Ends.l0 kj14 a0 y198 0 0 (wrap64 (x10_1 + 1)) a1_0 a1_1 a1_2) = some (r1, r2) := by first | (rw [hy198]; with_reducible exact H) | (have H2_ := (Option.bind_some _ _).symm.trans H; rw [hy198]; with_reducible exact H2_) | (have H2_ := (Option.bind_some _ _).symm.trans H; with_reducible exact H2_) | with_reducible exact H | (rw [hy198]; exact H) | exact H
                          have Ny198 := Aside0.mk hy198
                          clear hy198
                          have H' := Aside0.mk H
                          clear H
                          go_wp2_with (first | ((with_reducible refine gate_builtin (b := .append) (xs := #[.tmp 58, .tmp 61]) rfl ?_); (try (refine gate_guard (by rfl) ?_; dsimp only)); at_builtin; refine Kd.R_append (Kd.int .i64) (w0 := w) w.heap.size rfl (.tmp 58) (.tmp 61) 26 3 (.int .i64 0) 8 rfl Try.underlying26 info3 rfl (by decide) (by omega) u7 x7_1 (wrap64 (x10_1 + 1)) [.int .i64 (wrap64 (x10_1 + 1))] (fun _ => True) (fun _ => False) rfl rfl ?aP (fun _ hk => hk.elim) ?aF ?aO ?aB ?aS ?aL ?_; (case aP => exact rfl); (case aB => exact (by repeat (first | (with_reducible first | exact HB.out | apply below_alloc | apply pw_below_drewN | apply below_drew1 | refine below_set ?_ GE192.out) | exact HB.out))); (case aF => exact (fun _ _ => trivial)); (case aO => exact (by (with_reducible repeat (first | apply Kd.R_alloc | apply Kd.R_drewN | apply Kd.R_drew)); exact HO_7.out)); (case aS => exact (below_size (by repeat (first | (with_reducible first | exact HB.out | apply below_alloc | apply pw_below_drewN | apply below_drew1 | refine below_set ?_ GE192.out) | exact HB.out)))); (case aL => have := LMc26.out; omega); intro v199 w27 ho hb hg hat; rw [← Ny198.out] at ho; have n0_ := Aside0.mk (blk_grown (g := gb192) (o := .cells #[.int .i64 a1_0, .int .i64 a1_1, .int .i64 a1_2] 34 (0, 0)) (by (with_reducible repeat (first | refine blk_drewN ?_ _ | refine blk_drew ?_ | refine blk_alloc ?_ _)); exact BK192.out) hg (Kd.R_ne HO_7.out BK192.out (by decide))); have n1_ := Aside0.mk (hb); have n2_ := Aside0.mk (ho); clear BK192; clear HB; clear HO_7; have BK192 := n0_; have HB := n1_; have HO200 := n2_; clear n0_ n1_ n2_; clear ho hb hg hat))
                          go_roundg kj14
                          case measure => have := HK1.out; have := HJ10.out; have := HJ14.out; omega
                          case rel => exact ⟨(y198), (0), (0), (wrap64 (x10_1 + 1)), (by first | rfl | (simp; done) | (simp [*]; done)), (by first | rfl | (simp; done) | (simp [*]; done)), (by first | rfl | (simp; done) | (simp [*]; done)), H', ⟨by have := HK1.out; have := HJ10.out; have := HJ14.out; omega⟩, ⟨by (with_reducible repeat (first | apply Kd.R_alloc | apply Kd.R_drewN | apply Kd.R_drew)); exact HO200.out⟩, ⟨by (with_reducible repeat (first | refine blk_drewN ?_ _ | refine blk_drew ?_ | refine blk_alloc ?_ _)); exact BK192.out⟩, ⟨by repeat (first | (with_reducible first | exact HB.out | apply below_alloc | apply pw_below_drewN | apply below_drew1 | refine below_set ?_ GE192.out) | exact HB.out)⟩⟩
                        · rw [if_neg c26] at H
                          exact absurd H (by simp)
                      · replace c25 := Bool.eq_false_iff.mpr c25
                        subst c25
                        have H1 : (baileeref07_Ends.l0 kj14 a0 x7_1 (IntKind.u64.wrap ((IntKind.u64.wrap (2 * x8_1)) + (IntKind.u64.wrap (11400714819323198485 * (IntKind.u64.wrap ((IntKind.u64.wrap (bt a0 x10_1)) + 1)))))) (wrap64 (x9_1 + 1)) (wrap64 (x10_1 + 1)) a1_0 a1_1 a1_2) = some (r1, r2) := by rw [if_neg (show ¬ (false = true) by decide)] at H; exact H
                        clear H
                        have H := H1
                        clear H1
                        have H' := Aside0.mk H
                        clear H
                        go_wp2
                        go_roundg kj14
                        case measure => have := HK1.out; have := HJ10.out; have := HJ14.out; omega
                        case rel => exact ⟨(x7_1), ((IntKind.u64.wrap ((IntKind.u64.wrap (2 * x8_1)) + (IntKind.u64.wrap (11400714819323198485 * (IntKind.u64.wrap ((IntKind.u64.wrap (bt a0 x10_1)) + 1))))))), ((wrap64 (x9_1 + 1))), (wrap64 (x10_1 + 1)), (by first | rfl | (simp; done) | (simp [*]; done)), (by first | rfl | (simp; done) | (simp [*]; done)), (by first | rfl | (simp; done) | (simp [*]; done)), H', ⟨by have := HK1.out; have := HJ10.out; have := HJ14.out; omega⟩, ⟨by (with_reducible repeat (first | apply Kd.R_alloc | apply Kd.R_drewN | apply Kd.R_drew)); exact HO_7.out⟩, ⟨by (with_reducible repeat (first | refine blk_drewN ?_ _ | refine blk_drew ?_ | refine blk_alloc ?_ _)); exact BK192.out⟩, ⟨by repeat (first | (with_reducible first | exact HB.out | apply below_alloc | apply pw_below_drewN | apply below_drew1 | refine below_set ?_ GE192.out) | exact HB.out)⟩⟩
          · rw [if_neg c9] at H
            exact absurd H (by simp)
        · rw [if_neg c8] at H
          have c8b0 : decide (x10_1 < (a0.size : Int)) = false := decide_eq_false c8
          clear c8
          simp only [Option.some.injEq, Prod.mk.injEq] at H
          obtain ⟨rfl, rfl⟩ := H
          go_wp2
          go_ret2
          exact ⟨_, by first | rfl | (simp [errW_none, errW_some] <;> rfl) | (simp [*, errW_none, errW_some] <;> rfl), by (with_reducible repeat (first | apply Kd.R_alloc | apply Kd.R_drewN | apply Kd.R_drew)); exact HO_7.out, by repeat (first | (with_reducible first | exact HB.out | apply below_alloc | apply pw_below_drewN | apply below_drew1 | refine below_set ?_ GE192.out) | exact HB.out)⟩
  · rw [if_neg c4] at H
    have c4b0 : (t193 == 0) = false := beq_eq_false_iff_ne.mpr c4
    have c4b1 : (t193 != 0) = true := bne_iff_ne.mpr c4
    simp only [Option.some.injEq, Prod.mk.injEq] at H
    obtain ⟨rfl, rfl⟩ := H
    go_enter Try.func11, Try.ntmps11
    go_wp2_with (first | ((with_reducible refine gate_dst (N := 3) rfl ?_); (try (refine gate_guard (by rfl) ?_; dsimp only)); refine box_event ?hg (N := 3) ?hd (cs := #[.int .i64 a1_0, .int .i64 a1_1, .int .i64 a1_2]) (t := 34) ?hr ?_; (case hd => rfl); (case hg => rfl); (case hr => first | (go_simp; done) | (go_simp; rfl)); intro gb192 hg w28 hbox hb; have n0_ := Aside0.mk (below_step (by repeat (first | (with_reducible first | exact HB.out | apply below_alloc | apply pw_below_drewN | apply below_drew1) | exact HB.out)) hb); have n1_ := Aside0.mk (hbox); have n2_ := Aside0.mk ((by rw [hg]; exact (below_size (by repeat (first | (with_reducible first | exact HB.out | apply below_alloc | apply pw_below_drewN | apply below_drew1) | exact HB.out))) : w.heap.size ≤ gb192)); have n3_ := Aside0.mk ((by rw [hg]; exact (below_size (by repeat (first | (with_reducible first | exact HB.out | apply below_alloc | apply pw_below_drewN | apply below_drew1) | exact HB.out))) : w.heap.size ≤ gb192)); clear HB; have HB := n0_; have BK192 := n1_; have GW192 := n2_; have GE192 := n3_; clear n0_ n1_ n2_ n3_; clear hb hbox hg; have hcz29_0 : w28.cell? ⟨gb192, 0, none⟩ = some (.int .i64 a1_0) := (blk_cell BK192.out 0).trans rfl; have hcz29_1 : w28.cell? ⟨gb192, 1, none⟩ = some (.int .i64 a1_1) := (blk_cell BK192.out 1).trans rfl; have hcz29_2 : w28.cell? ⟨gb192, 2, none⟩ = some (.int .i64 a1_2) := (blk_cell BK192.out 2).trans rfl; have hfz29_0 := blk_frozen BK192.out 0; have hfz29_1 := blk_frozen BK192.out 1; have hfz29_2 := blk_frozen BK192.out 2) | ((with_reducible refine gate_callee (f := 15) rfl ?_); refine goesL_ (some 13) rfl rfl Try.func15 (by kernel_rfl) rfl #[.agg #[.int .i64 a1_0, .int .i64 a1_1, .int .i64 a1_2]] rfl (by (try simp only [List.map_toArray, List.map_cons, List.map_nil]); first | done | rfl | (simp only [List.length_drop, List.length_take]; rfl)) ?_; (with_reducible refine (baileeref07_Check.calls a1_0 a1_1 a1_2 t193 _ A3.out).mono ?_); rintro e w30 ⟨rfl, hb⟩; refine ⟨_, rfl, ?_⟩; have n0_ := Aside0.mk (blk_below (g := gb192) (o := .cells #[.int .i64 a1_0, .int .i64 a1_1, .int .i64 a1_2] 34 (0, 0)) (by (with_reducible repeat (first | refine blk_drewN ?_ _ | refine blk_drew ?_ | refine blk_alloc ?_ _)); exact BK192.out) hb); have n1_ := Aside0.mk (below_step (by repeat (first | (with_reducible first | exact HB.out | apply below_alloc | apply pw_below_drewN | apply below_drew1 | refine below_set ?_ GE192.out) | exact HB.out)) hb); clear BK192; clear HB; have BK192 := n0_; have HB := n1_; clear n0_ n1_; (try clear hb); (try clear hb2); (try clear hk); (try clear hi)))
    go_ret2
    exact ⟨_, by first | rfl | (simp [errW_none, errW_some] <;> rfl) | (simp [*, errW_none, errW_some] <;> rfl), by first | exact Kd.R_nil _ _ _ _ _ | exact Kd.N_nil _ _ _ _ _ | exact Kd.V_nil _ _ _ _ _ | exact Kd.Q_nil _ _ _ _ _ | exact Kd.S_nil _ _ _ _ _, by repeat (first | (with_reducible first | exact HB.out | apply below_alloc | apply pw_below_drewN | apply below_drew1 | refine below_set ?_ GE192.out) | exact HB.out)⟩

end Go.Proofs.Ytogbalmfojkgnaa.PCut
