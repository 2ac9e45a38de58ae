-- PRINTED anew over substituted functions by hook.py
import Derived.Test.YtogbalmfojkgnaaPCutx0
import Derived.Test.YtogbalmfojkgnaaPCutx1
import Derived.Test.YtogbalmfojkgnaaPCutx2
namespace Go.Proofs.Ytogbalmfojkgnaa.PCut
open Go.RowKit Go.Proofs.YtogbalmfojkgnaaW.PrintWords Go.Proofs.YtogbalmfojkgnaaW.PrintLast Go.Proofs.YtogbalmfojkgnaaW.PrintMore
attribute [local go_sem] max2_int min2_int max_two min_two max_three min_three max_four min_four   -- for this text's walks alone
set_option linter.unusedVariables false
set_option linter.unusedSimpArgs false

/-! ### baileelaw07_CutterAll: function 4 -/
def baileelaw07_CutterAll.l0 : Nat → List Int → List (List Int) → Int → ByteArray → Int → Int → Int → Int → Option (Bool)
  | 0, _, _, _, _, _, _, _, _ => none
  | k + 1, x0, x11, x12, x13, x14, x167000, x167001, x167002 => if x14 < (x11.length : Int) then (if 0 ≤ x14 then (if ((rd_L2 x11 x14).length : Int) < 1 then (some false) else (if ((rd_L2 x11 x14).length : Int) > x167001 then (some false) else (if x14 < (wrap64 ((x11.length : Int) - 1)) then (if ((rd_L2 x11 x14).length : Int) < x167000 then (some false) else (if x13.size + (strOfNums (rd_L2 x11 x14)).size ≤ 9223372036854775807 then (baileelaw07_CutterAll.l0 k x0 x11 x12 (x13 ++ (strOfNums (rd_L2 x11 x14))) (wrap64 (x14 + 1)) x167000 x167001 x167002) else (none))) else (if x13.size + (strOfNums (rd_L2 x11 x14)).size ≤ 9223372036854775807 then (baileelaw07_CutterAll.l0 k x0 x11 x12 (x13 ++ (strOfNums (rd_L2 x11 x14))) (wrap64 (x14 + 1)) x167000 x167001 x167002) else (none))))) else (none)) else (if x12 = 0 then (some (x13.toList == (strOfNums x0).toList)) else (some false))
def baileelaw07_CutterAll.f (k : Nat) (l0 : List Int) (a1 : Int) (a2 : Int) (a3 : Int) : Option (Bool) := (baileelaw07_awake.f k).bind fun t165 => (if t165 = true then (if (l0.length : Int) > 2000 then (some true) else ((cutter_Pieces.f k l0 (wrap64 ((wrap64 (a1)) + 1)) (wrap64 ((wrap64 ((wrap64 (a1)) + 1)) + (wrap64 (a2)))) (wrap64 ((wrap64 (Int.tmod a3 24)) + 1))).bind fun bt167 => (baileelaw07_CutterAll.l0 k l0 bt167.1 bt167.2 (⟨#[]⟩ : ByteArray) 0 (wrap64 ((wrap64 (a1)) + 1)) (wrap64 ((wrap64 ((wrap64 (a1)) + 1)) + (wrap64 (a2)))) (wrap64 ((wrap64 (Int.tmod a3 24)) + 1))))) else (some false))
theorem baileelaw07_CutterAll.mono_l : ∀ k, (∀ y0 y1 y2 y3 y4 y5 y6 y7, LeO (baileelaw07_CutterAll.l0 k y0 y1 y2 y3 y4 y5 y6 y7) (baileelaw07_CutterAll.l0 (k + 1) y0 y1 y2 y3 y4 y5 y6 y7))
  | 0 => fun _ _ _ _ _ _ _ _ r h => by simp [baileelaw07_CutterAll.l0] at h
  | k + 1 => by
    have ih0 := baileelaw07_CutterAll.mono_l k
    · intro y0 y1 y2 y3 y4 y5 y6 y7
      unfold baileelaw07_CutterAll.l0
      repeat' first
      | (with_reducible exact ih0 _ _ _ _ _ _ _ _)
      | (with_reducible exact baileelaw07_awake.mono _)
      | (with_reducible exact cutter_Pieces.mono _ _ _ _ _)
      | (with_reducible exact LeO.refl _)
      | (with_reducible exact LeO.none _)
      | (with_reducible refine LeO.ite ?_ ?_)
      | (with_reducible refine LeO.bind ?_ (fun _ => ?_))
      | exact ih0 _ _ _ _ _ _ _ _
      | exact baileelaw07_awake.mono _
      | exact cutter_Pieces.mono _ _ _ _ _
      | exact LeO.none _
      | refine LeO.ite ?_ ?_
      | refine LeO.bind ?_ (fun _ => ?_)
theorem baileelaw07_CutterAll.mono : ∀ a0 a1 a2 a3 k, LeO (baileelaw07_CutterAll.f k a0 a1 a2 a3) (baileelaw07_CutterAll.f (k + 1) a0 a1 a2 a3) := by
  intro a0 a1 a2 a3 k
  have ih0 := baileelaw07_CutterAll.mono_l k
  unfold baileelaw07_CutterAll.f
  repeat' first
      | (with_reducible exact ih0 _ _ _ _ _ _ _ _)
      | (with_reducible exact baileelaw07_awake.mono _)
      | (with_reducible exact cutter_Pieces.mono _ _ _ _ _)
      | (with_reducible exact LeO.refl _)
      | (with_reducible exact LeO.none _)
      | (with_reducible refine LeO.ite ?_ ?_)
      | (with_reducible refine LeO.bind ?_ (fun _ => ?_))
      | exact ih0 _ _ _ _ _ _ _ _
      | exact baileelaw07_awake.mono _
      | exact cutter_Pieces.mono _ _ _ _ _
      | exact LeO.none _
      | refine LeO.ite ?_ ?_
      | refine LeO.bind ?_ (fun _ => ?_)
set_option maxHeartbeats 8000000 in
set_option maxRecDepth 100000 in
theorem baileelaw07_CutterAll.calls (k : Nat) (A0 : Option Addr) (c0 : Nat) (l0 : List Int) (a1 : Int) (a2 : Int) (a3 : Int) (r : Bool) (w : World) (hr0 : Kd.C (Kd.int .u8) w A0 l0.length l0) (hc0 : l0.length ≤ c0) (h : baileelaw07_CutterAll.f k l0 a1 a2 a3 = some r) :
    Calls Try.prog 4 #[.slice A0 l0.length c0, .int .u8 a1, .int .u8 a2, .int .u8 a3] w fun e w' => e = .returned (.bool r) ∧ Below w.heap.size w w' := by
  have hu24 := Try.underlying24
  have HR0 := Aside0.mk hr0
  have HC0 := Aside0.mk hc0
  clear hr0 hc0
  have HB := Aside0.mk (Below.refl w.heap.size w)
  have H : ((baileelaw07_awake.f k).bind fun t165 => (if t165 = true then (if (l0.length : Int) > 2000 then (some true) else ((cutter_Pieces.f k l0 (wrap64 ((wrap64 (a1)) + 1)) (wrap64 ((wrap64 ((wrap64 (a1)) + 1)) + (wrap64 (a2)))) (wrap64 ((wrap64 (Int.tmod a3 24)) + 1))).bind fun bt167 => (baileelaw07_CutterAll.l0 k l0 bt167.1 bt167.2 (⟨#[]⟩ : ByteArray) 0 (wrap64 ((wrap64 (a1)) + 1)) (wrap64 ((wrap64 ((wrap64 (a1)) + 1)) + (wrap64 (a2)))) (wrap64 ((wrap64 (Int.tmod a3 24)) + 1))))) else (some false))) = some r := h
  clear h
  replace H := Option.bind_eq_some_iff.mp H
  obtain ⟨t165, A50, H⟩ := H
  replace H : (if t165 = true then (if (l0.length : Int) > 2000 then (some true) else ((cutter_Pieces.f k l0 (wrap64 ((wrap64 (a1)) + 1)) (wrap64 ((wrap64 ((wrap64 (a1)) + 1)) + (wrap64 (a2)))) (wrap64 ((wrap64 (Int.tmod a3 24)) + 1))).bind fun bt167 => (baileelaw07_CutterAll.l0 k l0 bt167.1 bt167.2 (⟨#[]⟩ : ByteArray) 0 (wrap64 ((wrap64 (a1)) + 1)) (wrap64 ((wrap64 ((wrap64 (a1)) + 1)) + (wrap64 (a2)))) (wrap64 ((wrap64 (Int.tmod a3 24)) + 1))))) else (some false)) = some r := H
  have A5 := Aside0.mk A50
  clear A50
  by_cases c6 : t165 = true
  · subst c6
    have H1 : (if (l0.length : Int) > 2000 then (some true) else ((cutter_Pieces.f k l0 (wrap64 ((wrap64 (a1)) + 1)) (wrap64 ((wrap64 ((wrap64 (a1)) + 1)) + (wrap64 (a2)))) (wrap64 ((wrap64 (Int.tmod a3 24)) + 1))).bind fun bt167 => (baileelaw07_CutterAll.l0 k l0 bt167.1 bt167.2 (⟨#[]⟩ : ByteArray) 0 (wrap64 ((wrap64 (a1)) + 1)) (wrap64 ((wrap64 ((wrap64 (a1)) + 1)) + (wrap64 (a2)))) (wrap64 ((wrap64 (Int.tmod a3 24)) + 1))))) = some r := by rw [if_pos rfl] at H; exact H
    clear H
    have H := H1
    clear H1
    by_cases c7 : (l0.length : Int) > 2000
    · rw [if_pos c7] at H
      have c7b0 : decide (2000 < (l0.length : Int)) = true := decide_eq_true c7
      have c7b1 : decide (2000 < l0.length) = true := decide_eq_true (by omega)
      clear c7
      obtain rfl := Option.some.inj H
      go_enter Try.func4, Try.ntmps4
      go_wp2_with (first | (go_at_call 8; (with_reducible refine (baileelaw07_awake.calls k  true _ A5.out).mono ?_); rintro e w8 ⟨rfl, hb⟩; have n0_ := Aside0.mk (below_step (by repeat (first | (with_reducible first | exact HB.out | apply below_alloc | apply pw_below_drewN | apply below_drew1) | exact HB.out)) hb); clear HB; have HB := n0_; clear n0_; (try clear hb); (try clear hb2); (try clear hk); (try clear hi)))
      repeat (go_quiet (first | (go_at_call 8; (with_reducible refine (baileelaw07_awake.calls k  true _ A5.out).mono ?_); rintro e w8 ⟨rfl, hb⟩; have n0_ := Aside0.mk (below_step (by repeat (first | (with_reducible first | exact HB.out | apply below_alloc | apply pw_below_drewN | apply below_drew1) | exact HB.out)) hb); clear HB; have HB := n0_; clear n0_; (try clear hb); (try clear hb2); (try clear hk); (try clear hi))); try go_wp2_with (first | (go_at_call 8; (with_reducible refine (baileelaw07_awake.calls k  true _ A5.out).mono ?_); rintro e w8 ⟨rfl, hb⟩; have n0_ := Aside0.mk (below_step (by repeat (first | (with_reducible first | exact HB.out | apply below_alloc | apply pw_below_drewN | apply below_drew1) | exact HB.out)) hb); clear HB; have HB := n0_; clear n0_; (try clear hb); (try clear hb2); (try clear hk); (try clear hi))))
      go_ret
      exact ⟨by first | rfl | (simp [errW_none, errW_some] <;> rfl) | (simp [*, errW_none, errW_some] <;> rfl), by repeat (first | (with_reducible first | exact HB.out | apply below_alloc | apply pw_below_drewN | apply below_drew1) | exact HB.out)⟩
    · rw [if_neg c7] at H
      have c7b0 : decide (2000 < (l0.length : Int)) = false := decide_eq_false c7
      have c7b1 : decide (2000 < l0.length) = false := decide_eq_false (by omega)
      clear c7
      replace H := Option.bind_eq_some_iff.mp H
      obtain ⟨⟨t167, t170⟩, A90, H⟩ := H
      replace H : (baileelaw07_CutterAll.l0 k l0 t167 t170 (⟨#[]⟩ : ByteArray) 0 (wrap64 ((wrap64 (a1)) + 1)) (wrap64 ((wrap64 ((wrap64 (a1)) + 1)) + (wrap64 (a2)))) (wrap64 ((wrap64 (Int.tmod a3 24)) + 1))) = some r := H
      have A9 := Aside0.mk A90
      clear A90
      have H' := Aside0.mk H
      clear H
      go_enter Try.func4, Try.ntmps4
      go_wp2_with (first | (go_at_call 8; (with_reducible refine (baileelaw07_awake.calls k  true _ A5.out).mono ?_); rintro e w10 ⟨rfl, hb⟩; have n0_ := Aside0.mk (below_step (by repeat (first | (with_reducible first | exact HB.out | apply below_alloc | apply pw_below_drewN | apply below_drew1) | exact HB.out)) hb); clear HB; have HB := n0_; clear n0_; (try clear hb); (try clear hb2); (try clear hk); (try clear hi)) | ((with_reducible refine gate_dst (N := 10) rfl ?_); (try (refine gate_guard (by rfl) ?_; dsimp only)); refine box_event ?hg (N := 10) ?hd (cs := #[.int .i64 0, .int .i64 0, .int .i64 0]) (t := 24) ?hr ?_; (case hd => rfl); (case hg => rfl); (case hr => first | (go_simp; done) | (go_simp; rfl)); intro gb166 hg w11 hbox hb; have n0_ := Aside0.mk (below_step (by repeat (first | (with_reducible first | exact HB.out | apply below_alloc | apply pw_below_drewN | apply below_drew1) | exact HB.out)) hb); have n1_ := Aside0.mk (hbox); have n2_ := Aside0.mk ((by rw [hg]; exact (below_size (by repeat (first | (with_reducible first | exact HB.out | apply below_alloc | apply pw_below_drewN | apply below_drew1) | exact HB.out))) : w.heap.size ≤ gb166)); have n3_ := Aside0.mk ((by rw [hg]; exact (below_size (by repeat (first | (with_reducible first | exact HB.out | apply below_alloc | apply pw_below_drewN | apply below_drew1) | exact HB.out))) : w.heap.size ≤ gb166)); clear HB; have HB := n0_; have BK166 := n1_; have GW166 := n2_; have GE166 := n3_; clear n0_ n1_ n2_ n3_; clear hb hbox hg; have hcz12_0 : w11.cell? ⟨gb166, 0, none⟩ = some (.int .i64 0) := (blk_cell BK166.out 0).trans rfl; have hcz12_1 : w11.cell? ⟨gb166, 1, none⟩ = some (.int .i64 0) := (blk_cell BK166.out 1).trans rfl; have hcz12_2 : w11.cell? ⟨gb166, 2, none⟩ = some (.int .i64 0) := (blk_cell BK166.out 2).trans rfl; have hfz12_0 := blk_frozen BK166.out 0; have hfz12_1 := blk_frozen BK166.out 1; have hfz12_2 := blk_frozen BK166.out 2) | (go_at_call 10; (with_reducible refine (cutter_Pieces.calls k _ _ l0 (wrap64 ((wrap64 (a1)) + 1)) (wrap64 ((wrap64 ((wrap64 (a1)) + 1)) + (wrap64 (a2)))) (wrap64 ((wrap64 (Int.tmod a3 24)) + 1)) t167 t170 _ ?side1 ?side2 A9.out).mono ?_); (case side1 => exact Kd.C_below HR0.out (by repeat (first | (with_reducible first | exact HB.out | apply below_alloc | apply pw_below_drewN | apply below_drew1 | refine below_set ?_ GE166.out) | exact HB.out))); (case side2 => exact HC0.out); rintro e w13 ⟨v168, rfl, ho0, hb⟩; have n0_ := Aside0.mk (Kd.S_lower ho0 (below_size (by repeat (first | (with_reducible first | exact HB.out | apply below_alloc | apply pw_below_drewN | apply below_drew1 | refine below_set ?_ GE166.out) | exact HB.out)))); have n1_ := Aside0.mk (blk_below (g := gb166) (o := .cells #[.int .i64 (wrap64 ((wrap64 (a1)) + 1)), .int .i64 (wrap64 ((wrap64 ((wrap64 (a1)) + 1)) + (wrap64 (a2)))), .int .i64 (wrap64 ((wrap64 (Int.tmod a3 24)) + 1))] 24 (0, 0)) (by (with_reducible repeat (first | refine blk_drewN ?_ _ | refine blk_drew ?_ | refine blk_alloc ?_ _)); refine blk_put (cs := #[.int .i64 (wrap64 ((wrap64 (a1)) + 1)), .int .i64 (wrap64 ((wrap64 ((wrap64 (a1)) + 1)) + (wrap64 (a2)))), .int .i64 0]) ?_ 2 _ rfl; (with_reducible repeat (first | refine blk_drewN ?_ _ | refine blk_drew ?_ | refine blk_alloc ?_ _)); refine blk_put (cs := #[.int .i64 (wrap64 ((wrap64 (a1)) + 1)), .int .i64 0, .int .i64 0]) ?_ 1 _ rfl; (with_reducible repeat (first | refine blk_drewN ?_ _ | refine blk_drew ?_ | refine blk_alloc ?_ _)); refine blk_put (cs := #[.int .i64 0, .int .i64 0, .int .i64 0]) ?_ 0 _ rfl; (with_reducible repeat (first | refine blk_drewN ?_ _ | refine blk_drew ?_ | refine blk_alloc ?_ _)); exact BK166.out) hb); have n2_ := Aside0.mk (below_step (by repeat (first | (with_reducible first | exact HB.out | apply below_alloc | apply pw_below_drewN | apply below_drew1 | refine below_set ?_ GE166.out) | exact HB.out)) hb); clear BK166; clear HB; have HO169 := n0_; have BK166 := n1_; have HB := n2_; clear n0_ n1_ n2_; (try clear hb); (try clear hb2); (try clear hk); (try clear hi); (try clear ho0)))
      repeat (go_quiet (first | (go_at_call 8; (with_reducible refine (baileelaw07_awake.calls k  true _ A5.out).mono ?_); rintro e w10 ⟨rfl, hb⟩; have n0_ := Aside0.mk (below_step (by repeat (first | (with_reducible first | exact HB.out | apply below_alloc | apply pw_below_drewN | apply below_drew1) | exact HB.out)) hb); clear HB; have HB := n0_; clear n0_; (try clear hb); (try clear hb2); (try clear hk); (try clear hi)) | ((with_reducible refine gate_dst (N := 10) rfl ?_); (try (refine gate_guard (by rfl) ?_; dsimp only)); refine box_event ?hg (N := 10) ?hd (cs := #[.int .i64 0, .int .i64 0, .int .i64 0]) (t := 24) ?hr ?_; (case hd => rfl); (case hg => rfl); (case hr => first | (go_simp; done) | (go_simp; rfl)); intro gb166 hg w11 hbox hb; have n0_ := Aside0.mk (below_step (by repeat (first | (with_reducible first | exact HB.out | apply below_alloc | apply pw_below_drewN | apply below_drew1) | exact HB.out)) hb); have n1_ := Aside0.mk (hbox); have n2_ := Aside0.mk ((by rw [hg]; exact (below_size (by repeat (first | (with_reducible first | exact HB.out | apply below_alloc | apply pw_below_drewN | apply below_drew1) | exact HB.out))) : w.heap.size ≤ gb166)); have n3_ := Aside0.mk ((by rw [hg]; exact (below_size (by repeat (first | (with_reducible first | exact HB.out | apply below_alloc | apply pw_below_drewN | apply below_drew1) | exact HB.out))) : w.heap.size ≤ gb166)); clear HB; have HB := n0_; have BK166 := n1_; have GW166 := n2_; have GE166 := n3_; clear n0_ n1_ n2_ n3_; clear hb hbox hg; have hcz12_0 : w11.cell? ⟨gb166, 0, none⟩ = some (.int .i64 0) := (blk_cell BK166.out 0).trans rfl; have hcz12_1 : w11.cell? ⟨gb166, 1, none⟩ = some (.int .i64 0) := (blk_cell BK166.out 1).trans rfl; have hcz12_2 : w11.cell? ⟨gb166, 2, none⟩ = some (.int .i64 0) := (blk_cell BK166.out 2).trans rfl; have hfz12_0 := blk_frozen BK166.out 0; have hfz12_1 := blk_frozen BK166.out 1; have hfz12_2 := blk_frozen BK166.out 2) | (go_at_call 10; (with_reducible refine (cutter_Pieces.calls k _ _ l0 (wrap64 ((wrap64 (a1)) + 1)) (wrap64 ((wrap64 ((wrap64 (a1)) + 1)) + (wrap64 (a2)))) (wrap64 ((wrap64 (Int.tmod a3 24)) + 1)) t167 t170 _ ?side1 ?side2 A9.out).mono ?_); (case side1 => exact Kd.C_below HR0.out (by repeat (first | (with_reducible first | exact HB.out | apply below_alloc | apply pw_below_drewN | apply below_drew1 | refine below_set ?_ GE166.out) | exact HB.out))); (case side2 => exact HC0.out); rintro e w13 ⟨v168, rfl, ho0, hb⟩; have n0_ := Aside0.mk (Kd.S_lower ho0 (below_size (by repeat (first | (with_reducible first | exact HB.out | apply below_alloc | apply pw_below_drewN | apply below_drew1 | refine below_set ?_ GE166.out) | exact HB.out)))); have n1_ := Aside0.mk (blk_below (g := gb166) (o := .cells #[.int .i64 (wrap64 ((wrap64 (a1)) + 1)), .int .i64 (wrap64 ((wrap64 ((wrap64 (a1)) + 1)) + (wrap64 (a2)))), .int .i64 (wrap64 ((wrap64 (Int.tmod a3 24)) + 1))] 24 (0, 0)) (by (with_reducible repeat (first | refine blk_drewN ?_ _ | refine blk_drew ?_ | refine blk_alloc ?_ _)); refine blk_put (cs := #[.int .i64 (wrap64 ((wrap64 (a1)) + 1)), .int .i64 (wrap64 ((wrap64 ((wrap64 (a1)) + 1)) + (wrap64 (a2)))), .int .i64 0]) ?_ 2 _ rfl; (with_reducible repeat (first | refine blk_drewN ?_ _ | refine blk_drew ?_ | refine blk_alloc ?_ _)); refine blk_put (cs := #[.int .i64 (wrap64 ((wrap64 (a1)) + 1)), .int .i64 0, .int .i64 0]) ?_ 1 _ rfl; (with_reducible repeat (first | refine blk_drewN ?_ _ | refine blk_drew ?_ | refine blk_alloc ?_ _)); refine blk_put (cs := #[.int .i64 0, .int .i64 0, .int .i64 0]) ?_ 0 _ rfl; (with_reducible repeat (first | refine blk_drewN ?_ _ | refine blk_drew ?_ | refine blk_alloc ?_ _)); exact BK166.out) hb); have n2_ := Aside0.mk (below_step (by repeat (first | (with_reducible first | exact HB.out | apply below_alloc | apply pw_below_drewN | apply below_drew1 | refine below_set ?_ GE166.out) | exact HB.out)) hb); clear BK166; clear HB; have HO169 := n0_; have BK166 := n1_; have HB := n2_; clear n0_ n1_ n2_; (try clear hb); (try clear hb2); (try clear hk); (try clear hi); (try clear ho0))); try go_wp2_with (first | (go_at_call 8; (with_reducible refine (baileelaw07_awake.calls k  true _ A5.out).mono ?_); rintro e w10 ⟨rfl, hb⟩; have n0_ := Aside0.mk (below_step (by repeat (first | (with_reducible first | exact HB.out | apply below_alloc | apply pw_below_drewN | apply below_drew1) | exact HB.out)) hb); clear HB; have HB := n0_; clear n0_; (try clear hb); (try clear hb2); (try clear hk); (try clear hi)) | ((with_reducible refine gate_dst (N := 10) rfl ?_); (try (refine gate_guard (by rfl) ?_; dsimp only)); refine box_event ?hg (N := 10) ?hd (cs := #[.int .i64 0, .int .i64 0, .int .i64 0]) (t := 24) ?hr ?_; (case hd => rfl); (case hg => rfl); (case hr => first | (go_simp; done) | (go_simp; rfl)); intro gb166 hg w11 hbox hb; have n0_ := Aside0.mk (below_step (by repeat (first | (with_reducible first | exact HB.out | apply below_alloc | apply pw_below_drewN | apply below_drew1) | exact HB.out)) hb); have n1_ := Aside0.mk (hbox); have n2_ := Aside0.mk ((by rw [hg]; exact (below_size (by repeat (first | (with_reducible first | exact HB.out | apply below_alloc | apply pw_below_drewN | apply below_drew1) | exact HB.out))) : w.heap.size ≤ gb166)); have n3_ := Aside0.mk ((by rw [hg]; exact (below_size (by repeat (first | (with_reducible first | exact HB.out | apply below_alloc | apply pw_below_drewN | apply below_drew1) | exact HB.out))) : w.heap.size ≤ gb166)); clear HB; have HB := n0_; have BK166 := n1_; have GW166 := n2_; have GE166 := n3_; clear n0_ n1_ n2_ n3_; clear hb hbox hg; have hcz12_0 : w11.cell? ⟨gb166, 0, none⟩ = some (.int .i64 0) := (blk_cell BK166.out 0).trans rfl; have hcz12_1 : w11.cell? ⟨gb166, 1, none⟩ = some (.int .i64 0) := (blk_cell BK166.out 1).trans rfl; have hcz12_2 : w11.cell? ⟨gb166, 2, none⟩ = some (.int .i64 0) := (blk_cell BK166.out 2).trans rfl; have hfz12_0 := blk_frozen BK166.out 0; have hfz12_1 := blk_frozen BK166.out 1; have hfz12_2 := blk_frozen BK166.out 2) | (go_at_call 10; (with_reducible refine (cutter_Pieces.calls k _ _ l0 (wrap64 ((wrap64 (a1)) + 1)) (wrap64 ((wrap64 ((wrap64 (a1)) + 1)) + (wrap64 (a2)))) (wrap64 ((wrap64 (Int.tmod a3 24)) + 1)) t167 t170 _ ?side1 ?side2 A9.out).mono ?_); (case side1 => exact Kd.C_below HR0.out (by repeat (first | (with_reducible first | exact HB.out | apply below_alloc | apply pw_below_drewN | apply below_drew1 | refine below_set ?_ GE166.out) | exact HB.out))); (case side2 => exact HC0.out); rintro e w13 ⟨v168, rfl, ho0, hb⟩; have n0_ := Aside0.mk (Kd.S_lower ho0 (below_size (by repeat (first | (with_reducible first | exact HB.out | apply below_alloc | apply pw_below_drewN | apply below_drew1 | refine below_set ?_ GE166.out) | exact HB.out)))); have n1_ := Aside0.mk (blk_below (g := gb166) (o := .cells #[.int .i64 (wrap64 ((wrap64 (a1)) + 1)), .int .i64 (wrap64 ((wrap64 ((wrap64 (a1)) + 1)) + (wrap64 (a2)))), .int .i64 (wrap64 ((wrap64 (Int.tmod a3 24)) + 1))] 24 (0, 0)) (by (with_reducible repeat (first | refine blk_drewN ?_ _ | refine blk_drew ?_ | refine blk_alloc ?_ _)); refine blk_put (cs := #[.int .i64 (wrap64 ((wrap64 (a1)) + 1)), .int .i64 (wrap64 ((wrap64 ((wrap64 (a1)) + 1)) + (wrap64 (a2)))), .int .i64 0]) ?_ 2 _ rfl; (with_reducible repeat (first | refine blk_drewN ?_ _ | refine blk_drew ?_ | refine blk_alloc ?_ _)); refine blk_put (cs := #[.int .i64 (wrap64 ((wrap64 (a1)) + 1)), .int .i64 0, .int .i64 0]) ?_ 1 _ rfl; (with_reducible repeat (first | refine blk_drewN ?_ _ | refine blk_drew ?_ | refine blk_alloc ?_ _)); refine blk_put (cs := #[.int .i64 0, .int .i64 0, .int .i64 0]) ?_ 0 _ rfl; (with_reducible repeat (first | refine blk_drewN ?_ _ | refine blk_drew ?_ | refine blk_alloc ?_ _)); exact BK166.out) hb); have n2_ := Aside0.mk (below_step (by repeat (first | (with_reducible first | exact HB.out | apply below_alloc | apply pw_below_drewN | apply below_drew1 | refine below_set ?_ GE166.out) | exact HB.out)) hb); clear BK166; clear HB; have HO169 := n0_; have BK166 := n1_; have HB := n2_; clear n0_ n1_ n2_; (try clear hb); (try clear hb2); (try clear hk); (try clear hi); (try clear ho0))))
      go_loopg [13, 14] k (fun kq v13 v14 w' => ∃ (x13_1 : ByteArray) (x14_1 : Int), v13 = .string x13_1 ∧ v14 = .int .i64 x14_1 ∧ Aside0 (baileelaw07_CutterAll.l0 kq l0 t167 t170 x13_1 x14_1 (wrap64 ((wrap64 (a1)) + 1)) (wrap64 ((wrap64 ((wrap64 (a1)) + 1)) + (wrap64 (a2)))) (wrap64 ((wrap64 (Int.tmod a3 24)) + 1)) = some r) ∧ Aside0 (kq ≤ k) ∧ Aside0 (Kd.S (Kd.slice 5 (Kd.int .u8)) 22 w' w.heap.size (fun _ => True) v168 t167) ∧ Aside0 (w'.heap[gb166]? = some (.cells #[.int .i64 (wrap64 ((wrap64 (a1)) + 1)), .int .i64 (wrap64 ((wrap64 ((wrap64 (a1)) + 1)) + (wrap64 (a2)))), .int .i64 (wrap64 ((wrap64 (Int.tmod a3 24)) + 1))] 24 (0, 0))) ∧ Aside0 (Below w.heap.size w w'))
      case atStart => exact ⟨((⟨#[]⟩ : ByteArray)), (0), (by first | rfl | (simp; done) | (simp [*]; done)), (by first | rfl | (simp; done) | (simp [*]; done)), H', ⟨Nat.le_refl _⟩, ⟨by (with_reducible repeat (first | apply Kd.S_alloc | apply Kd.S_drewN | apply Kd.S_drew)); exact HO169.out⟩, ⟨by (with_reducible repeat (first | refine blk_drewN ?_ _ | refine blk_drew ?_ | refine blk_alloc ?_ _)); exact BK166.out⟩, ⟨by repeat (first | (with_reducible first | exact HB.out | apply below_alloc | apply pw_below_drewN | apply below_drew1 | refine below_set ?_ GE166.out) | exact HB.out)⟩⟩
      case round =>
        clear H'
        try clear p2
        try clear c4
        try clear c6
        try clear p6
        try clear c7
        try clear c7b0
        try clear c7b1
        try clear hcz12_0
        try clear hcz12_1
        try clear hcz12_2
        try clear hfz12_0
        try clear hfz12_1
        try clear hfz12_2
        obtain ⟨x13_1, x14_1, rfl, rfl, HA, HK1, HO_11, BK166, HB⟩ := hrel
        cases gk with
        | zero => exact absurd HA.out (by simp [baileelaw07_CutterAll.l0])
        | succ k1 =>
          have H := HA.out
          clear HA
          simp only [baileelaw07_CutterAll.l0] at H
          by_cases c14 : x14_1 < (t167.length : Int)
          · rw [if_pos c14] at H
            have c14b0 : decide (x14_1 < (t167.length : Int)) = true := decide_eq_true c14
            clear c14
            by_cases c15 : 0 ≤ x14_1
            · rw [if_pos c15] at H
              have c15b0 : decide (0 ≤ x14_1) = true := decide_eq_true c15
              clear c15
              by_cases c16 : ((rd_L2 t167 x14_1).length : Int) < 1
              · rw [if_pos c16] at H
                have c16b0 : decide (((rd_L2 t167 x14_1).length : Int) < 1) = true := decide_eq_true c16
                have c16b1 : decide ((rd_L2 t167 x14_1).length < 1) = true := decide_eq_true (by omega)
                clear c16
                obtain rfl := Option.some.inj H
                obtain ⟨Ao17, co17, eo17⟩ := Kd.S_slice HO_11.out
                subst eo17
                have p171 : 0 ≤ (x14_1 : Int) := of_decide_eq_true (by first | (with_reducible assumption) | assumption)
                have q171 : x14_1 < (t167.length : Int) := of_decide_eq_true (by first | (with_reducible assumption) | assumption)
                obtain ⟨ad171, A171_0, c171_0, e171, hx171_0, hl171_0, hi171_0⟩ := at_L2 (Kd.S_reads' HO_11.out).2.2 x14_1 p171 q171
                cases e171
                obtain ⟨ce171, hce171, hMe171, hcc171⟩ := Kd.S_get HO_11.out [] x14_1 p171 (by first | exact q171 | exact of_decide_eq_true (by first | (with_reducible assumption) | assumption) | (have e_ := (Kd.S_reads' HO_11.out).1; omega))
                obtain ⟨ve171_0, rfl, ge171_0⟩ := hMe171
                have hv171_0 := hcc171 0 _ rfl
                rw [Nat.add_zero, show ((Kd.slice 5 (Kd.int .u8))).sz = 1 from rfl, Nat.mul_one] at hv171_0
                replace hv171_0 := Option.some.inj (hv171_0.symm.trans hx171_0)
                rw [hv171_0] at ge171_0
                have HL171_0 := Aside0.mk (show Kd.R (Kd.int .u8) 5 _ _ _ _ (rd_L2 t167 x14_1) from ge171_0)
                clear hv171_0 ge171_0
                clear hcc171 hce171
                have HR171_0 := Aside0.mk hi171_0
                have HC171_0 := Aside0.mk hl171_0
                clear hi171_0 hl171_0
                replace p171 := eq_true p171
                replace q171 := eq_true q171
                go_wp2
                repeat (go_quiet (fail); try go_wp2)
                go_ret
                exact ⟨by first | rfl | (simp [errW_none, errW_some] <;> rfl) | (simp [*, errW_none, errW_some] <;> rfl), by repeat (first | (with_reducible first | exact HB.out | apply below_alloc | apply pw_below_drewN | apply below_drew1 | refine below_set ?_ GE166.out) | exact HB.out)⟩
              · rw [if_neg c16] at H
                have c16b0 : decide (((rd_L2 t167 x14_1).length : Int) < 1) = false := decide_eq_false c16
                have c16b1 : decide ((rd_L2 t167 x14_1).length < 1) = false := decide_eq_false (by omega)
                clear c16
                by_cases c18 : ((rd_L2 t167 x14_1).length : Int) > (wrap64 ((wrap64 ((wrap64 (a1)) + 1)) + (wrap64 (a2))))
                · rw [if_pos c18] at H
                  have c18b0 : decide ((wrap64 ((wrap64 ((wrap64 (a1)) + 1)) + (wrap64 (a2)))) < ((rd_L2 t167 x14_1).length : Int)) = true := decide_eq_true c18
                  clear c18
                  obtain rfl := Option.some.inj H
                  obtain ⟨Ao19, co19, eo19⟩ := Kd.S_slice HO_11.out
                  subst eo19
                  have p171 : 0 ≤ (x14_1 : Int) := of_decide_eq_true (by first | (with_reducible assumption) | assumption)
                  have q171 : x14_1 < (t167.length : Int) := of_decide_eq_true (by first | (with_reducible assumption) | assumption)
                  obtain ⟨ad171, A171_0, c171_0, e171, hx171_0, hl171_0, hi171_0⟩ := at_L2 (Kd.S_reads' HO_11.out).2.2 x14_1 p171 q171
                  cases e171
                  obtain ⟨ce171, hce171, hMe171, hcc171⟩ := Kd.S_get HO_11.out [] x14_1 p171 (by first | exact q171 | exact of_decide_eq_true (by first | (with_reducible assumption) | assumption) | (have e_ := (Kd.S_reads' HO_11.out).1; omega))
                  obtain ⟨ve171_0, rfl, ge171_0⟩ := hMe171
                  have hv171_0 := hcc171 0 _ rfl
                  rw [Nat.add_zero, show ((Kd.slice 5 (Kd.int .u8))).sz = 1 from rfl, Nat.mul_one] at hv171_0
                  replace hv171_0 := Option.some.inj (hv171_0.symm.trans hx171_0)
                  rw [hv171_0] at ge171_0
                  have HL171_0 := Aside0.mk (show Kd.R (Kd.int .u8) 5 _ _ _ _ (rd_L2 t167 x14_1) from ge171_0)
                  clear hv171_0 ge171_0
                  clear hcc171 hce171
                  have HR171_0 := Aside0.mk hi171_0
                  have HC171_0 := Aside0.mk hl171_0
                  clear hi171_0 hl171_0
                  replace p171 := eq_true p171
                  replace q171 := eq_true q171
                  have p172 : 0 ≤ (x14_1 : Int) := of_decide_eq_true (by first | (with_reducible assumption) | assumption)
                  have q172 : x14_1 < (t167.length : Int) := of_decide_eq_true (by first | (with_reducible assumption) | assumption)
                  obtain ⟨ad172, A172_0, c172_0, e172, hx172_0, hl172_0, hi172_0⟩ := at_L2 (Kd.S_reads' HO_11.out).2.2 x14_1 p172 q172
                  obtain rfl : ad171 = ad172 := (by injection e172)
                  obtain ⟨ce172, hce172, hMe172, hcc172⟩ := Kd.S_get HO_11.out [] x14_1 p172 (by first | exact q172 | exact of_decide_eq_true (by first | (with_reducible assumption) | assumption) | (have e_ := (Kd.S_reads' HO_11.out).1; omega))
                  obtain ⟨ve172_0, rfl, ge172_0⟩ := hMe172
                  have hv172_0 := hcc172 0 _ rfl
                  rw [Nat.add_zero, show ((Kd.slice 5 (Kd.int .u8))).sz = 1 from rfl, Nat.mul_one] at hv172_0
                  replace hv172_0 := Option.some.inj (hv172_0.symm.trans hx172_0)
                  rw [hv172_0] at ge172_0
                  have HL172_0 := Aside0.mk (show Kd.R (Kd.int .u8) 5 _ _ _ _ (rd_L2 t167 x14_1) from ge172_0)
                  clear hv172_0 ge172_0
                  clear hcc172 hce172
                  have HR172_0 := Aside0.mk hi172_0
                  have HC172_0 := Aside0.mk hl172_0
                  clear hi172_0 hl172_0
                  replace p172 := eq_true p172
                  replace q172 := eq_true q172
                  have ea_ := Option.some.inj (hx171_0.symm.trans hx172_0)
                  injection ea_ with ea_ en_ ec_
                  subst ea_
                  subst ec_
                  clear en_
                  have hcz20_0 : wr.cell? ⟨gb166, 0, none⟩ = some (.int .i64 (wrap64 ((wrap64 (a1)) + 1))) := (blk_cell BK166.out 0).trans rfl
                  have hcz20_1 : wr.cell? ⟨gb166, 1, none⟩ = some (.int .i64 (wrap64 ((wrap64 ((wrap64 (a1)) + 1)) + (wrap64 (a2))))) := (blk_cell BK166.out 1).trans rfl
                  have hcz20_2 : wr.cell? ⟨gb166, 2, none⟩ = some (.int .i64 (wrap64 ((wrap64 (Int.tmod a3 24)) + 1))) := (blk_cell BK166.out 2).trans rfl
                  have hfz20_0 := blk_frozen BK166.out 0
                  have hfz20_1 := blk_frozen BK166.out 1
                  have hfz20_2 := blk_frozen BK166.out 2
                  go_wp2
                  repeat (go_quiet (fail); try go_wp2)
                  go_ret
                  exact ⟨by first | rfl | (simp [errW_none, errW_some] <;> rfl) | (simp [*, errW_none, errW_some] <;> rfl), by repeat (first | (with_reducible first | exact HB.out | apply below_alloc | apply pw_below_drewN | apply below_drew1 | refine below_set ?_ GE166.out) | exact HB.out)⟩
                · rw [if_neg c18] at H
                  have c18b0 : decide ((wrap64 ((wrap64 ((wrap64 (a1)) + 1)) + (wrap64 (a2)))) < ((rd_L2 t167 x14_1).length : Int)) = false := decide_eq_false c18
                  clear c18
                  by_cases c21 : x14_1 < (wrap64 ((t167.length : Int) - 1))
                  · rw [if_pos c21] at H
                    have c21b0 : decide (x14_1 < (wrap64 ((t167.length : Int) - 1))) = true := decide_eq_true c21
                    clear c21
                    by_cases c22 : ((rd_L2 t167 x14_1).length : Int) < (wrap64 ((wrap64 (a1)) + 1))
                    · rw [if_pos c22] at H
                      have c22b0 : decide (((rd_L2 t167 x14_1).length : Int) < (wrap64 ((wrap64 (a1)) + 1))) = true := decide_eq_true c22
                      clear c22
                      obtain rfl := Option.some.inj H
                      obtain ⟨Ao23, co23, eo23⟩ := Kd.S_slice HO_11.out
                      subst eo23
                      have p171 : 0 ≤ (x14_1 : Int) := of_decide_eq_true (by first | (with_reducible assumption) | assumption)
                      have q171 : x14_1 < (t167.length : Int) := of_decide_eq_true (by first | (with_reducible assumption) | assumption)
                      obtain ⟨ad171, A171_0, c171_0, e171, hx171_0, hl171_0, hi171_0⟩ := at_L2 (Kd.S_reads' HO_11.out).2.2 x14_1 p171 q171
                      cases e171
                      obtain ⟨ce171, hce171, hMe171, hcc171⟩ := Kd.S_get HO_11.out [] x14_1 p171 (by first | exact q171 | exact of_decide_eq_true (by first | (with_reducible assumption) | assumption) | (have e_ := (Kd.S_reads' HO_11.out).1; omega))
                      obtain ⟨ve171_0, rfl, ge171_0⟩ := hMe171
                      have hv171_0 := hcc171 0 _ rfl
                      rw [Nat.add_zero, show ((Kd.slice 5 (Kd.int .u8))).sz = 1 from rfl, Nat.mul_one] at hv171_0
                      replace hv171_0 := Option.some.inj (hv171_0.symm.trans hx171_0)
                      rw [hv171_0] at ge171_0
                      have HL171_0 := Aside0.mk (show Kd.R (Kd.int .u8) 5 _ _ _ _ (rd_L2 t167 x14_1) from ge171_0)
                      clear hv171_0 ge171_0
                      clear hcc171 hce171
                      have HR171_0 := Aside0.mk hi171_0
                      have HC171_0 := Aside0.mk hl171_0
                      clear hi171_0 hl171_0
                      replace p171 := eq_true p171
                      replace q171 := eq_true q171
                      have p172 : 0 ≤ (x14_1 : Int) := of_decide_eq_true (by first | (with_reducible assumption) | assumption)
                      have q172 : x14_1 < (t167.length : Int) := of_decide_eq_true (by first | (with_reducible assumption) | assumption)
                      obtain ⟨ad172, A172_0, c172_0, e172, hx172_0, hl172_0, hi172_0⟩ := at_L2 (Kd.S_reads' HO_11.out).2.2 x14_1 p172 q172
                      obtain rfl : ad171 = ad172 := (by injection e172)
                      obtain ⟨ce172, hce172, hMe172, hcc172⟩ := Kd.S_get HO_11.out [] x14_1 p172 (by first | exact q172 | exact of_decide_eq_true (by first | (with_reducible assumption) | assumption) | (have e_ := (Kd.S_reads' HO_11.out).1; omega))
                      obtain ⟨ve172_0, rfl, ge172_0⟩ := hMe172
                      have hv172_0 := hcc172 0 _ rfl
                      rw [Nat.add_zero, show ((Kd.slice 5 (Kd.int .u8))).sz = 1 from rfl, Nat.mul_one] at hv172_0
                      replace hv172_0 := Option.some.inj (hv172_0.symm.trans hx172_0)
                      rw [hv172_0] at ge172_0
                      have HL172_0 := Aside0.mk (show Kd.R (Kd.int .u8) 5 _ _ _ _ (rd_L2 t167 x14_1) from ge172_0)
                      clear hv172_0 ge172_0
                      clear hcc172 hce172
                      have HR172_0 := Aside0.mk hi172_0
                      have HC172_0 := Aside0.mk hl172_0
                      clear hi172_0 hl172_0
                      replace p172 := eq_true p172
                      replace q172 := eq_true q172
                      have ea_ := Option.some.inj (hx171_0.symm.trans hx172_0)
                      injection ea_ with ea_ en_ ec_
                      subst ea_
                      subst ec_
                      clear en_
                      have hcz24_0 : wr.cell? ⟨gb166, 0, none⟩ = some (.int .i64 (wrap64 ((wrap64 (a1)) + 1))) := (blk_cell BK166.out 0).trans rfl
                      have hcz24_1 : wr.cell? ⟨gb166, 1, none⟩ = some (.int .i64 (wrap64 ((wrap64 ((wrap64 (a1)) + 1)) + (wrap64 (a2))))) := (blk_cell BK166.out 1).trans rfl
                      have hcz24_2 : wr.cell? ⟨gb166, 2, none⟩ = some (.int .i64 (wrap64 ((wrap64 (Int.tmod a3 24)) + 1))) := (blk_cell BK166.out 2).trans rfl
                      have hfz24_0 := blk_frozen BK166.out 0
                      have hfz24_1 := blk_frozen BK166.out 1
                      have hfz24_2 := blk_frozen BK166.out 2
                      have p173 : 0 ≤ (x14_1 : Int) := of_decide_eq_true (by first | (with_reducible assumption) | assumption)
                      have q173 : x14_1 < (t167.length : Int) := of_decide_eq_true (by first | (with_reducible assumption) | assumption)
                      obtain ⟨ad173, A173_0, c173_0, e173, hx173_0, hl173_0, hi173_0⟩ := at_L2 (Kd.S_reads' HO_11.out).2.2 x14_1 p173 q173
                      obtain rfl : ad171 = ad173 := (by injection e173)
                      obtain ⟨ce173, hce173, hMe173, hcc173⟩ := Kd.S_get HO_11.out [] x14_1 p173 (by first | exact q173 | exact of_decide_eq_true (by first | (with_reducible assumption) | assumption) | (have e_ := (Kd.S_reads' HO_11.out).1; omega))
                      obtain ⟨ve173_0, rfl, ge173_0⟩ := hMe173
                      have hv173_0 := hcc173 0 _ rfl
                      rw [Nat.add_zero, show ((Kd.slice 5 (Kd.int .u8))).sz = 1 from rfl, Nat.mul_one] at hv173_0
                      replace hv173_0 := Option.some.inj (hv173_0.symm.trans hx173_0)
                      rw [hv173_0] at ge173_0
                      have HL173_0 := Aside0.mk (show Kd.R (Kd.int .u8) 5 _ _ _ _ (rd_L2 t167 x14_1) from ge173_0)
                      clear hv173_0 ge173_0
                      clear hcc173 hce173
                      have HR173_0 := Aside0.mk hi173_0
                      have HC173_0 := Aside0.mk hl173_0
                      clear hi173_0 hl173_0
                      replace p173 := eq_true p173
                      replace q173 := eq_true q173
                      have ea_ := Option.some.inj (hx171_0.symm.trans hx173_0)
                      injection ea_ with ea_ en_ ec_
                      subst ea_
                      subst ec_
                      clear en_
                      go_wp2
                      repeat (go_quiet (fail); try go_wp2)
                      go_ret
                      exact ⟨by first | rfl | (simp [errW_none, errW_some] <;> rfl) | (simp [*, errW_none, errW_some] <;> rfl), by repeat (first | (with_reducible first | exact HB.out | apply below_alloc | apply pw_below_drewN | apply below_drew1 | refine below_set ?_ GE166.out) | exact HB.out)⟩
                    · rw [if_neg c22] at H
                      have c22b0 : decide (((rd_L2 t167 x14_1).length : Int) < (wrap64 ((wrap64 (a1)) + 1))) = false := decide_eq_false c22
                      clear c22
                      by_cases c25 : x13_1.size + (strOfNums (rd_L2 t167 x14_1)).size ≤ 9223372036854775807
                      · rw [if_pos c25] at H
                        have c25b0 := eq_true c25
                        have c25b1 : decide (x13_1.size + (strOfNums (rd_L2 t167 x14_1)).size ≤ 9223372036854775807) = true := decide_eq_true c25
                        try have c25b2 : (9223372036854775807 < x13_1.size + (strOfNums (rd_L2 t167 x14_1)).size) = False := eq_false (Nat.not_lt.2 c25)
                        have H' := Aside0.mk H
                        clear H
                        obtain ⟨Ao26, co26, eo26⟩ := Kd.S_slice HO_11.out
                        subst eo26
                        have p171 : 0 ≤ (x14_1 : Int) := of_decide_eq_true (by first | (with_reducible assumption) | assumption)
                        have q171 : x14_1 < (t167.length : Int) := of_decide_eq_true (by first | (with_reducible assumption) | assumption)
                        obtain ⟨ad171, A171_0, c171_0, e171, hx171_0, hl171_0, hi171_0⟩ := at_L2 (Kd.S_reads' HO_11.out).2.2 x14_1 p171 q171
                        cases e171
                        obtain ⟨ce171, hce171, hMe171, hcc171⟩ := Kd.S_get HO_11.out [] x14_1 p171 (by first | exact q171 | exact of_decide_eq_true (by first | (with_reducible assumption) | assumption) | (have e_ := (Kd.S_reads' HO_11.out).1; omega))
                        obtain ⟨ve171_0, rfl, ge171_0⟩ := hMe171
                        have hv171_0 := hcc171 0 _ rfl
                        rw [Nat.add_zero, show ((Kd.slice 5 (Kd.int .u8))).sz = 1 from rfl, Nat.mul_one] at hv171_0
                        replace hv171_0 := Option.some.inj (hv171_0.symm.trans hx171_0)
                        rw [hv171_0] at ge171_0
                        have HL171_0 := Aside0.mk (show Kd.R (Kd.int .u8) 5 _ _ _ _ (rd_L2 t167 x14_1) from ge171_0)
                        clear hv171_0 ge171_0
                        clear hcc171 hce171
                        have HR171_0 := Aside0.mk hi171_0
                        have HC171_0 := Aside0.mk hl171_0
                        clear hi171_0 hl171_0
                        replace p171 := eq_true p171
                        replace q171 := eq_true q171
                        have p172 : 0 ≤ (x14_1 : Int) := of_decide_eq_true (by first | (with_reducible assumption) | assumption)
                        have q172 : x14_1 < (t167.length : Int) := of_decide_eq_true (by first | (with_reducible assumption) | assumption)
                        obtain ⟨ad172, A172_0, c172_0, e172, hx172_0, hl172_0, hi172_0⟩ := at_L2 (Kd.S_reads' HO_11.out).2.2 x14_1 p172 q172
                        obtain rfl : ad171 = ad172 := (by injection e172)
                        obtain ⟨ce172, hce172, hMe172, hcc172⟩ := Kd.S_get HO_11.out [] x14_1 p172 (by first | exact q172 | exact of_decide_eq_true (by first | (with_reducible assumption) | assumption) | (have e_ := (Kd.S_reads' HO_11.out).1; omega))
                        obtain ⟨ve172_0, rfl, ge172_0⟩ := hMe172
                        have hv172_0 := hcc172 0 _ rfl
                        rw [Nat.add_zero, show ((Kd.slice 5 (Kd.int .u8))).sz = 1 from rfl, Nat.mul_one] at hv172_0
                        replace hv172_0 := Option.some.inj (hv172_0.symm.trans hx172_0)
                        rw [hv172_0] at ge172_0
                        have HL172_0 := Aside0.mk (show Kd.R (Kd.int .u8) 5 _ _ _ _ (rd_L2 t167 x14_1) from ge172_0)
                        clear hv172_0 ge172_0
                        clear hcc172 hce172
                        have HR172_0 := Aside0.mk hi172_0
                        have HC172_0 := Aside0.mk hl172_0
                        clear hi172_0 hl172_0
                        replace p172 := eq_true p172
                        replace q172 := eq_true q172
                        have ea_ := Option.some.inj (hx171_0.symm.trans hx172_0)
                        injection ea_ with ea_ en_ ec_
                        subst ea_
                        subst ec_
                        clear en_
                        have hcz27_0 : wr.cell? ⟨gb166, 0, none⟩ = some (.int .i64 (wrap64 ((wrap64 (a1)) + 1))) := (blk_cell BK166.out 0).trans rfl
                        have hcz27_1 : wr.cell? ⟨gb166, 1, none⟩ = some (.int .i64 (wrap64 ((wrap64 ((wrap64 (a1)) + 1)) + (wrap64 (a2))))) := (blk_cell BK166.out 1).trans rfl
                        have hcz27_2 : wr.cell? ⟨gb166, 2, none⟩ = some (.int .i64 (wrap64 ((wrap64 (Int.tmod a3 24)) + 1))) := (blk_cell BK166.out 2).trans rfl
                        have hfz27_0 := blk_frozen BK166.out 0
                        have hfz27_1 := blk_frozen BK166.out 1
                        have hfz27_2 := blk_frozen BK166.out 2
                        have p173 : 0 ≤ (x14_1 : Int) := of_decide_eq_true (by first | (with_reducible assumption) | assumption)
                        have q173 : x14_1 < (t167.length : Int) := of_decide_eq_true (by first | (with_reducible assumption) | assumption)
                        obtain ⟨ad173, A173_0, c173_0, e173, hx173_0, hl173_0, hi173_0⟩ := at_L2 (Kd.S_reads' HO_11.out).2.2 x14_1 p173 q173
                        obtain rfl : ad171 = ad173 := (by injection e173)
                        obtain ⟨ce173, hce173, hMe173, hcc173⟩ := Kd.S_get HO_11.out [] x14_1 p173 (by first | exact q173 | exact of_decide_eq_true (by first | (with_reducible assumption) | assumption) | (have e_ := (Kd.S_reads' HO_11.out).1; omega))
                        obtain ⟨ve173_0, rfl, ge173_0⟩ := hMe173
                        have hv173_0 := hcc173 0 _ rfl
                        rw [Nat.add_zero, show ((Kd.slice 5 (Kd.int .u8))).sz = 1 from rfl, Nat.mul_one] at hv173_0
                        replace hv173_0 := Option.some.inj (hv173_0.symm.trans hx173_0)
                        rw [hv173_0] at ge173_0
                        have HL173_0 := Aside0.mk (show Kd.R (Kd.int .u8) 5 _ _ _ _ (rd_L2 t167 x14_1) from ge173_0)
                        clear hv173_0 ge173_0
                        clear hcc173 hce173
                        have HR173_0 := Aside0.mk hi173_0
                        have HC173_0 := Aside0.mk hl173_0
                        clear hi173_0 hl173_0
                        replace p173 := eq_true p173
                        replace q173 := eq_true q173
                        have ea_ := Option.some.inj (hx171_0.symm.trans hx173_0)
                        injection ea_ with ea_ en_ ec_
                        subst ea_
                        subst ec_
                        clear en_
                        have p174 : 0 ≤ (x14_1 : Int) := of_decide_eq_true (by first | (with_reducible assumption) | assumption)
                        have q174 : x14_1 < (t167.length : Int) := of_decide_eq_true (by first | (with_reducible assumption) | assumption)
                        obtain ⟨ad174, A174_0, c174_0, e174, hx174_0, hl174_0, hi174_0⟩ := at_L2 (Kd.S_reads' HO_11.out).2.2 x14_1 p174 q174
                        obtain rfl : ad171 = ad174 := (by injection e174)
                        obtain ⟨ce174, hce174, hMe174, hcc174⟩ := Kd.S_get HO_11.out [] x14_1 p174 (by first | exact q174 | exact of_decide_eq_true (by first | (with_reducible assumption) | assumption) | (have e_ := (Kd.S_reads' HO_11.out).1; omega))
                        obtain ⟨ve174_0, rfl, ge174_0⟩ := hMe174
                        have hv174_0 := hcc174 0 _ rfl
                        rw [Nat.add_zero, show ((Kd.slice 5 (Kd.int .u8))).sz = 1 from rfl, Nat.mul_one] at hv174_0
                        replace hv174_0 := Option.some.inj (hv174_0.symm.trans hx174_0)
                        rw [hv174_0] at ge174_0
                        have HL174_0 := Aside0.mk (show Kd.R (Kd.int .u8) 5 _ _ _ _ (rd_L2 t167 x14_1) from ge174_0)
                        clear hv174_0 ge174_0
                        clear hcc174 hce174
                        have HR174_0 := Aside0.mk hi174_0
                        have HC174_0 := Aside0.mk hl174_0
                        clear hi174_0 hl174_0
                        replace p174 := eq_true p174
                        replace q174 := eq_true q174
                        have ea_ := Option.some.inj (hx171_0.symm.trans hx174_0)
                        injection ea_ with ea_ en_ ec_
                        subst ea_
                        subst ec_
                        clear en_
                        have hcv28 := Kd.C_string (P := Try.prog) (A := A171_0) (c := c171_0) Try.underlying22 Try.underlying5 Try.underlying9 (by repeat (first | (with_reducible exact HR174_0.out) | (with_reducible refine Kd.C_alloc ?_ _) | (with_reducible refine Kd.C_drewN ?_ _) | (with_reducible refine Kd.C_drew ?_) | exact HR174_0.out))
                        have hcv28n := fun nd_ : Nat => Kd.C_string (P := Try.prog) (w := wr.drewN nd_) (A := A171_0) (c := c171_0) Try.underlying22 Try.underlying5 Try.underlying9 (by with_reducible refine Kd.C_drewN ?_ _; exact HR174_0.out)
                        go_wp2
                        repeat (go_quiet (fail); try go_wp2)
                        go_roundg k1
                        case measure => have := HK1.out; omega
                        case rel => exact ⟨(x13_1 ++ (strOfNums (rd_L2 t167 x14_1))), (wrap64 (x14_1 + 1)), (by first | rfl | (simp; done) | (simp [*]; done)), (by first | rfl | (simp; done) | (simp [*]; done)), H', ⟨by have := HK1.out; omega⟩, ⟨by (with_reducible repeat (first | apply Kd.S_alloc | apply Kd.S_drewN | apply Kd.S_drew)); exact HO_11.out⟩, ⟨by (with_reducible repeat (first | refine blk_drewN ?_ _ | refine blk_drew ?_ | refine blk_alloc ?_ _)); exact BK166.out⟩, ⟨by repeat (first | (with_reducible first | exact HB.out | apply below_alloc | apply pw_below_drewN | apply below_drew1 | refine below_set ?_ GE166.out) | exact HB.out)⟩⟩
                      · rw [if_neg c25] at H
                        exact absurd H (by simp)
                  · rw [if_neg c21] at H
                    have c21b0 : decide (x14_1 < (wrap64 ((t167.length : Int) - 1))) = false := decide_eq_false c21
                    clear c21
                    by_cases c29 : x13_1.size + (strOfNums (rd_L2 t167 x14_1)).size ≤ 9223372036854775807
                    · rw [if_pos c29] at H
                      have c29b0 := eq_true c29
                      have c29b1 : decide (x13_1.size + (strOfNums (rd_L2 t167 x14_1)).size ≤ 9223372036854775807) = true := decide_eq_true c29
                      try have c29b2 : (9223372036854775807 < x13_1.size + (strOfNums (rd_L2 t167 x14_1)).size) = False := eq_false (Nat.not_lt.2 c29)
                      have H' := Aside0.mk H
                      clear H
                      obtain ⟨Ao30, co30, eo30⟩ := Kd.S_slice HO_11.out
                      subst eo30
                      have p171 : 0 ≤ (x14_1 : Int) := of_decide_eq_true (by first | (with_reducible assumption) | assumption)
                      have q171 : x14_1 < (t167.length : Int) := of_decide_eq_true (by first | (with_reducible assumption) | assumption)
                      obtain ⟨ad171, A171_0, c171_0, e171, hx171_0, hl171_0, hi171_0⟩ := at_L2 (Kd.S_reads' HO_11.out).2.2 x14_1 p171 q171
                      cases e171
                      obtain ⟨ce171, hce171, hMe171, hcc171⟩ := Kd.S_get HO_11.out [] x14_1 p171 (by first | exact q171 | exact of_decide_eq_true (by first | (with_reducible assumption) | assumption) | (have e_ := (Kd.S_reads' HO_11.out).1; omega))
                      obtain ⟨ve171_0, rfl, ge171_0⟩ := hMe171
                      have hv171_0 := hcc171 0 _ rfl
                      rw [Nat.add_zero, show ((Kd.slice 5 (Kd.int .u8))).sz = 1 from rfl, Nat.mul_one] at hv171_0
                      replace hv171_0 := Option.some.inj (hv171_0.symm.trans hx171_0)
                      rw [hv171_0] at ge171_0
                      have HL171_0 := Aside0.mk (show Kd.R (Kd.int .u8) 5 _ _ _ _ (rd_L2 t167 x14_1) from ge171_0)
                      clear hv171_0 ge171_0
                      clear hcc171 hce171
                      have HR171_0 := Aside0.mk hi171_0
                      have HC171_0 := Aside0.mk hl171_0
                      clear hi171_0 hl171_0
                      replace p171 := eq_true p171
                      replace q171 := eq_true q171
                      have p172 : 0 ≤ (x14_1 : Int) := of_decide_eq_true (by first | (with_reducible assumption) | assumption)
                      have q172 : x14_1 < (t167.length : Int) := of_decide_eq_true (by first | (with_reducible assumption) | assumption)
                      obtain ⟨ad172, A172_0, c172_0, e172, hx172_0, hl172_0, hi172_0⟩ := at_L2 (Kd.S_reads' HO_11.out).2.2 x14_1 p172 q172
                      obtain rfl : ad171 = ad172 := (by injection e172)
                      obtain ⟨ce172, hce172, hMe172, hcc172⟩ := Kd.S_get HO_11.out [] x14_1 p172 (by first | exact q172 | exact of_decide_eq_true (by first | (with_reducible assumption) | assumption) | (have e_ := (Kd.S_reads' HO_11.out).1; omega))
                      obtain ⟨ve172_0, rfl, ge172_0⟩ := hMe172
                      have hv172_0 := hcc172 0 _ rfl
                      rw [Nat.add_zero, show ((Kd.slice 5 (Kd.int .u8))).sz = 1 from rfl, Nat.mul_one] at hv172_0
                      replace hv172_0 := Option.some.inj (hv172_0.symm.trans hx172_0)
                      rw [hv172_0] at ge172_0
                      have HL172_0 := Aside0.mk (show Kd.R (Kd.int .u8) 5 _ _ _ _ (rd_L2 t167 x14_1) from ge172_0)
                      clear hv172_0 ge172_0
                      clear hcc172 hce172
                      have HR172_0 := Aside0.mk hi172_0
                      have HC172_0 := Aside0.mk hl172_0
                      clear hi172_0 hl172_0
                      replace p172 := eq_true p172
                      replace q172 := eq_true q172
                      have ea_ := Option.some.inj (hx171_0.symm.trans hx172_0)
                      injection ea_ with ea_ en_ ec_
                      subst ea_
                      subst ec_
                      clear en_
                      have hcz31_0 : wr.cell? ⟨gb166, 0, none⟩ = some (.int .i64 (wrap64 ((wrap64 (a1)) + 1))) := (blk_cell BK166.out 0).trans rfl
                      have hcz31_1 : wr.cell? ⟨gb166, 1, none⟩ = some (.int .i64 (wrap64 ((wrap64 ((wrap64 (a1)) + 1)) + (wrap64 (a2))))) := (blk_cell BK166.out 1).trans rfl
                      have hcz31_2 : wr.cell? ⟨gb166, 2, none⟩ = some (.int .i64 (wrap64 ((wrap64 (Int.tmod a3 24)) + 1))) := (blk_cell BK166.out 2).trans rfl
                      have hfz31_0 := blk_frozen BK166.out 0
                      have hfz31_1 := blk_frozen BK166.out 1
                      have hfz31_2 := blk_frozen BK166.out 2
                      have p175 : 0 ≤ (x14_1 : Int) := of_decide_eq_true (by first | (with_reducible assumption) | assumption)
                      have q175 : x14_1 < (t167.length : Int) := of_decide_eq_true (by first | (with_reducible assumption) | assumption)
                      obtain ⟨ad175, A175_0, c175_0, e175, hx175_0, hl175_0, hi175_0⟩ := at_L2 (Kd.S_reads' HO_11.out).2.2 x14_1 p175 q175
                      obtain rfl : ad171 = ad175 := (by injection e175)
                      obtain ⟨ce175, hce175, hMe175, hcc175⟩ := Kd.S_get HO_11.out [] x14_1 p175 (by first | exact q175 | exact of_decide_eq_true (by first | (with_reducible assumption) | assumption) | (have e_ := (Kd.S_reads' HO_11.out).1; omega))
                      obtain ⟨ve175_0, rfl, ge175_0⟩ := hMe175
                      have hv175_0 := hcc175 0 _ rfl
                      rw [Nat.add_zero, show ((Kd.slice 5 (Kd.int .u8))).sz = 1 from rfl, Nat.mul_one] at hv175_0
                      replace hv175_0 := Option.some.inj (hv175_0.symm.trans hx175_0)
                      rw [hv175_0] at ge175_0
                      have HL175_0 := Aside0.mk (show Kd.R (Kd.int .u8) 5 _ _ _ _ (rd_L2 t167 x14_1) from ge175_0)
                      clear hv175_0 ge175_0
                      clear hcc175 hce175
                      have HR175_0 := Aside0.mk hi175_0
                      have HC175_0 := Aside0.mk hl175_0
                      clear hi175_0 hl175_0
                      replace p175 := eq_true p175
                      replace q175 := eq_true q175
                      have ea_ := Option.some.inj (hx171_0.symm.trans hx175_0)
                      injection ea_ with ea_ en_ ec_
                      subst ea_
                      subst ec_
                      clear en_
                      have hcv32 := Kd.C_string (P := Try.prog) (A := A171_0) (c := c171_0) Try.underlying22 Try.underlying5 Try.underlying9 (by repeat (first | (with_reducible exact HR175_0.out) | (with_reducible refine Kd.C_alloc ?_ _) | (with_reducible refine Kd.C_drewN ?_ _) | (with_reducible refine Kd.C_drew ?_) | exact HR175_0.out))
                      have hcv32n := fun nd_ : Nat => Kd.C_string (P := Try.prog) (w := wr.drewN nd_) (A := A171_0) (c := c171_0) Try.underlying22 Try.underlying5 Try.underlying9 (by with_reducible refine Kd.C_drewN ?_ _; exact HR175_0.out)
                      go_wp2
                      repeat (go_quiet (fail); try go_wp2)
                      go_roundg k1
                      case measure => have := HK1.out; omega
                      case rel => exact ⟨(x13_1 ++ (strOfNums (rd_L2 t167 x14_1))), (wrap64 (x14_1 + 1)), (by first | rfl | (simp; done) | (simp [*]; done)), (by first | rfl | (simp; done) | (simp [*]; done)), H', ⟨by have := HK1.out; omega⟩, ⟨by (with_reducible repeat (first | apply Kd.S_alloc | apply Kd.S_drewN | apply Kd.S_drew)); exact HO_11.out⟩, ⟨by (with_reducible repeat (first | refine blk_drewN ?_ _ | refine blk_drew ?_ | refine blk_alloc ?_ _)); exact BK166.out⟩, ⟨by repeat (first | (with_reducible first | exact HB.out | apply below_alloc | apply pw_below_drewN | apply below_drew1 | refine below_set ?_ GE166.out) | exact HB.out)⟩⟩
                    · rw [if_neg c29] at H
                      exact absurd H (by simp)
            · rw [if_neg c15] at H
              exact absurd H (by simp)
          · rw [if_neg c14] at H
            have c14b0 : decide (x14_1 < (t167.length : Int)) = false := decide_eq_false c14
            clear c14
            by_cases c33 : t170 = 0
            · rw [if_pos c33] at H
              have c33b0 : (t170 == 0) = true := beq_iff_eq.mpr c33
              have c33b1 : (t170 != 0) = false := bne_eq_false_iff_eq.mpr c33
              clear c33
              obtain rfl := Option.some.inj H
              obtain ⟨Ao34, co34, eo34⟩ := Kd.S_slice HO_11.out
              subst eo34
              have hcv35 := Kd.C_string (P := Try.prog) (A := A0) (c := c0) Try.underlying22 Try.underlying5 Try.underlying9 (Kd.C_below HR0.out HB.out)
              go_wp2
              repeat (go_quiet (fail); try go_wp2)
              go_ret
              exact ⟨by first | rfl | (simp [errW_none, errW_some] <;> rfl) | (simp [*, errW_none, errW_some] <;> rfl), by repeat (first | (with_reducible first | exact HB.out | apply below_alloc | apply pw_below_drewN | apply below_drew1 | refine below_set ?_ GE166.out) | exact HB.out)⟩
            · rw [if_neg c33] at H
              have c33b0 : (t170 == 0) = false := beq_eq_false_iff_ne.mpr c33
              have c33b1 : (t170 != 0) = true := bne_iff_ne.mpr c33
              obtain rfl := Option.some.inj H
              obtain ⟨Ao36, co36, eo36⟩ := Kd.S_slice HO_11.out
              subst eo36
              go_wp2
              repeat (go_quiet (fail); try go_wp2)
              go_ret
              exact ⟨by first | rfl | (simp [errW_none, errW_some] <;> rfl) | (simp [*, errW_none, errW_some] <;> rfl), by repeat (first | (with_reducible first | exact HB.out | apply below_alloc | apply pw_below_drewN | apply below_drew1 | refine below_set ?_ GE166.out) | exact HB.out)⟩
  · replace c6 := Bool.eq_false_iff.mpr c6
    subst c6
    have H1 : (some false) = some r := by rw [if_neg (show ¬ (false = true) by decide)] at H; exact H
    clear H
    have H := H1
    clear H1
    obtain rfl := Option.some.inj H
    go_enter Try.func4, Try.ntmps4
    go_wp2_with (first | (go_at_call 8; (with_reducible refine (baileelaw07_awake.calls k  false _ A5.out).mono ?_); rintro e w37 ⟨rfl, hb⟩; have n0_ := Aside0.mk (below_step (by repeat (first | (with_reducible first | exact HB.out | apply below_alloc | apply pw_below_drewN | apply below_drew1) | exact HB.out)) hb); clear HB; have HB := n0_; clear n0_; (try clear hb); (try clear hb2); (try clear hk); (try clear hi)))
    repeat (go_quiet (first | (go_at_call 8; (with_reducible refine (baileelaw07_awake.calls k  false _ A5.out).mono ?_); rintro e w37 ⟨rfl, hb⟩; have n0_ := Aside0.mk (below_step (by repeat (first | (with_reducible first | exact HB.out | apply below_alloc | apply pw_below_drewN | apply below_drew1) | exact HB.out)) hb); clear HB; have HB := n0_; clear n0_; (try clear hb); (try clear hb2); (try clear hk); (try clear hi))); try go_wp2_with (first | (go_at_call 8; (with_reducible refine (baileelaw07_awake.calls k  false _ A5.out).mono ?_); rintro e w37 ⟨rfl, hb⟩; have n0_ := Aside0.mk (below_step (by repeat (first | (with_reducible first | exact HB.out | apply below_alloc | apply pw_below_drewN | apply below_drew1) | exact HB.out)) hb); clear HB; have HB := n0_; clear n0_; (try clear hb); (try clear hb2); (try clear hk); (try clear hi))))
    go_ret
    exact ⟨by first | rfl | (simp [errW_none, errW_some] <;> rfl) | (simp [*, errW_none, errW_some] <;> rfl), by repeat (first | (with_reducible first | exact HB.out | apply below_alloc | apply pw_below_drewN | apply below_drew1) | exact HB.out)⟩

/-- THE ONE PURE STATEMENT of baileelaw07_CutterAll: yours. -/
def baileelaw07_CutterAll.Pure : Prop := ∀ (l0 : List Int) (a1 : Int) (a2 : Int) (a3 : Int), l0.length ≤ maxLen → l0.length * 1 ≤ 140737488351232 → (∀ x ∈ l0, (Lit.int .u8 x).wf = true) → (Lit.int .u8 a1).wf = true → (Lit.int .u8 a2).wf = true → (Lit.int .u8 a3).wf = true → ∃ k, baileelaw07_CutterAll.f k l0 a1 a2 a3 = some true
theorem baileelaw07_CutterAll.walk (P : baileelaw07_CutterAll.Pure) (a0 : Option Addr) (len0 cap0 : Nat) (z0 : List Int) (a1 : Int) (a2 : Int) (a3 : Int) (w : World) (w0 : (a0 = none ∧ len0 = 0 ∧ cap0 = 0 ∧ z0 = []) ∨ ∃ x, a0 = some x ∧ len0 ≤ cap0 ∧ cap0 ≤ maxLen ∧ z0.length = cap0 ∧ (∀ i, i < z0.length → w.cell? (x.add i) = some (.int .u8 (z0.getD i 0))) ∧ ∀ n ∈ z0, (Lit.int .u8 n).wf = true) (y0 : len0 * 1 ≤ 140737488351232) (w1 : (Lit.int .u8 a1).wf = true) (w2 : (Lit.int .u8 a2).wf = true) (w3 : (Lit.int .u8 a3).wf = true) :
    Calls Try.prog 4 #[.slice a0 len0 cap0, .int .u8 a1, .int .u8 a2, .int .u8 a3] w fun e w' => e = .returned (.bool true) ∧ Below w.heap.size w w' := by
  obtain ⟨l0, rfl, hr0, hm0, hw0, hc0⟩ := ReadsInt.ofRowC w0
  obtain ⟨k, h⟩ := P l0 a1 a2 a3 hm0 y0 hw0 w1 w2 w3
  refine (baileelaw07_CutterAll.calls k _ _ l0 a1 a2 a3 true w (Kd.C_of_reads (d := (0 : Int)) (h1 := fun _ => rfl) hr0) hc0 h).mono ?_
  rintro e w' ⟨rfl, hd⟩
  exact ⟨rfl, hd⟩

end Go.Proofs.Ytogbalmfojkgnaa.PCut
