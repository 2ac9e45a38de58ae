-- PRINTED anew over substituted functions by hook.py
import Derived.Test.YtogbalmfojkgnaaPCutx0
import Derived.Test.YtogbalmfojkgnaaPCutx1
import Derived.Test.YtogbalmfojkgnaaPCutx2
namespace Go.Proofs.Ytogbalmfojkgnaa.PCut
open Go.RowKit Go.Proofs.YtogbalmfojkgnaaW.PrintWords Go.Proofs.YtogbalmfojkgnaaW.PrintLast Go.Proofs.YtogbalmfojkgnaaW.PrintMore
attribute [local go_sem] max2_int min2_int max_two min_two max_three min_three max_four min_four   -- for this text's walks alone
set_option linter.unusedVariables false
set_option linter.unusedSimpArgs false

/-! ### baileelaw07_CutterAlone: function 7 -/
mutual
def baileelaw07_CutterAlone.j0 : Nat → Int → List (List Int) → List (List Int) → Bool → Option (Bool)
  | 0, _, _, _, _ => none
  | k + 1, x8, x10, x12, x67 => if x67 = true then (some false) else (baileelaw07_CutterAlone.l0 k x8 x10 x12 0)
def baileelaw07_CutterAlone.l0 : Nat → Int → List (List Int) → List (List Int) → Int → Option (Bool)
  | 0, _, _, _, _ => none
  | k + 1, x8, x10, x12, x14 => if x14 < (x10.length : Int) then (if x14 < (wrap64 ((x10.length : Int) - 1)) then (if 0 ≤ x14 then (if ((rd_L2 x10 x14).length : Int) = x8 then (if x14 < (x12.length : Int) then (if (strOfNums (rd_L2 x10 x14)).toList = (strOfNums (rd_L2 x12 x14)).toList then (baileelaw07_CutterAlone.l0 k x8 x10 x12 (wrap64 (x14 + 1))) else (some false)) else (none)) else (some false)) else (none)) else (if 0 ≤ x14 then (if x14 < (x12.length : Int) then (if (strOfNums (rd_L2 x10 x14)).toList = (strOfNums (rd_L2 x12 x14)).toList then (baileelaw07_CutterAlone.l0 k x8 x10 x12 (wrap64 (x14 + 1))) else (some false)) else (none)) else (none))) else (some true)
end
def baileelaw07_CutterAlone.f (k : Nat) (l0 : List Int) (a1 : Int) (a2 : Int) : Option (Bool) := (baileelaw07_awake.f k).bind fun t176 => (if t176 = true then (if (l0.length : Int) > 1000 then (some true) else ((cutter_Pieces.f k l0 (wrap64 ((wrap64 (a1)) + 1)) (wrap64 ((wrap64 (a1)) + 1)) (wrap64 ((wrap64 (Int.tmod a2 24)) + 1))).bind fun bt178 => ((cutter_Pieces.f k l0 (wrap64 ((wrap64 (a1)) + 1)) (wrap64 ((wrap64 (a1)) + 1)) (wrap64 ((wrap64 (Int.tmod a2 24)) + 1))).bind fun bt182 => (if bt178.2 = 0 then (if bt182.2 = 0 then (if (wrap64 ((wrap64 (a1)) + 1)) = 0 then (none) else (if (bt178.1.length : Int) = (wrap64 (Int.tdiv (wrap64 ((wrap64 ((l0.length : Int) + (wrap64 ((wrap64 (a1)) + 1)))) - 1)) (wrap64 ((wrap64 (a1)) + 1)))) then (baileelaw07_CutterAlone.j0 k (wrap64 ((wrap64 (a1)) + 1)) bt178.1 bt182.1 ((bt182.1.length : Int) != (bt178.1.length : Int))) else (baileelaw07_CutterAlone.j0 k (wrap64 ((wrap64 (a1)) + 1)) bt178.1 bt182.1 true))) else (baileelaw07_CutterAlone.j0 k (wrap64 ((wrap64 (a1)) + 1)) bt178.1 bt182.1 true)) else (baileelaw07_CutterAlone.j0 k (wrap64 ((wrap64 (a1)) + 1)) bt178.1 bt182.1 true))))) else (some false))
theorem baileelaw07_CutterAlone.mono_l : ∀ k, (∀ y0 y1 y2 y3, LeO (baileelaw07_CutterAlone.j0 k y0 y1 y2 y3) (baileelaw07_CutterAlone.j0 (k + 1) y0 y1 y2 y3)) ∧ (∀ y0 y1 y2 y3, LeO (baileelaw07_CutterAlone.l0 k y0 y1 y2 y3) (baileelaw07_CutterAlone.l0 (k + 1) y0 y1 y2 y3))
  | 0 => ⟨fun _ _ _ _ r h => by simp [baileelaw07_CutterAlone.j0] at h, fun _ _ _ _ r h => by simp [baileelaw07_CutterAlone.l0] at h⟩
  | k + 1 => by
    obtain ⟨ih0, ih1⟩ := baileelaw07_CutterAlone.mono_l k
    refine ⟨?_, ?_⟩
    · intro y0 y1 y2 y3
      unfold baileelaw07_CutterAlone.j0
      repeat' first
      | (with_reducible exact ih0 _ _ _ _)
      | (with_reducible exact ih1 _ _ _ _)
      | (with_reducible exact baileelaw07_awake.mono _)
      | (with_reducible exact cutter_Pieces.mono _ _ _ _ _)
      | (with_reducible exact LeO.refl _)
      | (with_reducible exact LeO.none _)
      | (with_reducible refine LeO.ite ?_ ?_)
      | (with_reducible refine LeO.bind ?_ (fun _ => ?_))
      | exact ih0 _ _ _ _
      | exact ih1 _ _ _ _
      | exact baileelaw07_awake.mono _
      | exact cutter_Pieces.mono _ _ _ _ _
      | exact LeO.none _
      | refine LeO.ite ?_ ?_
      | refine LeO.bind ?_ (fun _ => ?_)
    · intro y0 y1 y2 y3
      unfold baileelaw07_CutterAlone.l0
      repeat' first
      | (with_reducible exact ih0 _ _ _ _)
      | (with_reducible exact ih1 _ _ _ _)
      | (with_reducible exact baileelaw07_awake.mono _)
      | (with_reducible exact cutter_Pieces.mono _ _ _ _ _)
      | (with_reducible exact LeO.refl _)
      | (with_reducible exact LeO.none _)
      | (with_reducible refine LeO.ite ?_ ?_)
      | (with_reducible refine LeO.bind ?_ (fun _ => ?_))
      | exact ih0 _ _ _ _
      | exact ih1 _ _ _ _
      | exact baileelaw07_awake.mono _
      | exact cutter_Pieces.mono _ _ _ _ _
      | exact LeO.none _
      | refine LeO.ite ?_ ?_
      | refine LeO.bind ?_ (fun _ => ?_)
theorem baileelaw07_CutterAlone.mono : ∀ a0 a1 a2 k, LeO (baileelaw07_CutterAlone.f k a0 a1 a2) (baileelaw07_CutterAlone.f (k + 1) a0 a1 a2) := by
  intro a0 a1 a2 k
  obtain ⟨ih0, ih1⟩ := baileelaw07_CutterAlone.mono_l k
  unfold baileelaw07_CutterAlone.f
  repeat' first
      | (with_reducible exact ih0 _ _ _ _)
      | (with_reducible exact ih1 _ _ _ _)
      | (with_reducible exact baileelaw07_awake.mono _)
      | (with_reducible exact cutter_Pieces.mono _ _ _ _ _)
      | (with_reducible exact LeO.refl _)
      | (with_reducible exact LeO.none _)
      | (with_reducible refine LeO.ite ?_ ?_)
      | (with_reducible refine LeO.bind ?_ (fun _ => ?_))
      | exact ih0 _ _ _ _
      | exact ih1 _ _ _ _
      | exact baileelaw07_awake.mono _
      | exact cutter_Pieces.mono _ _ _ _ _
      | exact LeO.none _
      | refine LeO.ite ?_ ?_
      | refine LeO.bind ?_ (fun _ => ?_)
set_option maxHeartbeats 8000000 in
set_option maxRecDepth 100000 in
theorem baileelaw07_CutterAlone.calls (k : Nat) (A0 : Option Addr) (c0 : Nat) (l0 : List Int) (a1 : Int) (a2 : Int) (r : Bool) (w : World) (hr0 : Kd.C (Kd.int .u8) w A0 l0.length l0) (hc0 : l0.length ≤ c0) (h : baileelaw07_CutterAlone.f k l0 a1 a2 = some r) :
    Calls Try.prog 7 #[.slice A0 l0.length c0, .int .u8 a1, .int .u8 a2] w fun e w' => e = .returned (.bool r) ∧ Below w.heap.size w w' := by
  have hu24 := Try.underlying24
  have HR0 := Aside0.mk hr0
  have HC0 := Aside0.mk hc0
  clear hr0 hc0
  have HB := Aside0.mk (Below.refl w.heap.size w)
  have H : ((baileelaw07_awake.f k).bind fun t176 => (if t176 = true then (if (l0.length : Int) > 1000 then (some true) else ((cutter_Pieces.f k l0 (wrap64 ((wrap64 (a1)) + 1)) (wrap64 ((wrap64 (a1)) + 1)) (wrap64 ((wrap64 (Int.tmod a2 24)) + 1))).bind fun bt178 => ((cutter_Pieces.f k l0 (wrap64 ((wrap64 (a1)) + 1)) (wrap64 ((wrap64 (a1)) + 1)) (wrap64 ((wrap64 (Int.tmod a2 24)) + 1))).bind fun bt182 => (if bt178.2 = 0 then (if bt182.2 = 0 then (if (wrap64 ((wrap64 (a1)) + 1)) = 0 then (none) else (if (bt178.1.length : Int) = (wrap64 (Int.tdiv (wrap64 ((wrap64 ((l0.length : Int) + (wrap64 ((wrap64 (a1)) + 1)))) - 1)) (wrap64 ((wrap64 (a1)) + 1)))) then (baileelaw07_CutterAlone.j0 k (wrap64 ((wrap64 (a1)) + 1)) bt178.1 bt182.1 ((bt182.1.length : Int) != (bt178.1.length : Int))) else (baileelaw07_CutterAlone.j0 k (wrap64 ((wrap64 (a1)) + 1)) bt178.1 bt182.1 true))) else (baileelaw07_CutterAlone.j0 k (wrap64 ((wrap64 (a1)) + 1)) bt178.1 bt182.1 true)) else (baileelaw07_CutterAlone.j0 k (wrap64 ((wrap64 (a1)) + 1)) bt178.1 bt182.1 true))))) else (some false))) = some r := h
  clear h
  replace H := Option.bind_eq_some_iff.mp H
  obtain ⟨t176, A40, H⟩ := H
  replace H : (if t176 = true then (if (l0.length : Int) > 1000 then (some true) else ((cutter_Pieces.f k l0 (wrap64 ((wrap64 (a1)) + 1)) (wrap64 ((wrap64 (a1)) + 1)) (wrap64 ((wrap64 (Int.tmod a2 24)) + 1))).bind fun bt178 => ((cutter_Pieces.f k l0 (wrap64 ((wrap64 (a1)) + 1)) (wrap64 ((wrap64 (a1)) + 1)) (wrap64 ((wrap64 (Int.tmod a2 24)) + 1))).bind fun bt182 => (if bt178.2 = 0 then (if bt182.2 = 0 then (if (wrap64 ((wrap64 (a1)) + 1)) = 0 then (none) else (if (bt178.1.length : Int) = (wrap64 (Int.tdiv (wrap64 ((wrap64 ((l0.length : Int) + (wrap64 ((wrap64 (a1)) + 1)))) - 1)) (wrap64 ((wrap64 (a1)) + 1)))) then (baileelaw07_CutterAlone.j0 k (wrap64 ((wrap64 (a1)) + 1)) bt178.1 bt182.1 ((bt182.1.length : Int) != (bt178.1.length : Int))) else (baileelaw07_CutterAlone.j0 k (wrap64 ((wrap64 (a1)) + 1)) bt178.1 bt182.1 true))) else (baileelaw07_CutterAlone.j0 k (wrap64 ((wrap64 (a1)) + 1)) bt178.1 bt182.1 true)) else (baileelaw07_CutterAlone.j0 k (wrap64 ((wrap64 (a1)) + 1)) bt178.1 bt182.1 true))))) else (some false)) = some r := H
  have A4 := Aside0.mk A40
  clear A40
  by_cases c5 : t176 = true
  · subst c5
    have H1 : (if (l0.length : Int) > 1000 then (some true) else ((cutter_Pieces.f k l0 (wrap64 ((wrap64 (a1)) + 1)) (wrap64 ((wrap64 (a1)) + 1)) (wrap64 ((wrap64 (Int.tmod a2 24)) + 1))).bind fun bt178 => ((cutter_Pieces.f k l0 (wrap64 ((wrap64 (a1)) + 1)) (wrap64 ((wrap64 (a1)) + 1)) (wrap64 ((wrap64 (Int.tmod a2 24)) + 1))).bind fun bt182 => (if bt178.2 = 0 then (if bt182.2 = 0 then (if (wrap64 ((wrap64 (a1)) + 1)) = 0 then (none) else (if (bt178.1.length : Int) = (wrap64 (Int.tdiv (wrap64 ((wrap64 ((l0.length : Int) + (wrap64 ((wrap64 (a1)) + 1)))) - 1)) (wrap64 ((wrap64 (a1)) + 1)))) then (baileelaw07_CutterAlone.j0 k (wrap64 ((wrap64 (a1)) + 1)) bt178.1 bt182.1 ((bt182.1.length : Int) != (bt178.1.length : Int))) else (baileelaw07_CutterAlone.j0 k (wrap64 ((wrap64 (a1)) + 1)) bt178.1 bt182.1 true))) else (baileelaw07_CutterAlone.j0 k (wrap64 ((wrap64 (a1)) + 1)) bt178.1 bt182.1 true)) else (baileelaw07_CutterAlone.j0 k (wrap64 ((wrap64 (a1)) + 1)) bt178.1 bt182.1 true))))) = some r := by rw [if_pos rfl] at H; exact H
    clear H
    have H := H1
    clear H1
    by_cases c6 : (l0.length : Int) > 1000
    · rw [if_pos c6] at H
      have c6b0 : decide (1000 < (l0.length : Int)) = true := decide_eq_true c6
      have c6b1 : decide (1000 < l0.length) = true := decide_eq_true (by omega)
      clear c6
      obtain rfl := Option.some.inj H
      go_enter Try.func7, Try.ntmps7
      go_wp2_with (first | (go_at_call 8; (with_reducible refine (baileelaw07_awake.calls k  true _ A4.out).mono ?_); rintro e w7 ⟨rfl, hb⟩; have n0_ := Aside0.mk (below_step (by repeat (first | (with_reducible first | exact HB.out | apply below_alloc | apply pw_below_drewN | apply below_drew1) | exact HB.out)) hb); clear HB; have HB := n0_; clear n0_; (try clear hb); (try clear hb2); (try clear hk); (try clear hi)))
      repeat (go_quiet (first | (go_at_call 8; (with_reducible refine (baileelaw07_awake.calls k  true _ A4.out).mono ?_); rintro e w7 ⟨rfl, hb⟩; have n0_ := Aside0.mk (below_step (by repeat (first | (with_reducible first | exact HB.out | apply below_alloc | apply pw_below_drewN | apply below_drew1) | exact HB.out)) hb); clear HB; have HB := n0_; clear n0_; (try clear hb); (try clear hb2); (try clear hk); (try clear hi))); try go_wp2_with (first | (go_at_call 8; (with_reducible refine (baileelaw07_awake.calls k  true _ A4.out).mono ?_); rintro e w7 ⟨rfl, hb⟩; have n0_ := Aside0.mk (below_step (by repeat (first | (with_reducible first | exact HB.out | apply below_alloc | apply pw_below_drewN | apply below_drew1) | exact HB.out)) hb); clear HB; have HB := n0_; clear n0_; (try clear hb); (try clear hb2); (try clear hk); (try clear hi))))
      go_ret
      exact ⟨by first | rfl | (simp [errW_none, errW_some] <;> rfl) | (simp [*, errW_none, errW_some] <;> rfl), by repeat (first | (with_reducible first | exact HB.out | apply below_alloc | apply pw_below_drewN | apply below_drew1) | exact HB.out)⟩
    · rw [if_neg c6] at H
      have c6b0 : decide (1000 < (l0.length : Int)) = false := decide_eq_false c6
      have c6b1 : decide (1000 < l0.length) = false := decide_eq_false (by omega)
      clear c6
      replace H := Option.bind_eq_some_iff.mp H
      obtain ⟨⟨t178, t181⟩, A80, H⟩ := H
      replace H : ((cutter_Pieces.f k l0 (wrap64 ((wrap64 (a1)) + 1)) (wrap64 ((wrap64 (a1)) + 1)) (wrap64 ((wrap64 (Int.tmod a2 24)) + 1))).bind fun bt182 => (if t181 = 0 then (if bt182.2 = 0 then (if (wrap64 ((wrap64 (a1)) + 1)) = 0 then (none) else (if (t178.length : Int) = (wrap64 (Int.tdiv (wrap64 ((wrap64 ((l0.length : Int) + (wrap64 ((wrap64 (a1)) + 1)))) - 1)) (wrap64 ((wrap64 (a1)) + 1)))) then (baileelaw07_CutterAlone.j0 k (wrap64 ((wrap64 (a1)) + 1)) t178 bt182.1 ((bt182.1.length : Int) != (t178.length : Int))) else (baileelaw07_CutterAlone.j0 k (wrap64 ((wrap64 (a1)) + 1)) t178 bt182.1 true))) else (baileelaw07_CutterAlone.j0 k (wrap64 ((wrap64 (a1)) + 1)) t178 bt182.1 true)) else (baileelaw07_CutterAlone.j0 k (wrap64 ((wrap64 (a1)) + 1)) t178 bt182.1 true))) = some r := H
      have A8 := Aside0.mk A80
      clear A80
      replace H := Option.bind_eq_some_iff.mp H
      obtain ⟨⟨t182, t185⟩, A90, H⟩ := H
      replace H : (if t181 = 0 then (if t185 = 0 then (if (wrap64 ((wrap64 (a1)) + 1)) = 0 then (none) else (if (t178.length : Int) = (wrap64 (Int.tdiv (wrap64 ((wrap64 ((l0.length : Int) + (wrap64 ((wrap64 (a1)) + 1)))) - 1)) (wrap64 ((wrap64 (a1)) + 1)))) then (baileelaw07_CutterAlone.j0 k (wrap64 ((wrap64 (a1)) + 1)) t178 t182 ((t182.length : Int) != (t178.length : Int))) else (baileelaw07_CutterAlone.j0 k (wrap64 ((wrap64 (a1)) + 1)) t178 t182 true))) else (baileelaw07_CutterAlone.j0 k (wrap64 ((wrap64 (a1)) + 1)) t178 t182 true)) else (baileelaw07_CutterAlone.j0 k (wrap64 ((wrap64 (a1)) + 1)) t178 t182 true)) = some r := H
      have A9 := Aside0.mk A90
      clear A90
      have HC10 := Aside0.mk H
      clear H
      go_enter Try.func7, Try.ntmps7
      go_upto_region 10 with (first | (go_at_call 8; (with_reducible refine (baileelaw07_awake.calls k  true _ A4.out).mono ?_); rintro e w11 ⟨rfl, hb⟩; have n0_ := Aside0.mk (below_step (by repeat (first | (with_reducible first | exact HB.out | apply below_alloc | apply pw_below_drewN | apply below_drew1) | exact HB.out)) hb); clear HB; have HB := n0_; clear n0_; (try clear hb); (try clear hb2); (try clear hk); (try clear hi)) | ((with_reducible refine gate_dst (N := 9) rfl ?_); (try (refine gate_guard (by rfl) ?_; dsimp only)); refine box_event ?hg (N := 9) ?hd (cs := #[.int .i64 0, .int .i64 0, .int .i64 0]) (t := 24) ?hr ?_; (case hd => rfl); (case hg => rfl); (case hr => first | (go_simp; done) | (go_simp; rfl)); intro gb177 hg w12 hbox hb; have n0_ := Aside0.mk (below_step (by repeat (first | (with_reducible first | exact HB.out | apply below_alloc | apply pw_below_drewN | apply below_drew1) | exact HB.out)) hb); have n1_ := Aside0.mk (hbox); have n2_ := Aside0.mk ((by rw [hg]; exact (below_size (by repeat (first | (with_reducible first | exact HB.out | apply below_alloc | apply pw_below_drewN | apply below_drew1) | exact HB.out))) : w.heap.size ≤ gb177)); have n3_ := Aside0.mk ((by rw [hg]; exact (below_size (by repeat (first | (with_reducible first | exact HB.out | apply below_alloc | apply pw_below_drewN | apply below_drew1) | exact HB.out))) : w.heap.size ≤ gb177)); clear HB; have HB := n0_; have BK177 := n1_; have GW177 := n2_; have GE177 := n3_; clear n0_ n1_ n2_ n3_; clear hb hbox hg; have hcz13_0 : w12.cell? ⟨gb177, 0, none⟩ = some (.int .i64 0) := (blk_cell BK177.out 0).trans rfl; have hcz13_1 : w12.cell? ⟨gb177, 1, none⟩ = some (.int .i64 0) := (blk_cell BK177.out 1).trans rfl; have hcz13_2 : w12.cell? ⟨gb177, 2, none⟩ = some (.int .i64 0) := (blk_cell BK177.out 2).trans rfl; have hfz13_0 := blk_frozen BK177.out 0; have hfz13_1 := blk_frozen BK177.out 1; have hfz13_2 := blk_frozen BK177.out 2) | (go_at_call 10; (with_reducible refine (cutter_Pieces.calls k _ _ l0 (wrap64 ((wrap64 (a1)) + 1)) (wrap64 ((wrap64 (a1)) + 1)) (wrap64 ((wrap64 (Int.tmod a2 24)) + 1)) t178 t181 _ ?side1 ?side2 A8.out).mono ?_); (case side1 => exact Kd.C_below HR0.out (by repeat (first | (with_reducible first | exact HB.out | apply below_alloc | apply pw_below_drewN | apply below_drew1 | refine below_set ?_ GE177.out) | exact HB.out))); (case side2 => exact HC0.out); rintro e w14 ⟨v179, rfl, ho0, hb⟩; have n0_ := Aside0.mk (Kd.S_lower ho0 (below_size (by repeat (first | (with_reducible first | exact HB.out | apply below_alloc | apply pw_below_drewN | apply below_drew1 | refine below_set ?_ GE177.out) | exact HB.out)))); have n1_ := Aside0.mk (blk_below (g := gb177) (o := .cells #[.int .i64 (wrap64 ((wrap64 (a1)) + 1)), .int .i64 (wrap64 ((wrap64 (a1)) + 1)), .int .i64 (wrap64 ((wrap64 (Int.tmod a2 24)) + 1))] 24 (0, 0)) (by (with_reducible repeat (first | refine blk_drewN ?_ _ | refine blk_drew ?_ | refine blk_alloc ?_ _)); refine blk_put (cs := #[.int .i64 (wrap64 ((wrap64 (a1)) + 1)), .int .i64 (wrap64 ((wrap64 (a1)) + 1)), .int .i64 0]) ?_ 2 _ rfl; (with_reducible repeat (first | refine blk_drewN ?_ _ | refine blk_drew ?_ | refine blk_alloc ?_ _)); refine blk_put (cs := #[.int .i64 (wrap64 ((wrap64 (a1)) + 1)), .int .i64 0, .int .i64 0]) ?_ 1 _ rfl; (with_reducible repeat (first | refine blk_drewN ?_ _ | refine blk_drew ?_ | refine blk_alloc ?_ _)); refine blk_put (cs := #[.int .i64 0, .int .i64 0, .int .i64 0]) ?_ 0 _ rfl; (with_reducible repeat (first | refine blk_drewN ?_ _ | refine blk_drew ?_ | refine blk_alloc ?_ _)); exact BK177.out) hb); have n2_ := Aside0.mk (below_step (by repeat (first | (with_reducible first | exact HB.out | apply below_alloc | apply pw_below_drewN | apply below_drew1 | refine below_set ?_ GE177.out) | exact HB.out)) hb); clear BK177; clear HB; have HO180 := n0_; have BK177 := n1_; have HB := n2_; clear n0_ n1_ n2_; (try clear hb); (try clear hb2); (try clear hk); (try clear hi); (try clear ho0); have hcz15_0 : w14.cell? ⟨gb177, 0, none⟩ = some (.int .i64 (wrap64 ((wrap64 (a1)) + 1))) := (blk_cell BK177.out 0).trans rfl; have hcz15_1 : w14.cell? ⟨gb177, 1, none⟩ = some (.int .i64 (wrap64 ((wrap64 (a1)) + 1))) := (blk_cell BK177.out 1).trans rfl; have hcz15_2 : w14.cell? ⟨gb177, 2, none⟩ = some (.int .i64 (wrap64 ((wrap64 (Int.tmod a2 24)) + 1))) := (blk_cell BK177.out 2).trans rfl; have hfz15_0 := blk_frozen BK177.out 0; have hfz15_1 := blk_frozen BK177.out 1; have hfz15_2 := blk_frozen BK177.out 2) | (go_at_call 10; (with_reducible refine (cutter_Pieces.calls k _ _ l0 (wrap64 ((wrap64 (a1)) + 1)) (wrap64 ((wrap64 (a1)) + 1)) (wrap64 ((wrap64 (Int.tmod a2 24)) + 1)) t182 t185 _ ?side1 ?side2 A9.out).mono ?_); (case side1 => repeat (first | exact (Kd.C_below HR0.out HB.out) | (with_reducible refine Kd.C_alloc ?_ _) | (with_reducible refine Kd.C_drewN ?_ _) | (with_reducible refine Kd.C_drew ?_))); (case side2 => exact HC0.out); rintro e w16 ⟨v183, rfl, ho0, hb⟩; have n0_ := Aside0.mk (Kd.S_elder' (by (with_reducible repeat (first | apply Kd.S_alloc | apply Kd.S_drewN | apply Kd.S_drew)); exact HO180.out) (Kd.S_base ho0) hb); have n1_ := Aside0.mk (Kd.S_lower (Kd.S_new' ho0 (Kd.S_lt (by (with_reducible repeat (first | apply Kd.S_alloc | apply Kd.S_drewN | apply Kd.S_drew)); exact HO180.out))) (below_size (by repeat (first | (with_reducible first | exact HB.out | apply below_alloc | apply pw_below_drewN | apply below_drew1 | refine below_set ?_ GE177.out) | exact HB.out)))); have n2_ := Aside0.mk (blk_below (g := gb177) (o := .cells #[.int .i64 (wrap64 ((wrap64 (a1)) + 1)), .int .i64 (wrap64 ((wrap64 (a1)) + 1)), .int .i64 (wrap64 ((wrap64 (Int.tmod a2 24)) + 1))] 24 (0, 0)) (by (with_reducible repeat (first | refine blk_drewN ?_ _ | refine blk_drew ?_ | refine blk_alloc ?_ _)); exact BK177.out) hb); have n3_ := Aside0.mk (below_step (by repeat (first | (with_reducible first | exact HB.out | apply below_alloc | apply pw_below_drewN | apply below_drew1 | refine below_set ?_ GE177.out) | exact HB.out)) hb); clear HO180; clear BK177; clear HB; have HO180 := n0_; have HO184 := n1_; have BK177 := n2_; have HB := n3_; clear n0_ n1_ n2_ n3_; (try clear hb); (try clear hb2); (try clear hk); (try clear hi); (try clear ho0)))
      repeat (go_quiet (first | (go_at_call 8; (with_reducible refine (baileelaw07_awake.calls k  true _ A4.out).mono ?_); rintro e w11 ⟨rfl, hb⟩; have n0_ := Aside0.mk (below_step (by repeat (first | (with_reducible first | exact HB.out | apply below_alloc | apply pw_below_drewN | apply below_drew1) | exact HB.out)) hb); clear HB; have HB := n0_; clear n0_; (try clear hb); (try clear hb2); (try clear hk); (try clear hi)) | ((with_reducible refine gate_dst (N := 9) rfl ?_); (try (refine gate_guard (by rfl) ?_; dsimp only)); refine box_event ?hg (N := 9) ?hd (cs := #[.int .i64 0, .int .i64 0, .int .i64 0]) (t := 24) ?hr ?_; (case hd => rfl); (case hg => rfl); (case hr => first | (go_simp; done) | (go_simp; rfl)); intro gb177 hg w12 hbox hb; have n0_ := Aside0.mk (below_step (by repeat (first | (with_reducible first | exact HB.out | apply below_alloc | apply pw_below_drewN | apply below_drew1) | exact HB.out)) hb); have n1_ := Aside0.mk (hbox); have n2_ := Aside0.mk ((by rw [hg]; exact (below_size (by repeat (first | (with_reducible first | exact HB.out | apply below_alloc | apply pw_below_drewN | apply below_drew1) | exact HB.out))) : w.heap.size ≤ gb177)); have n3_ := Aside0.mk ((by rw [hg]; exact (below_size (by repeat (first | (with_reducible first | exact HB.out | apply below_alloc | apply pw_below_drewN | apply below_drew1) | exact HB.out))) : w.heap.size ≤ gb177)); clear HB; have HB := n0_; have BK177 := n1_; have GW177 := n2_; have GE177 := n3_; clear n0_ n1_ n2_ n3_; clear hb hbox hg; have hcz13_0 : w12.cell? ⟨gb177, 0, none⟩ = some (.int .i64 0) := (blk_cell BK177.out 0).trans rfl; have hcz13_1 : w12.cell? ⟨gb177, 1, none⟩ = some (.int .i64 0) := (blk_cell BK177.out 1).trans rfl; have hcz13_2 : w12.cell? ⟨gb177, 2, none⟩ = some (.int .i64 0) := (blk_cell BK177.out 2).trans rfl; have hfz13_0 := blk_frozen BK177.out 0; have hfz13_1 := blk_frozen BK177.out 1; have hfz13_2 := blk_frozen BK177.out 2) | (go_at_call 10; (with_reducible refine (cutter_Pieces.calls k _ _ l0 (wrap64 ((wrap64 (a1)) + 1)) (wrap64 ((wrap64 (a1)) + 1)) (wrap64 ((wrap64 (Int.tmod a2 24)) + 1)) t178 t181 _ ?side1 ?side2 A8.out).mono ?_); (case side1 => exact Kd.C_below HR0.out (by repeat (first | (with_reducible first | exact HB.out | apply below_alloc | apply pw_below_drewN | apply below_drew1 | refine below_set ?_ GE177.out) | exact HB.out))); (case side2 => exact HC0.out); rintro e w14 ⟨v179, rfl, ho0, hb⟩; have n0_ := Aside0.mk (Kd.S_lower ho0 (below_size (by repeat (first | (with_reducible first | exact HB.out | apply below_alloc | apply pw_below_drewN | apply below_drew1 | refine below_set ?_ GE177.out) | exact HB.out)))); have n1_ := Aside0.mk (blk_below (g := gb177) (o := .cells #[.int .i64 (wrap64 ((wrap64 (a1)) + 1)), .int .i64 (wrap64 ((wrap64 (a1)) + 1)), .int .i64 (wrap64 ((wrap64 (Int.tmod a2 24)) + 1))] 24 (0, 0)) (by (with_reducible repeat (first | refine blk_drewN ?_ _ | refine blk_drew ?_ | refine blk_alloc ?_ _)); refine blk_put (cs := #[.int .i64 (wrap64 ((wrap64 (a1)) + 1)), .int .i64 (wrap64 ((wrap64 (a1)) + 1)), .int .i64 0]) ?_ 2 _ rfl; (with_reducible repeat (first | refine blk_drewN ?_ _ | refine blk_drew ?_ | refine blk_alloc ?_ _)); refine blk_put (cs := #[.int .i64 (wrap64 ((wrap64 (a1)) + 1)), .int .i64 0, .int .i64 0]) ?_ 1 _ rfl; (with_reducible repeat (first | refine blk_drewN ?_ _ | refine blk_drew ?_ | refine blk_alloc ?_ _)); refine blk_put (cs := #[.int .i64 0, .int .i64 0, .int .i64 0]) ?_ 0 _ rfl; (with_reducible repeat (first | refine blk_drewN ?_ _ | refine blk_drew ?_ | refine blk_alloc ?_ _)); exact BK177.out) hb); have n2_ := Aside0.mk (below_step (by repeat (first | (with_reducible first | exact HB.out | apply below_alloc | apply pw_below_drewN | apply below_drew1 | refine below_set ?_ GE177.out) | exact HB.out)) hb); clear BK177; clear HB; have HO180 := n0_; have BK177 := n1_; have HB := n2_; clear n0_ n1_ n2_; (try clear hb); (try clear hb2); (try clear hk); (try clear hi); (try clear ho0); have hcz15_0 : w14.cell? ⟨gb177, 0, none⟩ = some (.int .i64 (wrap64 ((wrap64 (a1)) + 1))) := (blk_cell BK177.out 0).trans rfl; have hcz15_1 : w14.cell? ⟨gb177, 1, none⟩ = some (.int .i64 (wrap64 ((wrap64 (a1)) + 1))) := (blk_cell BK177.out 1).trans rfl; have hcz15_2 : w14.cell? ⟨gb177, 2, none⟩ = some (.int .i64 (wrap64 ((wrap64 (Int.tmod a2 24)) + 1))) := (blk_cell BK177.out 2).trans rfl; have hfz15_0 := blk_frozen BK177.out 0; have hfz15_1 := blk_frozen BK177.out 1; have hfz15_2 := blk_frozen BK177.out 2) | (go_at_call 10; (with_reducible refine (cutter_Pieces.calls k _ _ l0 (wrap64 ((wrap64 (a1)) + 1)) (wrap64 ((wrap64 (a1)) + 1)) (wrap64 ((wrap64 (Int.tmod a2 24)) + 1)) t182 t185 _ ?side1 ?side2 A9.out).mono ?_); (case side1 => repeat (first | exact (Kd.C_below HR0.out HB.out) | (with_reducible refine Kd.C_alloc ?_ _) | (with_reducible refine Kd.C_drewN ?_ _) | (with_reducible refine Kd.C_drew ?_))); (case side2 => exact HC0.out); rintro e w16 ⟨v183, rfl, ho0, hb⟩; have n0_ := Aside0.mk (Kd.S_elder' (by (with_reducible repeat (first | apply Kd.S_alloc | apply Kd.S_drewN | apply Kd.S_drew)); exact HO180.out) (Kd.S_base ho0) hb); have n1_ := Aside0.mk (Kd.S_lower (Kd.S_new' ho0 (Kd.S_lt (by (with_reducible repeat (first | apply Kd.S_alloc | apply Kd.S_drewN | apply Kd.S_drew)); exact HO180.out))) (below_size (by repeat (first | (with_reducible first | exact HB.out | apply below_alloc | apply pw_below_drewN | apply below_drew1 | refine below_set ?_ GE177.out) | exact HB.out)))); have n2_ := Aside0.mk (blk_below (g := gb177) (o := .cells #[.int .i64 (wrap64 ((wrap64 (a1)) + 1)), .int .i64 (wrap64 ((wrap64 (a1)) + 1)), .int .i64 (wrap64 ((wrap64 (Int.tmod a2 24)) + 1))] 24 (0, 0)) (by (with_reducible repeat (first | refine blk_drewN ?_ _ | refine blk_drew ?_ | refine blk_alloc ?_ _)); exact BK177.out) hb); have n3_ := Aside0.mk (below_step (by repeat (first | (with_reducible first | exact HB.out | apply below_alloc | apply pw_below_drewN | apply below_drew1 | refine below_set ?_ GE177.out) | exact HB.out)) hb); clear HO180; clear BK177; clear HB; have HO180 := n0_; have HO184 := n1_; have BK177 := n2_; have HB := n3_; clear n0_ n1_ n2_ n3_; (try clear hb); (try clear hb2); (try clear hk); (try clear hi); (try clear ho0))); go_upto_region 10 with (first | (go_at_call 8; (with_reducible refine (baileelaw07_awake.calls k  true _ A4.out).mono ?_); rintro e w11 ⟨rfl, hb⟩; have n0_ := Aside0.mk (below_step (by repeat (first | (with_reducible first | exact HB.out | apply below_alloc | apply pw_below_drewN | apply below_drew1) | exact HB.out)) hb); clear HB; have HB := n0_; clear n0_; (try clear hb); (try clear hb2); (try clear hk); (try clear hi)) | ((with_reducible refine gate_dst (N := 9) rfl ?_); (try (refine gate_guard (by rfl) ?_; dsimp only)); refine box_event ?hg (N := 9) ?hd (cs := #[.int .i64 0, .int .i64 0, .int .i64 0]) (t := 24) ?hr ?_; (case hd => rfl); (case hg => rfl); (case hr => first | (go_simp; done) | (go_simp; rfl)); intro gb177 hg w12 hbox hb; have n0_ := Aside0.mk (below_step (by repeat (first | (with_reducible first | exact HB.out | apply below_alloc | apply pw_below_drewN | apply below_drew1) | exact HB.out)) hb); have n1_ := Aside0.mk (hbox); have n2_ := Aside0.mk ((by rw [hg]; exact (below_size (by repeat (first | (with_reducible first | exact HB.out | apply below_alloc | apply pw_below_drewN | apply below_drew1) | exact HB.out))) : w.heap.size ≤ gb177)); have n3_ := Aside0.mk ((by rw [hg]; exact (below_size (by repeat (first | (with_reducible first | exact HB.out | apply below_alloc | apply pw_below_drewN | apply below_drew1) | exact HB.out))) : w.heap.size ≤ gb177)); clear HB; have HB := n0_; have BK177 := n1_; have GW177 := n2_; have GE177 := n3_; clear n0_ n1_ n2_ n3_; clear hb hbox hg; have hcz13_0 : w12.cell? ⟨gb177, 0, none⟩ = some (.int .i64 0) := (blk_cell BK177.out 0).trans rfl; have hcz13_1 : w12.cell? ⟨gb177, 1, none⟩ = some (.int .i64 0) := (blk_cell BK177.out 1).trans rfl; have hcz13_2 : w12.cell? ⟨gb177, 2, none⟩ = some (.int .i64 0) := (blk_cell BK177.out 2).trans rfl; have hfz13_0 := blk_frozen BK177.out 0; have hfz13_1 := blk_frozen BK177.out 1; have hfz13_2 := blk_frozen BK177.out 2) | (go_at_call 10; (with_reducible refine (cutter_Pieces.calls k _ _ l0 (wrap64 ((wrap64 (a1)) + 1)) (wrap64 ((wrap64 (a1)) + 1)) (wrap64 ((wrap64 (Int.tmod a2 24)) + 1)) t178 t181 _ ?side1 ?side2 A8.out).mono ?_); (case side1 => exact Kd.C_below HR0.out (by repeat (first | (with_reducible first | exact HB.out | apply below_alloc | apply pw_below_drewN | apply below_drew1 | refine below_set ?_ GE177.out) | exact HB.out))); (case side2 => exact HC0.out); rintro e w14 ⟨v179, rfl, ho0, hb⟩; have n0_ := Aside0.mk (Kd.S_lower ho0 (below_size (by repeat (first | (with_reducible first | exact HB.out | apply below_alloc | apply pw_below_drewN | apply below_drew1 | refine below_set ?_ GE177.out) | exact HB.out)))); have n1_ := Aside0.mk (blk_below (g := gb177) (o := .cells #[.int .i64 (wrap64 ((wrap64 (a1)) + 1)), .int .i64 (wrap64 ((wrap64 (a1)) + 1)), .int .i64 (wrap64 ((wrap64 (Int.tmod a2 24)) + 1))] 24 (0, 0)) (by (with_reducible repeat (first | refine blk_drewN ?_ _ | refine blk_drew ?_ | refine blk_alloc ?_ _)); refine blk_put (cs := #[.int .i64 (wrap64 ((wrap64 (a1)) + 1)), .int .i64 (wrap64 ((wrap64 (a1)) + 1)), .int .i64 0]) ?_ 2 _ rfl; (with_reducible repeat (first | refine blk_drewN ?_ _ | refine blk_drew ?_ | refine blk_alloc ?_ _)); refine blk_put (cs := #[.int .i64 (wrap64 ((wrap64 (a1)) + 1)), .int .i64 0, .int .i64 0]) ?_ 1 _ rfl; (with_reducible repeat (first | refine blk_drewN ?_ _ | refine blk_drew ?_ | refine blk_alloc ?_ _)); refine blk_put (cs := #[.int .i64 0, .int .i64 0, .int .i64 0]) ?_ 0 _ rfl; (with_reducible repeat (first | refine blk_drewN ?_ _ | refine blk_drew ?_ | refine blk_alloc ?_ _)); exact BK177.out) hb); have n2_ := Aside0.mk (below_step (by repeat (first | (with_reducible first | exact HB.out | apply below_alloc | apply pw_below_drewN | apply below_drew1 | refine below_set ?_ GE177.out) | exact HB.out)) hb); clear BK177; clear HB; have HO180 := n0_; have BK177 := n1_; have HB := n2_; clear n0_ n1_ n2_; (try clear hb); (try clear hb2); (try clear hk); (try clear hi); (try clear ho0); have hcz15_0 : w14.cell? ⟨gb177, 0, none⟩ = some (.int .i64 (wrap64 ((wrap64 (a1)) + 1))) := (blk_cell BK177.out 0).trans rfl; have hcz15_1 : w14.cell? ⟨gb177, 1, none⟩ = some (.int .i64 (wrap64 ((wrap64 (a1)) + 1))) := (blk_cell BK177.out 1).trans rfl; have hcz15_2 : w14.cell? ⟨gb177, 2, none⟩ = some (.int .i64 (wrap64 ((wrap64 (Int.tmod a2 24)) + 1))) := (blk_cell BK177.out 2).trans rfl; have hfz15_0 := blk_frozen BK177.out 0; have hfz15_1 := blk_frozen BK177.out 1; have hfz15_2 := blk_frozen BK177.out 2) | (go_at_call 10; (with_reducible refine (cutter_Pieces.calls k _ _ l0 (wrap64 ((wrap64 (a1)) + 1)) (wrap64 ((wrap64 (a1)) + 1)) (wrap64 ((wrap64 (Int.tmod a2 24)) + 1)) t182 t185 _ ?side1 ?side2 A9.out).mono ?_); (case side1 => repeat (first | exact (Kd.C_below HR0.out HB.out) | (with_reducible refine Kd.C_alloc ?_ _) | (with_reducible refine Kd.C_drewN ?_ _) | (with_reducible refine Kd.C_drew ?_))); (case side2 => exact HC0.out); rintro e w16 ⟨v183, rfl, ho0, hb⟩; have n0_ := Aside0.mk (Kd.S_elder' (by (with_reducible repeat (first | apply Kd.S_alloc | apply Kd.S_drewN | apply Kd.S_drew)); exact HO180.out) (Kd.S_base ho0) hb); have n1_ := Aside0.mk (Kd.S_lower (Kd.S_new' ho0 (Kd.S_lt (by (with_reducible repeat (first | apply Kd.S_alloc | apply Kd.S_drewN | apply Kd.S_drew)); exact HO180.out))) (below_size (by repeat (first | (with_reducible first | exact HB.out | apply below_alloc | apply pw_below_drewN | apply below_drew1 | refine below_set ?_ GE177.out) | exact HB.out)))); have n2_ := Aside0.mk (blk_below (g := gb177) (o := .cells #[.int .i64 (wrap64 ((wrap64 (a1)) + 1)), .int .i64 (wrap64 ((wrap64 (a1)) + 1)), .int .i64 (wrap64 ((wrap64 (Int.tmod a2 24)) + 1))] 24 (0, 0)) (by (with_reducible repeat (first | refine blk_drewN ?_ _ | refine blk_drew ?_ | refine blk_alloc ?_ _)); exact BK177.out) hb); have n3_ := Aside0.mk (below_step (by repeat (first | (with_reducible first | exact HB.out | apply below_alloc | apply pw_below_drewN | apply below_drew1 | refine below_set ?_ GE177.out) | exact HB.out)) hb); clear HO180; clear BK177; clear HB; have HO180 := n0_; have HO184 := n1_; have BK177 := n2_; have HB := n3_; clear n0_ n1_ n2_ n3_; (try clear hb); (try clear hb2); (try clear hk); (try clear hi); (try clear ho0))))
      (try simp only [Act.put, List.setIfInBounds_toArray, List.set_cons_zero, List.set_cons_succ])
      go_cut [67] (fun v67 wc => ∃ (kq : Nat) (x67_9 : Bool), v67 = .bool x67_9 ∧ Aside0 (baileelaw07_CutterAlone.j0 kq (wrap64 ((wrap64 (a1)) + 1)) t178 t182 x67_9 = some r) ∧ Aside0 (kq ≤ k) ∧ Aside0 (Kd.S (Kd.slice 5 (Kd.int .u8)) 22 wc w.heap.size (fun k_ => some k_ ≠ (v183 : Value).ownBlock) v179 t178) ∧ Aside0 (Kd.S (Kd.slice 5 (Kd.int .u8)) 22 wc w.heap.size (fun k_ => some k_ ≠ (v179 : Value).ownBlock) v183 t182) ∧ Aside0 (wc.heap[gb177]? = some (.cells #[.int .i64 (wrap64 ((wrap64 (a1)) + 1)), .int .i64 (wrap64 ((wrap64 (a1)) + 1)), .int .i64 (wrap64 ((wrap64 (Int.tmod a2 24)) + 1))] 24 (0, 0))) ∧ Aside0 (Below w.heap.size w wc))
      case first =>
        have H := HC10.out
        clear HC10
        by_cases c17 : t181 = 0
        · rw [if_pos c17] at H
          have c17b0 : (t181 == 0) = true := beq_iff_eq.mpr c17
          have c17b1 : (t181 != 0) = false := bne_eq_false_iff_eq.mpr c17
          clear c17
          (first | rw [c17b0] | (simp only [i64_w, i32_w]; rw [c17b0]) | skip)
          by_cases c18 : t185 = 0
          · rw [if_pos c18] at H
            have c18b0 : (t185 == 0) = true := beq_iff_eq.mpr c18
            have c18b1 : (t185 != 0) = false := bne_eq_false_iff_eq.mpr c18
            clear c18
            by_cases c19 : (wrap64 ((wrap64 (a1)) + 1)) = 0
            · rw [if_pos c19] at H
              exact absurd H (by simp)
            · rw [if_neg c19] at H
              have c19b0 : ((wrap64 ((wrap64 (a1)) + 1)) == 0) = false := beq_eq_false_iff_ne.mpr c19
              have c19b1 : ((wrap64 ((wrap64 (a1)) + 1)) != 0) = true := bne_iff_ne.mpr c19
              by_cases c20 : (t178.length : Int) = (wrap64 (Int.tdiv (wrap64 ((wrap64 ((l0.length : Int) + (wrap64 ((wrap64 (a1)) + 1)))) - 1)) (wrap64 ((wrap64 (a1)) + 1))))
              · rw [if_pos c20] at H
                have c20b0 : ((t178.length : Int) == (wrap64 (Int.tdiv (wrap64 ((wrap64 ((l0.length : Int) + (wrap64 ((wrap64 (a1)) + 1)))) - 1)) (wrap64 ((wrap64 (a1)) + 1))))) = true := beq_iff_eq.mpr c20
                have c20b1 : ((t178.length : Int) != (wrap64 (Int.tdiv (wrap64 ((wrap64 ((l0.length : Int) + (wrap64 ((wrap64 (a1)) + 1)))) - 1)) (wrap64 ((wrap64 (a1)) + 1))))) = false := bne_eq_false_iff_eq.mpr c20
                clear c20
                have H' := Aside0.mk H
                clear H
                obtain ⟨Ao21, co21, eo21⟩ := Kd.S_slice HO180.out
                subst eo21
                obtain ⟨Ao22, co22, eo22⟩ := Kd.S_slice HO184.out
                subst eo22
                go_wp2
                repeat (go_quiet (fail); try go_wp2)
                go_meet
                case rel => exact ⟨_, (((t182.length : Int) != (t178.length : Int))), (by first | rfl | (simp; done) | (simp [*]; done)), H', ⟨by first | omega | exact Nat.le_refl _⟩, ⟨by (with_reducible repeat (first | apply Kd.S_alloc | apply Kd.S_drewN | apply Kd.S_drew)); exact Kd.S_mono HO180.out (fun _ hk => hk.2)⟩, ⟨by (with_reducible repeat (first | apply Kd.S_alloc | apply Kd.S_drewN | apply Kd.S_drew)); exact Kd.S_mono HO184.out (fun _ hk => hk.2)⟩, ⟨by (with_reducible repeat (first | refine blk_drewN ?_ _ | refine blk_drew ?_ | refine blk_alloc ?_ _)); exact BK177.out⟩, ⟨by repeat (first | (with_reducible first | exact HB.out | apply below_alloc | apply pw_below_drewN | apply below_drew1 | refine below_set ?_ GE177.out) | exact HB.out)⟩⟩
              · rw [if_neg c20] at H
                have c20b0 : ((t178.length : Int) == (wrap64 (Int.tdiv (wrap64 ((wrap64 ((l0.length : Int) + (wrap64 ((wrap64 (a1)) + 1)))) - 1)) (wrap64 ((wrap64 (a1)) + 1))))) = false := beq_eq_false_iff_ne.mpr c20
                have c20b1 : ((t178.length : Int) != (wrap64 (Int.tdiv (wrap64 ((wrap64 ((l0.length : Int) + (wrap64 ((wrap64 (a1)) + 1)))) - 1)) (wrap64 ((wrap64 (a1)) + 1))))) = true := bne_iff_ne.mpr c20
                have H' := Aside0.mk H
                clear H
                obtain ⟨Ao23, co23, eo23⟩ := Kd.S_slice HO180.out
                subst eo23
                go_wp2
                repeat (go_quiet (fail); try go_wp2)
                go_meet
                case rel => exact ⟨_, (true), (by first | rfl | (simp; done) | (simp [*]; done)), H', ⟨by first | omega | exact Nat.le_refl _⟩, ⟨by (with_reducible repeat (first | apply Kd.S_alloc | apply Kd.S_drewN | apply Kd.S_drew)); exact Kd.S_mono HO180.out (fun _ hk => hk.2)⟩, ⟨by (with_reducible repeat (first | apply Kd.S_alloc | apply Kd.S_drewN | apply Kd.S_drew)); exact Kd.S_mono HO184.out (fun _ hk => hk.2)⟩, ⟨by (with_reducible repeat (first | refine blk_drewN ?_ _ | refine blk_drew ?_ | refine blk_alloc ?_ _)); exact BK177.out⟩, ⟨by repeat (first | (with_reducible first | exact HB.out | apply below_alloc | apply pw_below_drewN | apply below_drew1 | refine below_set ?_ GE177.out) | exact HB.out)⟩⟩
          · rw [if_neg c18] at H
            have c18b0 : (t185 == 0) = false := beq_eq_false_iff_ne.mpr c18
            have c18b1 : (t185 != 0) = true := bne_iff_ne.mpr c18
            have H' := Aside0.mk H
            clear H
            go_wp2
            repeat (go_quiet (fail); try go_wp2)
            go_meet
            case rel => exact ⟨_, (true), (by first | rfl | (simp; done) | (simp [*]; done)), H', ⟨by first | omega | exact Nat.le_refl _⟩, ⟨by (with_reducible repeat (first | apply Kd.S_alloc | apply Kd.S_drewN | apply Kd.S_drew)); exact Kd.S_mono HO180.out (fun _ hk => hk.2)⟩, ⟨by (with_reducible repeat (first | apply Kd.S_alloc | apply Kd.S_drewN | apply Kd.S_drew)); exact Kd.S_mono HO184.out (fun _ hk => hk.2)⟩, ⟨by (with_reducible repeat (first | refine blk_drewN ?_ _ | refine blk_drew ?_ | refine blk_alloc ?_ _)); exact BK177.out⟩, ⟨by repeat (first | (with_reducible first | exact HB.out | apply below_alloc | apply pw_below_drewN | apply below_drew1 | refine below_set ?_ GE177.out) | exact HB.out)⟩⟩
        · rw [if_neg c17] at H
          have c17b0 : (t181 == 0) = false := beq_eq_false_iff_ne.mpr c17
          have c17b1 : (t181 != 0) = true := bne_iff_ne.mpr c17
          (first | rw [c17b0] | (simp only [i64_w, i32_w]; rw [c17b0]) | skip)
          have H' := Aside0.mk H
          clear H
          go_wp2
          repeat (go_quiet (fail); try go_wp2)
          go_meet
          case rel => exact ⟨_, (true), (by first | rfl | (simp; done) | (simp [*]; done)), H', ⟨by first | omega | exact Nat.le_refl _⟩, ⟨by (with_reducible repeat (first | apply Kd.S_alloc | apply Kd.S_drewN | apply Kd.S_drew)); exact Kd.S_mono HO180.out (fun _ hk => hk.2)⟩, ⟨by (with_reducible repeat (first | apply Kd.S_alloc | apply Kd.S_drewN | apply Kd.S_drew)); exact Kd.S_mono HO184.out (fun _ hk => hk.2)⟩, ⟨by (with_reducible repeat (first | refine blk_drewN ?_ _ | refine blk_drew ?_ | refine blk_alloc ?_ _)); exact BK177.out⟩, ⟨by repeat (first | (with_reducible first | exact HB.out | apply below_alloc | apply pw_below_drewN | apply below_drew1 | refine below_set ?_ GE177.out) | exact HB.out)⟩⟩
      case rest =>
        clear HC10
        try clear c1
        try clear c2
        try clear p2
        try clear c5
        try clear c6
        try clear c6b0
        try clear c6b1
        try clear p6
        try clear c7
        try clear c17
        try clear c17b0
        try clear c17b1
        try clear c18
        try clear c18b0
        try clear c18b1
        try clear c19
        try clear c19b0
        try clear c19b1
        try clear c20
        try clear c20b0
        try clear c20b1
        try clear hcz13_0
        try clear hcz13_1
        try clear hcz13_2
        try clear hcz15_0
        try clear hcz15_1
        try clear hcz15_2
        try clear hfz13_0
        try clear hfz13_1
        try clear hfz13_2
        try clear hfz15_0
        try clear hfz15_1
        try clear hfz15_2
        obtain ⟨kq, x67_9, rfl, HA, HJ9, HO_10, HO_12, BK177, HB⟩ := hcut
        cases kq with
        | zero => exact absurd HA.out (by simp [baileelaw07_CutterAlone.j0])
        | succ kj9 =>
          have H := HA.out
          clear HA
          simp only [baileelaw07_CutterAlone.j0] at H
          by_cases c24 : x67_9 = true
          · subst c24
            have H1 : (some false) = some r := by rw [if_pos rfl] at H; exact H
            clear H
            have H := H1
            clear H1
            obtain rfl := Option.some.inj H
            go_wp2
            repeat (go_quiet (fail); try go_wp2)
            go_ret
            exact ⟨by first | rfl | (simp [errW_none, errW_some] <;> rfl) | (simp [*, errW_none, errW_some] <;> rfl), by repeat (first | (with_reducible first | exact HB.out | apply below_alloc | apply pw_below_drewN | apply below_drew1 | refine below_set ?_ GE177.out) | exact HB.out)⟩
          · replace c24 := Bool.eq_false_iff.mpr c24
            subst c24
            have H1 : (baileelaw07_CutterAlone.l0 kj9 (wrap64 ((wrap64 (a1)) + 1)) t178 t182 0) = some r := by rw [if_neg (show ¬ (false = true) by decide)] at H; exact H
            clear H
            have H := H1
            clear H1
            have H' := Aside0.mk H
            clear H
            go_wp2
            repeat (go_quiet (fail); try go_wp2)
            go_loopg [14] kj9 (fun kq v14 w' => ∃ (x14_2 : Int), v14 = .int .i64 x14_2 ∧ Aside0 (baileelaw07_CutterAlone.l0 kq (wrap64 ((wrap64 (a1)) + 1)) t178 t182 x14_2 = some r) ∧ Aside0 (kq ≤ kj9) ∧ Aside0 (Kd.S (Kd.slice 5 (Kd.int .u8)) 22 w' w.heap.size (fun k_ => some k_ ≠ (v183 : Value).ownBlock) v179 t178) ∧ Aside0 (Kd.S (Kd.slice 5 (Kd.int .u8)) 22 w' w.heap.size (fun k_ => some k_ ≠ (v179 : Value).ownBlock) v183 t182) ∧ Aside0 (w'.heap[gb177]? = some (.cells #[.int .i64 (wrap64 ((wrap64 (a1)) + 1)), .int .i64 (wrap64 ((wrap64 (a1)) + 1)), .int .i64 (wrap64 ((wrap64 (Int.tmod a2 24)) + 1))] 24 (0, 0))) ∧ Aside0 (Below w.heap.size w w'))
            case atStart => exact ⟨(0), (by first | rfl | (simp; done) | (simp [*]; done)), H', ⟨Nat.le_refl _⟩, ⟨by (with_reducible repeat (first | apply Kd.S_alloc | apply Kd.S_drewN | apply Kd.S_drew)); exact HO_10.out⟩, ⟨by (with_reducible repeat (first | apply Kd.S_alloc | apply Kd.S_drewN | apply Kd.S_drew)); exact HO_12.out⟩, ⟨by (with_reducible repeat (first | refine blk_drewN ?_ _ | refine blk_drew ?_ | refine blk_alloc ?_ _)); exact BK177.out⟩, ⟨by repeat (first | (with_reducible first | exact HB.out | apply below_alloc | apply pw_below_drewN | apply below_drew1 | refine below_set ?_ GE177.out) | exact HB.out)⟩⟩
            case round =>
              clear H'
              try clear c1
              try clear c2
              try clear p2
              try clear c5
              try clear c6
              try clear c6b0
              try clear c6b1
              try clear p6
              try clear c7
              try clear c17
              try clear c17b0
              try clear c17b1
              try clear c18
              try clear c18b0
              try clear c18b1
              try clear c19
              try clear c19b0
              try clear c19b1
              try clear c20
              try clear c20b0
              try clear c20b1
              try clear c24
              try clear hcz13_0
              try clear hcz13_1
              try clear hcz13_2
              try clear hcz15_0
              try clear hcz15_1
              try clear hcz15_2
              try clear hfz13_0
              try clear hfz13_1
              try clear hfz13_2
              try clear hfz15_0
              try clear hfz15_1
              try clear hfz15_2
              try clear p2
              try clear p6
              obtain ⟨x14_2, rfl, HA, HK2, HO_10, HO_12, BK177, HB⟩ := hrel
              cases gk with
              | zero => exact absurd HA.out (by simp [baileelaw07_CutterAlone.l0])
              | succ k2 =>
                have H := HA.out
                clear HA
                simp only [baileelaw07_CutterAlone.l0] at H
                by_cases c25 : x14_2 < (t178.length : Int)
                · rw [if_pos c25] at H
                  have c25b0 : decide (x14_2 < (t178.length : Int)) = true := decide_eq_true c25
                  clear c25
                  by_cases c26 : x14_2 < (wrap64 ((t178.length : Int) - 1))
                  · rw [if_pos c26] at H
                    have c26b0 : decide (x14_2 < (wrap64 ((t178.length : Int) - 1))) = true := decide_eq_true c26
                    clear c26
                    by_cases c27 : 0 ≤ x14_2
                    · rw [if_pos c27] at H
                      have c27b0 : decide (0 ≤ x14_2) = true := decide_eq_true c27
                      clear c27
                      by_cases c28 : ((rd_L2 t178 x14_2).length : Int) = (wrap64 ((wrap64 (a1)) + 1))
                      · rw [if_pos c28] at H
                        have c28b0 : (((rd_L2 t178 x14_2).length : Int) == (wrap64 ((wrap64 (a1)) + 1))) = true := beq_iff_eq.mpr c28
                        have c28b1 : (((rd_L2 t178 x14_2).length : Int) != (wrap64 ((wrap64 (a1)) + 1))) = false := bne_eq_false_iff_eq.mpr c28
                        clear c28
                        by_cases c29 : x14_2 < (t182.length : Int)
                        · rw [if_pos c29] at H
                          have c29b0 : decide (x14_2 < (t182.length : Int)) = true := decide_eq_true c29
                          clear c29
                          by_cases c30 : (strOfNums (rd_L2 t178 x14_2)).toList = (strOfNums (rd_L2 t182 x14_2)).toList
                          · rw [if_pos c30] at H
                            have c30b0 : ((strOfNums (rd_L2 t178 x14_2)).toList == (strOfNums (rd_L2 t182 x14_2)).toList) = true := beq_iff_eq.mpr c30
                            have c30b1 : ((strOfNums (rd_L2 t178 x14_2)).toList != (strOfNums (rd_L2 t182 x14_2)).toList) = false := bne_eq_false_iff_eq.mpr c30
                            clear c30
                            have H' := Aside0.mk H
                            clear H
                            obtain ⟨Ao31, co31, eo31⟩ := Kd.S_slice HO_10.out
                            subst eo31
                            have p186 : 0 ≤ (x14_2 : Int) := of_decide_eq_true (by first | (with_reducible assumption) | assumption)
                            have q186 : x14_2 < (t178.length : Int) := of_decide_eq_true (by first | (with_reducible assumption) | assumption)
                            obtain ⟨ad186, A186_0, c186_0, e186, hx186_0, hl186_0, hi186_0⟩ := at_L2 (Kd.S_reads' HO_10.out).2.2 x14_2 p186 q186
                            cases e186
                            obtain ⟨ce186, hce186, hMe186, hcc186⟩ := Kd.S_get HO_10.out [] x14_2 p186 (by first | exact q186 | exact of_decide_eq_true (by first | (with_reducible assumption) | assumption) | (have e_ := (Kd.S_reads' HO_10.out).1; omega))
                            obtain ⟨ve186_0, rfl, ge186_0⟩ := hMe186
                            have hv186_0 := hcc186 0 _ rfl
                            rw [Nat.add_zero, show ((Kd.slice 5 (Kd.int .u8))).sz = 1 from rfl, Nat.mul_one] at hv186_0
                            replace hv186_0 := Option.some.inj (hv186_0.symm.trans hx186_0)
                            rw [hv186_0] at ge186_0
                            have HL186_0 := Aside0.mk (show Kd.R (Kd.int .u8) 5 _ _ _ _ (rd_L2 t178 x14_2) from ge186_0)
                            clear hv186_0 ge186_0
                            clear hcc186 hce186
                            have HR186_0 := Aside0.mk hi186_0
                            have HC186_0 := Aside0.mk hl186_0
                            clear hi186_0 hl186_0
                            replace p186 := eq_true p186
                            replace q186 := eq_true q186
                            have p187 : 0 ≤ (x14_2 : Int) := of_decide_eq_true (by first | (with_reducible assumption) | assumption)
                            have q187 : x14_2 < (t178.length : Int) := of_decide_eq_true (by first | (with_reducible assumption) | assumption)
                            obtain ⟨ad187, A187_0, c187_0, e187, hx187_0, hl187_0, hi187_0⟩ := at_L2 (Kd.S_reads' HO_10.out).2.2 x14_2 p187 q187
                            obtain rfl : ad186 = ad187 := (by injection e187)
                            obtain ⟨ce187, hce187, hMe187, hcc187⟩ := Kd.S_get HO_10.out [] x14_2 p187 (by first | exact q187 | exact of_decide_eq_true (by first | (with_reducible assumption) | assumption) | (have e_ := (Kd.S_reads' HO_10.out).1; omega))
                            obtain ⟨ve187_0, rfl, ge187_0⟩ := hMe187
                            have hv187_0 := hcc187 0 _ rfl
                            rw [Nat.add_zero, show ((Kd.slice 5 (Kd.int .u8))).sz = 1 from rfl, Nat.mul_one] at hv187_0
                            replace hv187_0 := Option.some.inj (hv187_0.symm.trans hx187_0)
                            rw [hv187_0] at ge187_0
                            have HL187_0 := Aside0.mk (show Kd.R (Kd.int .u8) 5 _ _ _ _ (rd_L2 t178 x14_2) from ge187_0)
                            clear hv187_0 ge187_0
                            clear hcc187 hce187
                            have HR187_0 := Aside0.mk hi187_0
                            have HC187_0 := Aside0.mk hl187_0
                            clear hi187_0 hl187_0
                            replace p187 := eq_true p187
                            replace q187 := eq_true q187
                            have ea_ := Option.some.inj (hx186_0.symm.trans hx187_0)
                            injection ea_ with ea_ en_ ec_
                            subst ea_
                            subst ec_
                            clear en_
                            have hcv32 := Kd.C_string (P := Try.prog) (A := A186_0) (c := c186_0) Try.underlying22 Try.underlying5 Try.underlying9 (by repeat (first | (with_reducible exact HR187_0.out) | (with_reducible refine Kd.C_alloc ?_ _) | (with_reducible refine Kd.C_drewN ?_ _) | (with_reducible refine Kd.C_drew ?_) | exact HR187_0.out))
                            have hcv32n := fun nd_ : Nat => Kd.C_string (P := Try.prog) (w := wr.drewN nd_) (A := A186_0) (c := c186_0) Try.underlying22 Try.underlying5 Try.underlying9 (by with_reducible refine Kd.C_drewN ?_ _; exact HR187_0.out)
                            obtain ⟨Ao33, co33, eo33⟩ := Kd.S_slice HO_12.out
                            subst eo33
                            have p188 : 0 ≤ (x14_2 : Int) := of_decide_eq_true (by first | (with_reducible assumption) | assumption)
                            have q188 : x14_2 < (t182.length : Int) := of_decide_eq_true (by first | (with_reducible assumption) | assumption)
                            obtain ⟨ad188, A188_0, c188_0, e188, hx188_0, hl188_0, hi188_0⟩ := at_L2 (Kd.S_reads' HO_12.out).2.2 x14_2 p188 q188
                            cases e188
                            obtain ⟨ce188, hce188, hMe188, hcc188⟩ := Kd.S_get HO_12.out [] x14_2 p188 (by first | exact q188 | exact of_decide_eq_true (by first | (with_reducible assumption) | assumption) | (have e_ := (Kd.S_reads' HO_12.out).1; omega))
                            obtain ⟨ve188_0, rfl, ge188_0⟩ := hMe188
                            have hv188_0 := hcc188 0 _ rfl
                            rw [Nat.add_zero, show ((Kd.slice 5 (Kd.int .u8))).sz = 1 from rfl, Nat.mul_one] at hv188_0
                            replace hv188_0 := Option.some.inj (hv188_0.symm.trans hx188_0)
                            rw [hv188_0] at ge188_0
                            have HL188_0 := Aside0.mk (show Kd.R (Kd.int .u8) 5 _ _ _ _ (rd_L2 t182 x14_2) from ge188_0)
                            clear hv188_0 ge188_0
                            clear hcc188 hce188
                            have HR188_0 := Aside0.mk hi188_0
                            have HC188_0 := Aside0.mk hl188_0
                            clear hi188_0 hl188_0
                            replace p188 := eq_true p188
                            replace q188 := eq_true q188
                            have hcv34 := Kd.C_string (P := Try.prog) (A := A188_0) (c := c188_0) Try.underlying22 Try.underlying5 Try.underlying9 (by repeat (first | (with_reducible exact HR188_0.out) | (with_reducible refine Kd.C_alloc ?_ _) | (with_reducible refine Kd.C_drewN ?_ _) | (with_reducible refine Kd.C_drew ?_) | exact HR188_0.out))
                            have hcv34n := fun nd_ : Nat => Kd.C_string (P := Try.prog) (w := wr.drewN nd_) (A := A188_0) (c := c188_0) Try.underlying22 Try.underlying5 Try.underlying9 (by with_reducible refine Kd.C_drewN ?_ _; exact HR188_0.out)
                            go_wp2
                            repeat (go_quiet (fail); try go_wp2)
                            go_roundg k2
                            case measure => have := HJ9.out; have := HK2.out; omega
                            case rel => exact ⟨(wrap64 (x14_2 + 1)), (by first | rfl | (simp; done) | (simp [*]; done)), H', ⟨by have := HJ9.out; have := HK2.out; omega⟩, ⟨by (with_reducible repeat (first | apply Kd.S_alloc | apply Kd.S_drewN | apply Kd.S_drew)); exact HO_10.out⟩, ⟨by (with_reducible repeat (first | apply Kd.S_alloc | apply Kd.S_drewN | apply Kd.S_drew)); exact HO_12.out⟩, ⟨by (with_reducible repeat (first | refine blk_drewN ?_ _ | refine blk_drew ?_ | refine blk_alloc ?_ _)); exact BK177.out⟩, ⟨by repeat (first | (with_reducible first | exact HB.out | apply below_alloc | apply pw_below_drewN | apply below_drew1 | refine below_set ?_ GE177.out) | exact HB.out)⟩⟩
                          · rw [if_neg c30] at H
                            have c30b0 : ((strOfNums (rd_L2 t178 x14_2)).toList == (strOfNums (rd_L2 t182 x14_2)).toList) = false := beq_eq_false_iff_ne.mpr c30
                            have c30b1 : ((strOfNums (rd_L2 t178 x14_2)).toList != (strOfNums (rd_L2 t182 x14_2)).toList) = true := bne_iff_ne.mpr c30
                            obtain rfl := Option.some.inj H
                            obtain ⟨Ao35, co35, eo35⟩ := Kd.S_slice HO_10.out
                            subst eo35
                            have p186 : 0 ≤ (x14_2 : Int) := of_decide_eq_true (by first | (with_reducible assumption) | assumption)
                            have q186 : x14_2 < (t178.length : Int) := of_decide_eq_true (by first | (with_reducible assumption) | assumption)
                            obtain ⟨ad186, A186_0, c186_0, e186, hx186_0, hl186_0, hi186_0⟩ := at_L2 (Kd.S_reads' HO_10.out).2.2 x14_2 p186 q186
                            cases e186
                            obtain ⟨ce186, hce186, hMe186, hcc186⟩ := Kd.S_get HO_10.out [] x14_2 p186 (by first | exact q186 | exact of_decide_eq_true (by first | (with_reducible assumption) | assumption) | (have e_ := (Kd.S_reads' HO_10.out).1; omega))
                            obtain ⟨ve186_0, rfl, ge186_0⟩ := hMe186
                            have hv186_0 := hcc186 0 _ rfl
                            rw [Nat.add_zero, show ((Kd.slice 5 (Kd.int .u8))).sz = 1 from rfl, Nat.mul_one] at hv186_0
                            replace hv186_0 := Option.some.inj (hv186_0.symm.trans hx186_0)
                            rw [hv186_0] at ge186_0
                            have HL186_0 := Aside0.mk (show Kd.R (Kd.int .u8) 5 _ _ _ _ (rd_L2 t178 x14_2) from ge186_0)
                            clear hv186_0 ge186_0
                            clear hcc186 hce186
                            have HR186_0 := Aside0.mk hi186_0
                            have HC186_0 := Aside0.mk hl186_0
                            clear hi186_0 hl186_0
                            replace p186 := eq_true p186
                            replace q186 := eq_true q186
                            have p187 : 0 ≤ (x14_2 : Int) := of_decide_eq_true (by first | (with_reducible assumption) | assumption)
                            have q187 : x14_2 < (t178.length : Int) := of_decide_eq_true (by first | (with_reducible assumption) | assumption)
                            obtain ⟨ad187, A187_0, c187_0, e187, hx187_0, hl187_0, hi187_0⟩ := at_L2 (Kd.S_reads' HO_10.out).2.2 x14_2 p187 q187
                            obtain rfl : ad186 = ad187 := (by injection e187)
                            obtain ⟨ce187, hce187, hMe187, hcc187⟩ := Kd.S_get HO_10.out [] x14_2 p187 (by first | exact q187 | exact of_decide_eq_true (by first | (with_reducible assumption) | assumption) | (have e_ := (Kd.S_reads' HO_10.out).1; omega))
                            obtain ⟨ve187_0, rfl, ge187_0⟩ := hMe187
                            have hv187_0 := hcc187 0 _ rfl
                            rw [Nat.add_zero, show ((Kd.slice 5 (Kd.int .u8))).sz = 1 from rfl, Nat.mul_one] at hv187_0
                            replace hv187_0 := Option.some.inj (hv187_0.symm.trans hx187_0)
                            rw [hv187_0] at ge187_0
                            have HL187_0 := Aside0.mk (show Kd.R (Kd.int .u8) 5 _ _ _ _ (rd_L2 t178 x14_2) from ge187_0)
                            clear hv187_0 ge187_0
                            clear hcc187 hce187
                            have HR187_0 := Aside0.mk hi187_0
                            have HC187_0 := Aside0.mk hl187_0
                            clear hi187_0 hl187_0
                            replace p187 := eq_true p187
                            replace q187 := eq_true q187
                            have ea_ := Option.some.inj (hx186_0.symm.trans hx187_0)
                            injection ea_ with ea_ en_ ec_
                            subst ea_
                            subst ec_
                            clear en_
                            have hcv36 := Kd.C_string (P := Try.prog) (A := A186_0) (c := c186_0) Try.underlying22 Try.underlying5 Try.underlying9 (by repeat (first | (with_reducible exact HR187_0.out) | (with_reducible refine Kd.C_alloc ?_ _) | (with_reducible refine Kd.C_drewN ?_ _) | (with_reducible refine Kd.C_drew ?_) | exact HR187_0.out))
                            have hcv36n := fun nd_ : Nat => Kd.C_string (P := Try.prog) (w := wr.drewN nd_) (A := A186_0) (c := c186_0) Try.underlying22 Try.underlying5 Try.underlying9 (by with_reducible refine Kd.C_drewN ?_ _; exact HR187_0.out)
                            obtain ⟨Ao37, co37, eo37⟩ := Kd.S_slice HO_12.out
                            subst eo37
                            have p188 : 0 ≤ (x14_2 : Int) := of_decide_eq_true (by first | (with_reducible assumption) | assumption)
                            have q188 : x14_2 < (t182.length : Int) := of_decide_eq_true (by first | (with_reducible assumption) | assumption)
                            obtain ⟨ad188, A188_0, c188_0, e188, hx188_0, hl188_0, hi188_0⟩ := at_L2 (Kd.S_reads' HO_12.out).2.2 x14_2 p188 q188
                            cases e188
                            obtain ⟨ce188, hce188, hMe188, hcc188⟩ := Kd.S_get HO_12.out [] x14_2 p188 (by first | exact q188 | exact of_decide_eq_true (by first | (with_reducible assumption) | assumption) | (have e_ := (Kd.S_reads' HO_12.out).1; omega))
                            obtain ⟨ve188_0, rfl, ge188_0⟩ := hMe188
                            have hv188_0 := hcc188 0 _ rfl
                            rw [Nat.add_zero, show ((Kd.slice 5 (Kd.int .u8))).sz = 1 from rfl, Nat.mul_one] at hv188_0
                            replace hv188_0 := Option.some.inj (hv188_0.symm.trans hx188_0)
                            rw [hv188_0] at ge188_0
                            have HL188_0 := Aside0.mk (show Kd.R (Kd.int .u8) 5 _ _ _ _ (rd_L2 t182 x14_2) from ge188_0)
                            clear hv188_0 ge188_0
                            clear hcc188 hce188
                            have HR188_0 := Aside0.mk hi188_0
                            have HC188_0 := Aside0.mk hl188_0
                            clear hi188_0 hl188_0
                            replace p188 := eq_true p188
                            replace q188 := eq_true q188
                            have hcv38 := Kd.C_string (P := Try.prog) (A := A188_0) (c := c188_0) Try.underlying22 Try.underlying5 Try.underlying9 (by repeat (first | (with_reducible exact HR188_0.out) | (with_reducible refine Kd.C_alloc ?_ _) | (with_reducible refine Kd.C_drewN ?_ _) | (with_reducible refine Kd.C_drew ?_) | exact HR188_0.out))
                            have hcv38n := fun nd_ : Nat => Kd.C_string (P := Try.prog) (w := wr.drewN nd_) (A := A188_0) (c := c188_0) Try.underlying22 Try.underlying5 Try.underlying9 (by with_reducible refine Kd.C_drewN ?_ _; exact HR188_0.out)
                            go_wp2
                            repeat (go_quiet (fail); try go_wp2)
                            go_ret
                            exact ⟨by first | rfl | (simp [errW_none, errW_some] <;> rfl) | (simp [*, errW_none, errW_some] <;> rfl), by repeat (first | (with_reducible first | exact HB.out | apply below_alloc | apply pw_below_drewN | apply below_drew1 | refine below_set ?_ GE177.out) | exact HB.out)⟩
                        · rw [if_neg c29] at H
                          exact absurd H (by simp)
                      · rw [if_neg c28] at H
                        have c28b0 : (((rd_L2 t178 x14_2).length : Int) == (wrap64 ((wrap64 (a1)) + 1))) = false := beq_eq_false_iff_ne.mpr c28
                        have c28b1 : (((rd_L2 t178 x14_2).length : Int) != (wrap64 ((wrap64 (a1)) + 1))) = true := bne_iff_ne.mpr c28
                        obtain rfl := Option.some.inj H
                        obtain ⟨Ao39, co39, eo39⟩ := Kd.S_slice HO_10.out
                        subst eo39
                        have p186 : 0 ≤ (x14_2 : Int) := of_decide_eq_true (by first | (with_reducible assumption) | assumption)
                        have q186 : x14_2 < (t178.length : Int) := of_decide_eq_true (by first | (with_reducible assumption) | assumption)
                        obtain ⟨ad186, A186_0, c186_0, e186, hx186_0, hl186_0, hi186_0⟩ := at_L2 (Kd.S_reads' HO_10.out).2.2 x14_2 p186 q186
                        cases e186
                        obtain ⟨ce186, hce186, hMe186, hcc186⟩ := Kd.S_get HO_10.out [] x14_2 p186 (by first | exact q186 | exact of_decide_eq_true (by first | (with_reducible assumption) | assumption) | (have e_ := (Kd.S_reads' HO_10.out).1; omega))
                        obtain ⟨ve186_0, rfl, ge186_0⟩ := hMe186
                        have hv186_0 := hcc186 0 _ rfl
                        rw [Nat.add_zero, show ((Kd.slice 5 (Kd.int .u8))).sz = 1 from rfl, Nat.mul_one] at hv186_0
                        replace hv186_0 := Option.some.inj (hv186_0.symm.trans hx186_0)
                        rw [hv186_0] at ge186_0
                        have HL186_0 := Aside0.mk (show Kd.R (Kd.int .u8) 5 _ _ _ _ (rd_L2 t178 x14_2) from ge186_0)
                        clear hv186_0 ge186_0
                        clear hcc186 hce186
                        have HR186_0 := Aside0.mk hi186_0
                        have HC186_0 := Aside0.mk hl186_0
                        clear hi186_0 hl186_0
                        replace p186 := eq_true p186
                        replace q186 := eq_true q186
                        go_wp2
                        repeat (go_quiet (fail); try go_wp2)
                        go_ret
                        exact ⟨by first | rfl | (simp [errW_none, errW_some] <;> rfl) | (simp [*, errW_none, errW_some] <;> rfl), by repeat (first | (with_reducible first | exact HB.out | apply below_alloc | apply pw_below_drewN | apply below_drew1 | refine below_set ?_ GE177.out) | exact HB.out)⟩
                    · rw [if_neg c27] at H
                      exact absurd H (by simp)
                  · rw [if_neg c26] at H
                    have c26b0 : decide (x14_2 < (wrap64 ((t178.length : Int) - 1))) = false := decide_eq_false c26
                    clear c26
                    by_cases c40 : 0 ≤ x14_2
                    · rw [if_pos c40] at H
                      have c40b0 : decide (0 ≤ x14_2) = true := decide_eq_true c40
                      clear c40
                      by_cases c41 : x14_2 < (t182.length : Int)
                      · rw [if_pos c41] at H
                        have c41b0 : decide (x14_2 < (t182.length : Int)) = true := decide_eq_true c41
                        clear c41
                        by_cases c42 : (strOfNums (rd_L2 t178 x14_2)).toList = (strOfNums (rd_L2 t182 x14_2)).toList
                        · rw [if_pos c42] at H
                          have c42b0 : ((strOfNums (rd_L2 t178 x14_2)).toList == (strOfNums (rd_L2 t182 x14_2)).toList) = true := beq_iff_eq.mpr c42
                          have c42b1 : ((strOfNums (rd_L2 t178 x14_2)).toList != (strOfNums (rd_L2 t182 x14_2)).toList) = false := bne_eq_false_iff_eq.mpr c42
                          clear c42
                          have H' := Aside0.mk H
                          clear H
                          obtain ⟨Ao43, co43, eo43⟩ := Kd.S_slice HO_10.out
                          subst eo43
                          have p189 : 0 ≤ (x14_2 : Int) := of_decide_eq_true (by first | (with_reducible assumption) | assumption)
                          have q189 : x14_2 < (t178.length : Int) := of_decide_eq_true (by first | (with_reducible assumption) | assumption)
                          obtain ⟨ad189, A189_0, c189_0, e189, hx189_0, hl189_0, hi189_0⟩ := at_L2 (Kd.S_reads' HO_10.out).2.2 x14_2 p189 q189
                          cases e189
                          obtain ⟨ce189, hce189, hMe189, hcc189⟩ := Kd.S_get HO_10.out [] x14_2 p189 (by first | exact q189 | exact of_decide_eq_true (by first | (with_reducible assumption) | assumption) | (have e_ := (Kd.S_reads' HO_10.out).1; omega))
                          obtain ⟨ve189_0, rfl, ge189_0⟩ := hMe189
                          have hv189_0 := hcc189 0 _ rfl
                          rw [Nat.add_zero, show ((Kd.slice 5 (Kd.int .u8))).sz = 1 from rfl, Nat.mul_one] at hv189_0
                          replace hv189_0 := Option.some.inj (hv189_0.symm.trans hx189_0)
                          rw [hv189_0] at ge189_0
                          have HL189_0 := Aside0.mk (show Kd.R (Kd.int .u8) 5 _ _ _ _ (rd_L2 t178 x14_2) from ge189_0)
                          clear hv189_0 ge189_0
                          clear hcc189 hce189
                          have HR189_0 := Aside0.mk hi189_0
                          have HC189_0 := Aside0.mk hl189_0
                          clear hi189_0 hl189_0
                          replace p189 := eq_true p189
                          replace q189 := eq_true q189
                          have hcv44 := Kd.C_string (P := Try.prog) (A := A189_0) (c := c189_0) Try.underlying22 Try.underlying5 Try.underlying9 (by repeat (first | (with_reducible exact HR189_0.out) | (with_reducible refine Kd.C_alloc ?_ _) | (with_reducible refine Kd.C_drewN ?_ _) | (with_reducible refine Kd.C_drew ?_) | exact HR189_0.out))
                          have hcv44n := fun nd_ : Nat => Kd.C_string (P := Try.prog) (w := wr.drewN nd_) (A := A189_0) (c := c189_0) Try.underlying22 Try.underlying5 Try.underlying9 (by with_reducible refine Kd.C_drewN ?_ _; exact HR189_0.out)
                          obtain ⟨Ao45, co45, eo45⟩ := Kd.S_slice HO_12.out
                          subst eo45
                          have p190 : 0 ≤ (x14_2 : Int) := of_decide_eq_true (by first | (with_reducible assumption) | assumption)
                          have q190 : x14_2 < (t182.length : Int) := of_decide_eq_true (by first | (with_reducible assumption) | assumption)
                          obtain ⟨ad190, A190_0, c190_0, e190, hx190_0, hl190_0, hi190_0⟩ := at_L2 (Kd.S_reads' HO_12.out).2.2 x14_2 p190 q190
                          cases e190
                          obtain ⟨ce190, hce190, hMe190, hcc190⟩ := Kd.S_get HO_12.out [] x14_2 p190 (by first | exact q190 | exact of_decide_eq_true (by first | (with_reducible assumption) | assumption) | (have e_ := (Kd.S_reads' HO_12.out).1; omega))
                          obtain ⟨ve190_0, rfl, ge190_0⟩ := hMe190
                          have hv190_0 := hcc190 0 _ rfl
                          rw [Nat.add_zero, show ((Kd.slice 5 (Kd.int .u8))).sz = 1 from rfl, Nat.mul_one] at hv190_0
                          replace hv190_0 := Option.some.inj (hv190_0.symm.trans hx190_0)
                          rw [hv190_0] at ge190_0
                          have HL190_0 := Aside0.mk (show Kd.R (Kd.int .u8) 5 _ _ _ _ (rd_L2 t182 x14_2) from ge190_0)
                          clear hv190_0 ge190_0
                          clear hcc190 hce190
                          have HR190_0 := Aside0.mk hi190_0
                          have HC190_0 := Aside0.mk hl190_0
                          clear hi190_0 hl190_0
                          replace p190 := eq_true p190
                          replace q190 := eq_true q190
                          have hcv46 := Kd.C_string (P := Try.prog) (A := A190_0) (c := c190_0) Try.underlying22 Try.underlying5 Try.underlying9 (by repeat (first | (with_reducible exact HR190_0.out) | (with_reducible refine Kd.C_alloc ?_ _) | (with_reducible refine Kd.C_drewN ?_ _) | (with_reducible refine Kd.C_drew ?_) | exact HR190_0.out))
                          have hcv46n := fun nd_ : Nat => Kd.C_string (P := Try.prog) (w := wr.drewN nd_) (A := A190_0) (c := c190_0) Try.underlying22 Try.underlying5 Try.underlying9 (by with_reducible refine Kd.C_drewN ?_ _; exact HR190_0.out)
                          go_wp2
                          repeat (go_quiet (fail); try go_wp2)
                          go_roundg k2
                          case measure => have := HJ9.out; have := HK2.out; omega
                          case rel => exact ⟨(wrap64 (x14_2 + 1)), (by first | rfl | (simp; done) | (simp [*]; done)), H', ⟨by have := HJ9.out; have := HK2.out; omega⟩, ⟨by (with_reducible repeat (first | apply Kd.S_alloc | apply Kd.S_drewN | apply Kd.S_drew)); exact HO_10.out⟩, ⟨by (with_reducible repeat (first | apply Kd.S_alloc | apply Kd.S_drewN | apply Kd.S_drew)); exact HO_12.out⟩, ⟨by (with_reducible repeat (first | refine blk_drewN ?_ _ | refine blk_drew ?_ | refine blk_alloc ?_ _)); exact BK177.out⟩, ⟨by repeat (first | (with_reducible first | exact HB.out | apply below_alloc | apply pw_below_drewN | apply below_drew1 | refine below_set ?_ GE177.out) | exact HB.out)⟩⟩
                        · rw [if_neg c42] at H
                          have c42b0 : ((strOfNums (rd_L2 t178 x14_2)).toList == (strOfNums (rd_L2 t182 x14_2)).toList) = false := beq_eq_false_iff_ne.mpr c42
                          have c42b1 : ((strOfNums (rd_L2 t178 x14_2)).toList != (strOfNums (rd_L2 t182 x14_2)).toList) = true := bne_iff_ne.mpr c42
                          obtain rfl := Option.some.inj H
                          obtain ⟨Ao47, co47, eo47⟩ := Kd.S_slice HO_10.out
                          subst eo47
                          have p189 : 0 ≤ (x14_2 : Int) := of_decide_eq_true (by first | (with_reducible assumption) | assumption)
                          have q189 : x14_2 < (t178.length : Int) := of_decide_eq_true (by first | (with_reducible assumption) | assumption)
                          obtain ⟨ad189, A189_0, c189_0, e189, hx189_0, hl189_0, hi189_0⟩ := at_L2 (Kd.S_reads' HO_10.out).2.2 x14_2 p189 q189
                          cases e189
                          obtain ⟨ce189, hce189, hMe189, hcc189⟩ := Kd.S_get HO_10.out [] x14_2 p189 (by first | exact q189 | exact of_decide_eq_true (by first | (with_reducible assumption) | assumption) | (have e_ := (Kd.S_reads' HO_10.out).1; omega))
                          obtain ⟨ve189_0, rfl, ge189_0⟩ := hMe189
                          have hv189_0 := hcc189 0 _ rfl
                          rw [Nat.add_zero, show ((Kd.slice 5 (Kd.int .u8))).sz = 1 from rfl, Nat.mul_one] at hv189_0
                          replace hv189_0 := Option.some.inj (hv189_0.symm.trans hx189_0)
                          rw [hv189_0] at ge189_0
                          have HL189_0 := Aside0.mk (show Kd.R (Kd.int .u8) 5 _ _ _ _ (rd_L2 t178 x14_2) from ge189_0)
                          clear hv189_0 ge189_0
                          clear hcc189 hce189
                          have HR189_0 := Aside0.mk hi189_0
                          have HC189_0 := Aside0.mk hl189_0
                          clear hi189_0 hl189_0
                          replace p189 := eq_true p189
                          replace q189 := eq_true q189
                          have hcv48 := Kd.C_string (P := Try.prog) (A := A189_0) (c := c189_0) Try.underlying22 Try.underlying5 Try.underlying9 (by repeat (first | (with_reducible exact HR189_0.out) | (with_reducible refine Kd.C_alloc ?_ _) | (with_reducible refine Kd.C_drewN ?_ _) | (with_reducible refine Kd.C_drew ?_) | exact HR189_0.out))
                          have hcv48n := fun nd_ : Nat => Kd.C_string (P := Try.prog) (w := wr.drewN nd_) (A := A189_0) (c := c189_0) Try.underlying22 Try.underlying5 Try.underlying9 (by with_reducible refine Kd.C_drewN ?_ _; exact HR189_0.out)
                          obtain ⟨Ao49, co49, eo49⟩ := Kd.S_slice HO_12.out
                          subst eo49
                          have p190 : 0 ≤ (x14_2 : Int) := of_decide_eq_true (by first | (with_reducible assumption) | assumption)
                          have q190 : x14_2 < (t182.length : Int) := of_decide_eq_true (by first | (with_reducible assumption) | assumption)
                          obtain ⟨ad190, A190_0, c190_0, e190, hx190_0, hl190_0, hi190_0⟩ := at_L2 (Kd.S_reads' HO_12.out).2.2 x14_2 p190 q190
                          cases e190
                          obtain ⟨ce190, hce190, hMe190, hcc190⟩ := Kd.S_get HO_12.out [] x14_2 p190 (by first | exact q190 | exact of_decide_eq_true (by first | (with_reducible assumption) | assumption) | (have e_ := (Kd.S_reads' HO_12.out).1; omega))
                          obtain ⟨ve190_0, rfl, ge190_0⟩ := hMe190
                          have hv190_0 := hcc190 0 _ rfl
                          rw [Nat.add_zero, show ((Kd.slice 5 (Kd.int .u8))).sz = 1 from rfl, Nat.mul_one] at hv190_0
                          replace hv190_0 := Option.some.inj (hv190_0.symm.trans hx190_0)
                          rw [hv190_0] at ge190_0
                          have HL190_0 := Aside0.mk (show Kd.R (Kd.int .u8) 5 _ _ _ _ (rd_L2 t182 x14_2) from ge190_0)
                          clear hv190_0 ge190_0
                          clear hcc190 hce190
                          have HR190_0 := Aside0.mk hi190_0
                          have HC190_0 := Aside0.mk hl190_0
                          clear hi190_0 hl190_0
                          replace p190 := eq_true p190
                          replace q190 := eq_true q190
                          have hcv50 := Kd.C_string (P := Try.prog) (A := A190_0) (c := c190_0) Try.underlying22 Try.underlying5 Try.underlying9 (by repeat (first | (with_reducible exact HR190_0.out) | (with_reducible refine Kd.C_alloc ?_ _) | (with_reducible refine Kd.C_drewN ?_ _) | (with_reducible refine Kd.C_drew ?_) | exact HR190_0.out))
                          have hcv50n := fun nd_ : Nat => Kd.C_string (P := Try.prog) (w := wr.drewN nd_) (A := A190_0) (c := c190_0) Try.underlying22 Try.underlying5 Try.underlying9 (by with_reducible refine Kd.C_drewN ?_ _; exact HR190_0.out)
                          go_wp2
                          repeat (go_quiet (fail); try go_wp2)
                          go_ret
                          exact ⟨by first | rfl | (simp [errW_none, errW_some] <;> rfl) | (simp [*, errW_none, errW_some] <;> rfl), by repeat (first | (with_reducible first | exact HB.out | apply below_alloc | apply pw_below_drewN | apply below_drew1 | refine below_set ?_ GE177.out) | exact HB.out)⟩
                      · rw [if_neg c41] at H
                        exact absurd H (by simp)
                    · rw [if_neg c40] at H
                      exact absurd H (by simp)
                · rw [if_neg c25] at H
                  have c25b0 : decide (x14_2 < (t178.length : Int)) = false := decide_eq_false c25
                  clear c25
                  obtain rfl := Option.some.inj H
                  obtain ⟨Ao51, co51, eo51⟩ := Kd.S_slice HO_10.out
                  subst eo51
                  go_wp2
                  repeat (go_quiet (fail); try go_wp2)
                  go_ret
                  exact ⟨by first | rfl | (simp [errW_none, errW_some] <;> rfl) | (simp [*, errW_none, errW_some] <;> rfl), by repeat (first | (with_reducible first | exact HB.out | apply below_alloc | apply pw_below_drewN | apply below_drew1 | refine below_set ?_ GE177.out) | exact HB.out)⟩
  · replace c5 := Bool.eq_false_iff.mpr c5
    subst c5
    have H1 : (some false) = some r := by rw [if_neg (show ¬ (false = true) by decide)] at H; exact H
    clear H
    have H := H1
    clear H1
    obtain rfl := Option.some.inj H
    go_enter Try.func7, Try.ntmps7
    go_wp2_with (first | (go_at_call 8; (with_reducible refine (baileelaw07_awake.calls k  false _ A4.out).mono ?_); rintro e w52 ⟨rfl, hb⟩; have n0_ := Aside0.mk (below_step (by repeat (first | (with_reducible first | exact HB.out | apply below_alloc | apply pw_below_drewN | apply below_drew1) | exact HB.out)) hb); clear HB; have HB := n0_; clear n0_; (try clear hb); (try clear hb2); (try clear hk); (try clear hi)))
    repeat (go_quiet (first | (go_at_call 8; (with_reducible refine (baileelaw07_awake.calls k  false _ A4.out).mono ?_); rintro e w52 ⟨rfl, hb⟩; have n0_ := Aside0.mk (below_step (by repeat (first | (with_reducible first | exact HB.out | apply below_alloc | apply pw_below_drewN | apply below_drew1) | exact HB.out)) hb); clear HB; have HB := n0_; clear n0_; (try clear hb); (try clear hb2); (try clear hk); (try clear hi))); try go_wp2_with (first | (go_at_call 8; (with_reducible refine (baileelaw07_awake.calls k  false _ A4.out).mono ?_); rintro e w52 ⟨rfl, hb⟩; have n0_ := Aside0.mk (below_step (by repeat (first | (with_reducible first | exact HB.out | apply below_alloc | apply pw_below_drewN | apply below_drew1) | exact HB.out)) hb); clear HB; have HB := n0_; clear n0_; (try clear hb); (try clear hb2); (try clear hk); (try clear hi))))
    go_ret
    exact ⟨by first | rfl | (simp [errW_none, errW_some] <;> rfl) | (simp [*, errW_none, errW_some] <;> rfl), by repeat (first | (with_reducible first | exact HB.out | apply below_alloc | apply pw_below_drewN | apply below_drew1) | exact HB.out)⟩

/-- THE ONE PURE STATEMENT of baileelaw07_CutterAlone: yours. -/
def baileelaw07_CutterAlone.Pure : Prop := ∀ (l0 : List Int) (a1 : Int) (a2 : Int), l0.length ≤ maxLen → l0.length * 1 ≤ 140737488351232 → (∀ x ∈ l0, (Lit.int .u8 x).wf = true) → (Lit.int .u8 a1).wf = true → (Lit.int .u8 a2).wf = true → ∃ k, baileelaw07_CutterAlone.f k l0 a1 a2 = some true
theorem baileelaw07_CutterAlone.walk (P : baileelaw07_CutterAlone.Pure) (a0 : Option Addr) (len0 cap0 : Nat) (z0 : List Int) (a1 : Int) (a2 : Int) (w : World) (w0 : (a0 = none ∧ len0 = 0 ∧ cap0 = 0 ∧ z0 = []) ∨ ∃ x, a0 = some x ∧ len0 ≤ cap0 ∧ cap0 ≤ maxLen ∧ z0.length = cap0 ∧ (∀ i, i < z0.length → w.cell? (x.add i) = some (.int .u8 (z0.getD i 0))) ∧ ∀ n ∈ z0, (Lit.int .u8 n).wf = true) (y0 : len0 * 1 ≤ 140737488351232) (w1 : (Lit.int .u8 a1).wf = true) (w2 : (Lit.int .u8 a2).wf = true) :
    Calls Try.prog 7 #[.slice a0 len0 cap0, .int .u8 a1, .int .u8 a2] w fun e w' => e = .returned (.bool true) ∧ Below w.heap.size w w' := by
  obtain ⟨l0, rfl, hr0, hm0, hw0, hc0⟩ := ReadsInt.ofRowC w0
  obtain ⟨k, h⟩ := P l0 a1 a2 hm0 y0 hw0 w1 w2
  refine (baileelaw07_CutterAlone.calls k _ _ l0 a1 a2 true w (Kd.C_of_reads (d := (0 : Int)) (h1 := fun _ => rfl) hr0) hc0 h).mono ?_
  rintro e w' ⟨rfl, hd⟩
  exact ⟨rfl, hd⟩

/-! ### baileeref07_Check: function 15 -/
def baileeref07_Check.f (a0_0 : Int) (a0_1 : Int) (a0_2 : Int) : Option (Int) := if a0_0 < 1 then (some 1) else (if a0_1 < a0_0 then (some 1) else (if a0_1 > 65536 then (some 1) else (if a0_2 < 1 then (some 1) else (if a0_2 > 24 then (some 1) else (some 0)))))
set_option maxHeartbeats 8000000 in
set_option maxRecDepth 100000 in
theorem baileeref07_Check.calls (a0_0 : Int) (a0_1 : Int) (a0_2 : Int) (r : Int) (w : World) (h : baileeref07_Check.f a0_0 a0_1 a0_2 = some r) :
    Calls Try.prog 15 #[.agg #[.int .i64 a0_0, .int .i64 a0_1, .int .i64 a0_2]] w fun e w' => e = .returned (.int .i64 r) ∧ Below w.heap.size w w' := by
  have hu34 := Try.underlying34
  have HB := Aside0.mk (Below.refl w.heap.size w)
  have H : (if a0_0 < 1 then (some 1) else (if a0_1 < a0_0 then (some 1) else (if a0_1 > 65536 then (some 1) else (if a0_2 < 1 then (some 1) else (if a0_2 > 24 then (some 1) else (some 0)))))) = some r := h
  clear h
  by_cases c2 : a0_0 < 1
  · rw [if_pos c2] at H
    have c2b0 : decide (a0_0 < 1) = true := decide_eq_true c2
    clear c2
    obtain rfl := Option.some.inj H
    go_enter Try.func15, Try.ntmps15
    go_wp2_with (first | ((with_reducible refine gate_dst (N := 1) rfl ?_); refine box_event ?hg (N := 1) ?hd (cs := #[.int .i64 a0_0, .int .i64 a0_1, .int .i64 a0_2]) (t := 34) ?hr ?_; (case hd => rfl); (case hg => rfl); (case hr => first | (go_simp; done) | (go_simp; rfl)); intro gb191 hg w3 hbox hb; have n0_ := Aside0.mk (below_step (by repeat (first | (with_reducible first | exact HB.out | apply below_alloc | apply pw_below_drewN | apply below_drew1) | exact HB.out)) hb); have n1_ := Aside0.mk (hbox); have n2_ := Aside0.mk ((by rw [hg]; exact (below_size (by repeat (first | (with_reducible first | exact HB.out | apply below_alloc | apply pw_below_drewN | apply below_drew1) | exact HB.out))) : w.heap.size ≤ gb191)); have n3_ := Aside0.mk ((by rw [hg]; exact (below_size (by repeat (first | (with_reducible first | exact HB.out | apply below_alloc | apply pw_below_drewN | apply below_drew1) | exact HB.out))) : w.heap.size ≤ gb191)); clear HB; have HB := n0_; have BK191 := n1_; have GW191 := n2_; have GE191 := n3_; clear n0_ n1_ n2_ n3_; clear hb hbox hg; have hcz4_0 : w3.cell? ⟨gb191, 0, none⟩ = some (.int .i64 a0_0) := (blk_cell BK191.out 0).trans rfl; have hcz4_1 : w3.cell? ⟨gb191, 1, none⟩ = some (.int .i64 a0_1) := (blk_cell BK191.out 1).trans rfl; have hcz4_2 : w3.cell? ⟨gb191, 2, none⟩ = some (.int .i64 a0_2) := (blk_cell BK191.out 2).trans rfl; have hfz4_0 := blk_frozen BK191.out 0; have hfz4_1 := blk_frozen BK191.out 1; have hfz4_2 := blk_frozen BK191.out 2))
    go_ret
    exact ⟨by first | rfl | (simp [errW_none, errW_some] <;> rfl) | (simp [*, errW_none, errW_some] <;> rfl), by repeat (first | (with_reducible first | exact HB.out | apply below_alloc | apply pw_below_drewN | apply below_drew1 | refine below_set ?_ GE191.out) | exact HB.out)⟩
  · rw [if_neg c2] at H
    have c2b0 : decide (a0_0 < 1) = false := decide_eq_false c2
    clear c2
    by_cases c5 : a0_1 < a0_0
    · rw [if_pos c5] at H
      have c5b0 : decide (a0_1 < a0_0) = true := decide_eq_true c5
      clear c5
      obtain rfl := Option.some.inj H
      go_enter Try.func15, Try.ntmps15
      go_wp2_with (first | ((with_reducible refine gate_dst (N := 1) rfl ?_); refine box_event ?hg (N := 1) ?hd (cs := #[.int .i64 a0_0, .int .i64 a0_1, .int .i64 a0_2]) (t := 34) ?hr ?_; (case hd => rfl); (case hg => rfl); (case hr => first | (go_simp; done) | (go_simp; rfl)); intro gb191 hg w6 hbox hb; have n0_ := Aside0.mk (below_step (by repeat (first | (with_reducible first | exact HB.out | apply below_alloc | apply pw_below_drewN | apply below_drew1) | exact HB.out)) hb); have n1_ := Aside0.mk (hbox); have n2_ := Aside0.mk ((by rw [hg]; exact (below_size (by repeat (first | (with_reducible first | exact HB.out | apply below_alloc | apply pw_below_drewN | apply below_drew1) | exact HB.out))) : w.heap.size ≤ gb191)); have n3_ := Aside0.mk ((by rw [hg]; exact (below_size (by repeat (first | (with_reducible first | exact HB.out | apply below_alloc | apply pw_below_drewN | apply below_drew1) | exact HB.out))) : w.heap.size ≤ gb191)); clear HB; have HB := n0_; have BK191 := n1_; have GW191 := n2_; have GE191 := n3_; clear n0_ n1_ n2_ n3_; clear hb hbox hg; have hcz7_0 : w6.cell? ⟨gb191, 0, none⟩ = some (.int .i64 a0_0) := (blk_cell BK191.out 0).trans rfl; have hcz7_1 : w6.cell? ⟨gb191, 1, none⟩ = some (.int .i64 a0_1) := (blk_cell BK191.out 1).trans rfl; have hcz7_2 : w6.cell? ⟨gb191, 2, none⟩ = some (.int .i64 a0_2) := (blk_cell BK191.out 2).trans rfl; have hfz7_0 := blk_frozen BK191.out 0; have hfz7_1 := blk_frozen BK191.out 1; have hfz7_2 := blk_frozen BK191.out 2))
      go_ret
      exact ⟨by first | rfl | (simp [errW_none, errW_some] <;> rfl) | (simp [*, errW_none, errW_some] <;> rfl), by repeat (first | (with_reducible first | exact HB.out | apply below_alloc | apply pw_below_drewN | apply below_drew1 | refine below_set ?_ GE191.out) | exact HB.out)⟩
    · rw [if_neg c5] at H
      have c5b0 : decide (a0_1 < a0_0) = false := decide_eq_false c5
      clear c5
      by_cases c8 : a0_1 > 65536
      · rw [if_pos c8] at H
        have c8b0 : decide (65536 < a0_1) = true := decide_eq_true c8
        clear c8
        obtain rfl := Option.some.inj H
        go_enter Try.func15, Try.ntmps15
        go_wp2_with (first | ((with_reducible refine gate_dst (N := 1) rfl ?_); refine box_event ?hg (N := 1) ?hd (cs := #[.int .i64 a0_0, .int .i64 a0_1, .int .i64 a0_2]) (t := 34) ?hr ?_; (case hd => rfl); (case hg => rfl); (case hr => first | (go_simp; done) | (go_simp; rfl)); intro gb191 hg w9 hbox hb; have n0_ := Aside0.mk (below_step (by repeat (first | (with_reducible first | exact HB.out | apply below_alloc | apply pw_below_drewN | apply below_drew1) | exact HB.out)) hb); have n1_ := Aside0.mk (hbox); have n2_ := Aside0.mk ((by rw [hg]; exact (below_size (by repeat (first | (with_reducible first | exact HB.out | apply below_alloc | apply pw_below_drewN | apply below_drew1) | exact HB.out))) : w.heap.size ≤ gb191)); have n3_ := Aside0.mk ((by rw [hg]; exact (below_size (by repeat (first | (with_reducible first | exact HB.out | apply below_alloc | apply pw_below_drewN | apply below_drew1) | exact HB.out))) : w.heap.size ≤ gb191)); clear HB; have HB := n0_; have BK191 := n1_; have GW191 := n2_; have GE191 := n3_; clear n0_ n1_ n2_ n3_; clear hb hbox hg; have hcz10_0 : w9.cell? ⟨gb191, 0, none⟩ = some (.int .i64 a0_0) := (blk_cell BK191.out 0).trans rfl; have hcz10_1 : w9.cell? ⟨gb191, 1, none⟩ = some (.int .i64 a0_1) := (blk_cell BK191.out 1).trans rfl; have hcz10_2 : w9.cell? ⟨gb191, 2, none⟩ = some (.int .i64 a0_2) := (blk_cell BK191.out 2).trans rfl; have hfz10_0 := blk_frozen BK191.out 0; have hfz10_1 := blk_frozen BK191.out 1; have hfz10_2 := blk_frozen BK191.out 2))
        go_ret
        exact ⟨by first | rfl | (simp [errW_none, errW_some] <;> rfl) | (simp [*, errW_none, errW_some] <;> rfl), by repeat (first | (with_reducible first | exact HB.out | apply below_alloc | apply pw_below_drewN | apply below_drew1 | refine below_set ?_ GE191.out) | exact HB.out)⟩
      · rw [if_neg c8] at H
        have c8b0 : decide (65536 < a0_1) = false := decide_eq_false c8
        clear c8
        by_cases c11 : a0_2 < 1
        · rw [if_pos c11] at H
          have c11b0 : decide (a0_2 < 1) = true := decide_eq_true c11
          clear c11
          obtain rfl := Option.some.inj H
          go_enter Try.func15, Try.ntmps15
          go_wp2_with (first | ((with_reducible refine gate_dst (N := 1) rfl ?_); refine box_event ?hg (N := 1) ?hd (cs := #[.int .i64 a0_0, .int .i64 a0_1, .int .i64 a0_2]) (t := 34) ?hr ?_; (case hd => rfl); (case hg => rfl); (case hr => first | (go_simp; done) | (go_simp; rfl)); intro gb191 hg w12 hbox hb; have n0_ := Aside0.mk (below_step (by repeat (first | (with_reducible first | exact HB.out | apply below_alloc | apply pw_below_drewN | apply below_drew1) | exact HB.out)) hb); have n1_ := Aside0.mk (hbox); have n2_ := Aside0.mk ((by rw [hg]; exact (below_size (by repeat (first | (with_reducible first | exact HB.out | apply below_alloc | apply pw_below_drewN | apply below_drew1) | exact HB.out))) : w.heap.size ≤ gb191)); have n3_ := Aside0.mk ((by rw [hg]; exact (below_size (by repeat (first | (with_reducible first | exact HB.out | apply below_alloc | apply pw_below_drewN | apply below_drew1) | exact HB.out))) : w.heap.size ≤ gb191)); clear HB; have HB := n0_; have BK191 := n1_; have GW191 := n2_; have GE191 := n3_; clear n0_ n1_ n2_ n3_; clear hb hbox hg; have hcz13_0 : w12.cell? ⟨gb191, 0, none⟩ = some (.int .i64 a0_0) := (blk_cell BK191.out 0).trans rfl; have hcz13_1 : w12.cell? ⟨gb191, 1, none⟩ = some (.int .i64 a0_1) := (blk_cell BK191.out 1).trans rfl; have hcz13_2 : w12.cell? ⟨gb191, 2, none⟩ = some (.int .i64 a0_2) := (blk_cell BK191.out 2).trans rfl; have hfz13_0 := blk_frozen BK191.out 0; have hfz13_1 := blk_frozen BK191.out 1; have hfz13_2 := blk_frozen BK191.out 2))
          go_ret
          exact ⟨by first | rfl | (simp [errW_none, errW_some] <;> rfl) | (simp [*, errW_none, errW_some] <;> rfl), by repeat (first | (with_reducible first | exact HB.out | apply below_alloc | apply pw_below_drewN | apply below_drew1 | refine below_set ?_ GE191.out) | exact HB.out)⟩
        · rw [if_neg c11] at H
          have c11b0 : decide (a0_2 < 1) = false := decide_eq_false c11
          clear c11
          by_cases c14 : a0_2 > 24
          · rw [if_pos c14] at H
            have c14b0 : decide (24 < a0_2) = true := decide_eq_true c14
            clear c14
            obtain rfl := Option.some.inj H
            go_enter Try.func15, Try.ntmps15
            go_wp2_with (first | ((with_reducible refine gate_dst (N := 1) rfl ?_); refine box_event ?hg (N := 1) ?hd (cs := #[.int .i64 a0_0, .int .i64 a0_1, .int .i64 a0_2]) (t := 34) ?hr ?_; (case hd => rfl); (case hg => rfl); (case hr => first | (go_simp; done) | (go_simp; rfl)); intro gb191 hg w15 hbox hb; have n0_ := Aside0.mk (below_step (by repeat (first | (with_reducible first | exact HB.out | apply below_alloc | apply pw_below_drewN | apply below_drew1) | exact HB.out)) hb); have n1_ := Aside0.mk (hbox); have n2_ := Aside0.mk ((by rw [hg]; exact (below_size (by repeat (first | (with_reducible first | exact HB.out | apply below_alloc | apply pw_below_drewN | apply below_drew1) | exact HB.out))) : w.heap.size ≤ gb191)); have n3_ := Aside0.mk ((by rw [hg]; exact (below_size (by repeat (first | (with_reducible first | exact HB.out | apply below_alloc | apply pw_below_drewN | apply below_drew1) | exact HB.out))) : w.heap.size ≤ gb191)); clear HB; have HB := n0_; have BK191 := n1_; have GW191 := n2_; have GE191 := n3_; clear n0_ n1_ n2_ n3_; clear hb hbox hg; have hcz16_0 : w15.cell? ⟨gb191, 0, none⟩ = some (.int .i64 a0_0) := (blk_cell BK191.out 0).trans rfl; have hcz16_1 : w15.cell? ⟨gb191, 1, none⟩ = some (.int .i64 a0_1) := (blk_cell BK191.out 1).trans rfl; have hcz16_2 : w15.cell? ⟨gb191, 2, none⟩ = some (.int .i64 a0_2) := (blk_cell BK191.out 2).trans rfl; have hfz16_0 := blk_frozen BK191.out 0; have hfz16_1 := blk_frozen BK191.out 1; have hfz16_2 := blk_frozen BK191.out 2))
            go_ret
            exact ⟨by first | rfl | (simp [errW_none, errW_some] <;> rfl) | (simp [*, errW_none, errW_some] <;> rfl), by repeat (first | (with_reducible first | exact HB.out | apply below_alloc | apply pw_below_drewN | apply below_drew1 | refine below_set ?_ GE191.out) | exact HB.out)⟩
          · rw [if_neg c14] at H
            have c14b0 : decide (24 < a0_2) = false := decide_eq_false c14
            clear c14
            obtain rfl := Option.some.inj H
            go_enter Try.func15, Try.ntmps15
            go_wp2_with (first | ((with_reducible refine gate_dst (N := 1) rfl ?_); refine box_event ?hg (N := 1) ?hd (cs := #[.int .i64 a0_0, .int .i64 a0_1, .int .i64 a0_2]) (t := 34) ?hr ?_; (case hd => rfl); (case hg => rfl); (case hr => first | (go_simp; done) | (go_simp; rfl)); intro gb191 hg w17 hbox hb; have n0_ := Aside0.mk (below_step (by repeat (first | (with_reducible first | exact HB.out | apply below_alloc | apply pw_below_drewN | apply below_drew1) | exact HB.out)) hb); have n1_ := Aside0.mk (hbox); have n2_ := Aside0.mk ((by rw [hg]; exact (below_size (by repeat (first | (with_reducible first | exact HB.out | apply below_alloc | apply pw_below_drewN | apply below_drew1) | exact HB.out))) : w.heap.size ≤ gb191)); have n3_ := Aside0.mk ((by rw [hg]; exact (below_size (by repeat (first | (with_reducible first | exact HB.out | apply below_alloc | apply pw_below_drewN | apply below_drew1) | exact HB.out))) : w.heap.size ≤ gb191)); clear HB; have HB := n0_; have BK191 := n1_; have GW191 := n2_; have GE191 := n3_; clear n0_ n1_ n2_ n3_; clear hb hbox hg; have hcz18_0 : w17.cell? ⟨gb191, 0, none⟩ = some (.int .i64 a0_0) := (blk_cell BK191.out 0).trans rfl; have hcz18_1 : w17.cell? ⟨gb191, 1, none⟩ = some (.int .i64 a0_1) := (blk_cell BK191.out 1).trans rfl; have hcz18_2 : w17.cell? ⟨gb191, 2, none⟩ = some (.int .i64 a0_2) := (blk_cell BK191.out 2).trans rfl; have hfz18_0 := blk_frozen BK191.out 0; have hfz18_1 := blk_frozen BK191.out 1; have hfz18_2 := blk_frozen BK191.out 2))
            go_ret
            exact ⟨by first | rfl | (simp [errW_none, errW_some] <;> rfl) | (simp [*, errW_none, errW_some] <;> rfl), by repeat (first | (with_reducible first | exact HB.out | apply below_alloc | apply pw_below_drewN | apply below_drew1 | refine below_set ?_ GE191.out) | exact HB.out)⟩

/-! ### baileeref07_rare: function 16 -/
def baileeref07_rare.l0 : Nat → Int → Int → Int → Option (Bool)
  | 0, _, _, _ => none
  | k + 1, x0, x1, x5 => if x5 < (wrap64 (64 - x1)) then (baileeref07_rare.l0 k (IntKind.u64.wrap (Int.tdiv x0 2)) x1 (wrap64 (x5 + 1))) else (some (x0 == 0))
def baileeref07_rare.f (k : Nat) (a0 : Int) (a1 : Int) : Option (Bool) := baileeref07_rare.l0 k a0 a1 0
theorem baileeref07_rare.mono_l : ∀ k, (∀ y0 y1 y2, LeO (baileeref07_rare.l0 k y0 y1 y2) (baileeref07_rare.l0 (k + 1) y0 y1 y2))
  | 0 => fun _ _ _ r h => by simp [baileeref07_rare.l0] at h
  | k + 1 => by
    have ih0 := baileeref07_rare.mono_l k
    · intro y0 y1 y2
      unfold baileeref07_rare.l0
      repeat' first
      | (with_reducible exact ih0 _ _ _)
      | (with_reducible exact LeO.refl _)
      | (with_reducible exact LeO.none _)
      | (with_reducible refine LeO.ite ?_ ?_)
      | (with_reducible refine LeO.bind ?_ (fun _ => ?_))
      | exact ih0 _ _ _
      | exact LeO.none _
      | refine LeO.ite ?_ ?_
      | refine LeO.bind ?_ (fun _ => ?_)
theorem baileeref07_rare.mono : ∀ a0 a1 k, LeO (baileeref07_rare.f k a0 a1) (baileeref07_rare.f (k + 1) a0 a1) := by
  intro a0 a1 k
  have ih0 := baileeref07_rare.mono_l k
  unfold baileeref07_rare.f
  repeat' first
      | (with_reducible exact ih0 _ _ _)
      | (with_reducible exact LeO.refl _)
      | (with_reducible exact LeO.none _)
      | (with_reducible refine LeO.ite ?_ ?_)
      | (with_reducible refine LeO.bind ?_ (fun _ => ?_))
      | exact ih0 _ _ _
      | exact LeO.none _
      | refine LeO.ite ?_ ?_
      | refine LeO.bind ?_ (fun _ => ?_)
set_option maxHeartbeats 8000000 in
set_option maxRecDepth 100000 in
theorem baileeref07_rare.calls (k : Nat) (a0 : Int) (a1 : Int) (r : Bool) (w : World) (h : baileeref07_rare.f k a0 a1 = some r) :
    Calls Try.prog 16 #[.int .u64 a0, .int .i64 a1] w fun e w' => e = .returned (.bool r) ∧ Drawn0 w w' := by
  have H : (baileeref07_rare.l0 k a0 a1 0) = some r := h
  clear h
  have H' := Aside0.mk H
  clear H
  go_enter Try.func16, Try.ntmps16
  go_wp2
  go_loopg [0, 5] k (fun kq v0 v5 w' => ∃ (x0_1 : Int) (x5_1 : Int), v0 = .int .u64 x0_1 ∧ v5 = .int .i64 x5_1 ∧ Aside0 (baileeref07_rare.l0 kq x0_1 a1 x5_1 = some r) ∧ Aside0 (kq ≤ k) ∧ Drawn0 w w')
  case atStart => exact ⟨(a0), (0), (by first | rfl | (simp; done) | (simp [*]; done)), (by first | rfl | (simp; done) | (simp [*]; done)), H', ⟨Nat.le_refl _⟩, by repeat (first | exact Drawn0.refl _ | apply Drawn0.step)⟩
  case round =>
    clear H'
    try clear c1
    try clear p2
    obtain ⟨x0_1, x5_1, rfl, rfl, HA, HK1, ⟨m1, rfl⟩⟩ := hrel
    cases gk with
    | zero => exact absurd HA.out (by simp [baileeref07_rare.l0])
    | succ k1 =>
      have H := HA.out
      clear HA
      simp only [baileeref07_rare.l0] at H
      by_cases c3 : x5_1 < (wrap64 (64 - a1))
      · rw [if_pos c3] at H
        have c3b0 : decide (x5_1 < (wrap64 (64 - a1))) = true := decide_eq_true c3
        clear c3
        have H' := Aside0.mk H
        clear H
        go_wp2
        go_roundg k1
        case measure => have := HK1.out; omega
        case rel => exact ⟨(IntKind.u64.wrap (Int.tdiv x0_1 2)), (wrap64 (x5_1 + 1)), (by first | rfl | (simp; done) | (simp [*]; done)), (by first | rfl | (simp; done) | (simp [*]; done)), H', ⟨by have := HK1.out; omega⟩, by repeat (first | exact Drawn0.refl _ | apply Drawn0.step)⟩
      · rw [if_neg c3] at H
        have c3b0 : decide (x5_1 < (wrap64 (64 - a1))) = false := decide_eq_false c3
        clear c3
        obtain rfl := Option.some.inj H
        go_wp2
        go_ret
        exact ⟨by first | rfl | (simp; done) | (simp [*]; done), by repeat (first | exact Drawn0.refl _ | apply Drawn0.step)⟩

end Go.Proofs.Ytogbalmfojkgnaa.PCut
