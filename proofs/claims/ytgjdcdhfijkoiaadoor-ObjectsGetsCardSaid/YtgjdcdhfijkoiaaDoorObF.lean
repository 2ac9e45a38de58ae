/- The codec's reference: Bool and Id (put together by gen_orf.py out of the codec's texts). -/
import Derived.Test.YtgjdcdhfijkoiaaDoorPxC
import Derived.Test.YtgjdcdhfijkoiaaDoorCoB
section
-- PRINTED by hook.py; put together by gen_orf.py
namespace Go.Proofs.YtgjdcdhfijkoiaaDoor.PCod
open Go.RowKit Go.Proofs.YtgjdcdhfijkoiaaDoorW.PrintWords Go.Proofs.YtgjdcdhfijkoiaaDoorW.PrintLast Go.Proofs.YtgjdcdhfijkoiaaDoorW.PrintMore
attribute [local go_sem] max2_int min2_int max_two min_two max_three min_three max_four min_four   -- for this text's walks alone
set_option linter.unusedVariables false
set_option linter.unusedSimpArgs false

/-! ### baileeref12_yes: function 62 -/
def baileeref12_yes.f (a0 : Bool) : Option (ByteArray) := if a0 = true then (some (⟨#[1]⟩ : ByteArray)) else (some (⟨#[0]⟩ : ByteArray))
set_option maxHeartbeats 8000000 in
set_option maxRecDepth 100000 in
theorem baileeref12_yes.calls (a0 : Bool) (r : ByteArray) (w : World) (h : baileeref12_yes.f a0 = some r) :
    Calls Tryd.prog 62 #[.bool a0] w fun e w' => e = .returned (.string r) ∧ Drawn0 w w' := by
  have H : (if a0 = true then (some (⟨#[1]⟩ : ByteArray)) else (some (⟨#[0]⟩ : ByteArray))) = some r := h
  clear h
  by_cases c2 : a0 = true
  · subst c2
    have H1 : (some (⟨#[1]⟩ : ByteArray)) = some r := by rw [if_pos rfl] at H; exact H
    clear H
    have H := H1
    clear H1
    obtain rfl := Option.some.inj H
    go_enter Tryd.func62, Tryd.ntmps62
    go_wp2
    go_ret
    exact ⟨by first | rfl | (simp; done) | (simp [*]; done), by repeat (first | exact Drawn0.refl _ | apply Drawn0.step)⟩
  · replace c2 := Bool.eq_false_iff.mpr c2
    subst c2
    have H1 : (some (⟨#[0]⟩ : ByteArray)) = some r := by rw [if_neg (show ¬ (false = true) by decide)] at H; exact H
    clear H
    have H := H1
    clear H1
    obtain rfl := Option.some.inj H
    go_enter Tryd.func62, Tryd.ntmps62
    go_wp2
    go_ret
    exact ⟨by first | rfl | (simp; done) | (simp [*]; done), by repeat (first | exact Drawn0.refl _ | apply Drawn0.step)⟩


/-! ### baileeref01_Bool: function 70 -/
def baileeref01_Bool.f (a0_0 : ByteArray) (a0_1 : Int) : Option (ByteArray × Int × Bool) := (baileeref01_Fixed.f a0_0 a0_1 1).bind fun bt149 => (if bt149.2.1 = 0 then (if 0 < (bt149.2.2.size : Int) then (if (bt bt149.2.2 0) > 1 then (some (bt149.1, 11, false)) else (some (bt149.1, bt149.2.1, ((bt bt149.2.2 0) == 1)))) else (none)) else (some (bt149.1, bt149.2.1, false)))
set_option maxHeartbeats 8000000 in
set_option maxRecDepth 100000 in
theorem baileeref01_Bool.calls (a0_0 : ByteArray) (a0_1 : Int) (r1 : ByteArray) (r2 : Int) (r3 : Bool) (w : World) (h : baileeref01_Bool.f a0_0 a0_1 = some (r1, r2, r3)) :
    Calls Tryd.prog 70 #[.agg #[.string a0_0, .int .i64 a0_1]] w fun e w' => e = .returned (.tuple #[.agg #[.string r1, .int .i64 r2], .bool r3]) ∧ Below w.heap.size w w' := by
  have hu99 := Tryd.underlying99
  have HB := Aside0.mk (Below.refl w.heap.size w)
  have H : ((baileeref01_Fixed.f a0_0 a0_1 1).bind fun bt149 => (if bt149.2.1 = 0 then (if 0 < (bt149.2.2.size : Int) then (if (bt bt149.2.2 0) > 1 then (some (bt149.1, 11, false)) else (some (bt149.1, bt149.2.1, ((bt bt149.2.2 0) == 1)))) else (none)) else (some (bt149.1, bt149.2.1, false)))) = some (r1, r2, r3) := h
  clear h
  replace H := Option.bind_eq_some_iff.mp H
  obtain ⟨⟨t149, t150, t151⟩, A20, H⟩ := H
  replace H : (if t150 = 0 then (if 0 < (t151.size : Int) then (if (bt t151 0) > 1 then (some (t149, 11, false)) else (some (t149, t150, ((bt t151 0) == 1)))) else (none)) else (some (t149, t150, false))) = some (r1, r2, r3) := H
  have A2 := Aside0.mk A20
  clear A20
  by_cases c3 : t150 = 0
  · rw [if_pos c3] at H
    have c3b0 : (t150 == 0) = true := beq_iff_eq.mpr c3
    have c3b1 : (t150 != 0) = false := bne_eq_false_iff_eq.mpr c3
    clear c3
    by_cases c4 : 0 < (t151.size : Int)
    · rw [if_pos c4] at H
      have c4b0 : decide (0 < (t151.size : Int)) = true := decide_eq_true c4
      have c4b1 : decide (0 < t151.size) = true := decide_eq_true (by omega)
      clear c4
      by_cases c6 : (bt t151 0) > 1
      · rw [if_pos c6] at H
        have c6b0 : decide (1 < (bt t151 0)) = true := decide_eq_true c6
        clear c6
        simp only [Option.some.injEq, Prod.mk.injEq] at H
        obtain ⟨rfl, rfl, rfl⟩ := H
        have hss := set_set
        go_enter Tryd.func70, Tryd.ntmps70
        go_wp2_with (first | ((with_reducible refine gate_dst (N := 1) rfl ?_); refine box_event ?hg (N := 1) ?hd (cs := #[.string a0_0, .int .i64 a0_1]) (t := 99) ?hr ?_; (case hd => rfl); (case hg => rfl); (case hr => first | (go_simp; done) | (go_simp; rfl)); intro gb147 hg w7 hbox hb; have n0_ := Aside0.mk (below_step (by repeat (first | (with_reducible first | exact HB.out | apply below_alloc | apply pw_below_drewN | apply below_drew1) | exact HB.out)) hb); have n1_ := Aside0.mk (hbox); have n2_ := Aside0.mk ((by rw [hg]; exact (below_size (by repeat (first | (with_reducible first | exact HB.out | apply below_alloc | apply pw_below_drewN | apply below_drew1) | exact HB.out))) : w.heap.size ≤ gb147)); have n3_ := Aside0.mk ((by rw [hg]; exact (below_size (by repeat (first | (with_reducible first | exact HB.out | apply below_alloc | apply pw_below_drewN | apply below_drew1) | exact HB.out))) : w.heap.size ≤ gb147)); clear HB; have HB := n0_; have BK147 := n1_; have GW147 := n2_; have GE147 := n3_; clear n0_ n1_ n2_ n3_; clear hb hbox hg) | ((with_reducible refine gate_dst (N := 2) rfl ?_); refine box_event ?hg (N := 2) ?hd (cs := #[.string (⟨#[]⟩ : ByteArray), .int .i64 0]) (t := 99) ?hr ?_; (case hd => rfl); (case hg => rfl); (case hr => first | (go_simp; done) | (go_simp; rfl)); intro gb148 hg w8 hbox hb; have n0_ := Aside0.mk (blk_below (g := gb147) (o := .cells #[.string a0_0, .int .i64 a0_1] 99 (0, 0)) (by (with_reducible repeat (first | refine blk_drewN ?_ _ | refine blk_drew ?_ | refine blk_alloc ?_ _)); exact BK147.out) hb); have n1_ := Aside0.mk (below_step (by repeat (first | (with_reducible first | exact HB.out | apply below_alloc | apply pw_below_drewN | apply below_drew1 | refine below_set ?_ GE147.out) | exact HB.out)) hb); have n2_ := Aside0.mk (hbox); have n3_ := Aside0.mk ((by rw [hg]; exact (below_size (by repeat (first | (with_reducible first | exact HB.out | apply below_alloc | apply pw_below_drewN | apply below_drew1 | refine below_set ?_ GE147.out) | exact HB.out))) : w.heap.size ≤ gb148)); have n4_ := Aside0.mk ((by rw [hg]; exact (below_size (by repeat (first | (with_reducible first | exact HB.out | apply below_alloc | apply pw_below_drewN | apply below_drew1 | refine below_set ?_ GE147.out) | exact HB.out))) : w.heap.size ≤ gb148)); have n5_ := Aside0.mk ((by rw [hg]; exact Nat.ne_of_lt (blk_lt (g := gb147) (o := .cells #[.string a0_0, .int .i64 a0_1] 99 (0, 0)) (by (with_reducible repeat (first | refine blk_drewN ?_ _ | refine blk_drew ?_ | refine blk_alloc ?_ _)); exact BK147.out)) : gb147 ≠ gb148)); have n6_ := Aside0.mk ((by rw [hg]; exact Nat.ne_of_gt (blk_lt (g := gb147) (o := .cells #[.string a0_0, .int .i64 a0_1] 99 (0, 0)) (by (with_reducible repeat (first | refine blk_drewN ?_ _ | refine blk_drew ?_ | refine blk_alloc ?_ _)); exact BK147.out)) : gb148 ≠ gb147)); clear BK147; clear HB; have BK147 := n0_; have HB := n1_; have BK148 := n2_; have GW148 := n3_; have GE148 := n4_; have NB147_148 := n5_; have NB148_147 := n6_; clear n0_ n1_ n2_ n3_ n4_ n5_ n6_; clear hb hbox hg; have hnb9 := NB147_148.out; have hnc9 := NB148_147.out; have hcz10_0 : w8.cell? ⟨gb147, 0, none⟩ = some (.string a0_0) := (blk_cell BK147.out 0).trans rfl; have hcz10_1 : w8.cell? ⟨gb147, 1, none⟩ = some (.int .i64 a0_1) := (blk_cell BK147.out 1).trans rfl; have hfz10_0 := blk_frozen BK147.out 0; have hfz10_1 := blk_frozen BK147.out 1) | ((with_reducible refine gate_callee (f := 77) rfl ?_); refine goesL_ (some 7) rfl rfl Tryd.func77 (by kernel_rfl) rfl #[.agg #[.string a0_0, .int .i64 a0_1], .int .i64 1] rfl (by (try simp only [List.map_toArray, List.map_cons, List.map_nil]); first | done | rfl | (simp only [List.length_drop, List.length_take]; rfl)) ?_; (with_reducible refine (baileeref01_Fixed.calls a0_0 a0_1 1 t149 t150 t151 _ A2.out).mono ?_); rintro e w11 ⟨rfl, hb⟩; refine ⟨_, rfl, ?_⟩; have n0_ := Aside0.mk (blk_below (g := gb147) (o := .cells #[.string a0_0, .int .i64 a0_1] 99 (0, 0)) (by (with_reducible repeat (first | refine blk_drewN ?_ _ | refine blk_drew ?_ | refine blk_alloc ?_ _)); exact BK147.out) hb); have n1_ := Aside0.mk (blk_below (g := gb148) (o := .cells #[.string (⟨#[]⟩ : ByteArray), .int .i64 0] 99 (0, 0)) (by (with_reducible repeat (first | refine blk_drewN ?_ _ | refine blk_drew ?_ | refine blk_alloc ?_ _)); exact BK148.out) hb); have n2_ := Aside0.mk (below_step (by repeat (first | (with_reducible first | exact HB.out | apply below_alloc | apply pw_below_drewN | apply below_drew1 | refine below_set ?_ GE147.out | refine below_set ?_ GE148.out) | exact HB.out)) hb); clear BK147; clear BK148; clear HB; have BK147 := n0_; have BK148 := n1_; have HB := n2_; clear n0_ n1_ n2_; (try clear hb); (try clear hb2); (try clear hk); (try clear hi); have hcz12_0 : w11.cell? ⟨gb147, 0, none⟩ = some (.string a0_0) := (blk_cell BK147.out 0).trans rfl; have hcz12_1 : w11.cell? ⟨gb147, 1, none⟩ = some (.int .i64 a0_1) := (blk_cell BK147.out 1).trans rfl; have hfz12_0 := blk_frozen BK147.out 0; have hfz12_1 := blk_frozen BK147.out 1; have p5 : 0 ≤ (0 : Int) := (by omega); have q5 : 0 < t151.size := (by have : (0 : Int) < (t151.size : Int) := of_decide_eq_true (by first | (with_reducible assumption) | assumption); omega); have hx5 : ∀ h : 0 < t151.size, ((t151[0]'h).toNat : Int) = bt t151 0 := bt_at t151 0; clear p5; have qi5 : (0 < (t151.size : Int)) = True := eq_true (of_decide_eq_true (by first | (with_reducible assumption) | assumption)); replace q5 := eq_true q5; have hcz13_0 : w11.cell? ⟨gb148, 0, none⟩ = some (.string (⟨#[]⟩ : ByteArray)) := (blk_cell BK148.out 0).trans rfl; have hcz13_1 : w11.cell? ⟨gb148, 1, none⟩ = some (.int .i64 0) := (blk_cell BK148.out 1).trans rfl; have hfz13_0 := blk_frozen BK148.out 0; have hfz13_1 := blk_frozen BK148.out 1))
        refine bodyPost_ret (results_ct rfl _ _ gb148 99 #[.string t149, .int .i64 11] (0, 0) _ rfl (by (with_reducible repeat (first | refine blk_drewN ?_ _ | refine blk_drew ?_ | refine blk_alloc ?_ _)); refine blk_put (cs := #[.string t149, .int .i64 0]) ?_ 1 _ rfl; (with_reducible repeat (first | refine blk_drewN ?_ _ | refine blk_drew ?_ | refine blk_alloc ?_ _)); refine blk_put (cs := #[.string (⟨#[]⟩ : ByteArray), .int .i64 0]) ?_ 0 _ rfl; (with_reducible repeat (first | refine blk_drewN ?_ _ | refine blk_drew ?_ | refine blk_alloc ?_ _)); (try refine blk_far ?_ NB148_147.out _); (with_reducible repeat (first | refine blk_drewN ?_ _ | refine blk_drew ?_ | refine blk_alloc ?_ _)); (try refine blk_far ?_ NB148_147.out _); (with_reducible repeat (first | refine blk_drewN ?_ _ | refine blk_drew ?_ | refine blk_alloc ?_ _)); (try refine blk_far ?_ NB148_147.out _); (with_reducible repeat (first | refine blk_drewN ?_ _ | refine blk_drew ?_ | refine blk_alloc ?_ _)); exact BK148.out) Tryd.underlying99 rfl (by kernel_rfl)) rfl ?_
        exact ⟨by first | rfl | (simp [errW_none, errW_some] <;> rfl) | (simp [*, errW_none, errW_some] <;> rfl), by repeat (first | (with_reducible first | exact HB.out | apply below_alloc | apply pw_below_drewN | apply below_drew1 | refine below_set ?_ GE147.out | refine below_set ?_ GE148.out) | exact HB.out)⟩
      · rw [if_neg c6] at H
        have c6b0 : decide (1 < (bt t151 0)) = false := decide_eq_false c6
        clear c6
        simp only [Option.some.injEq, Prod.mk.injEq] at H
        obtain ⟨rfl, rfl, rfl⟩ := H
        have hss := set_set
        go_enter Tryd.func70, Tryd.ntmps70
        try go_wp2_with (first | ((with_reducible refine gate_dst (N := 1) rfl ?_); refine box_event ?hg (N := 1) ?hd (cs := #[.string a0_0, .int .i64 a0_1]) (t := 99) ?hr ?_; (case hd => rfl); (case hg => rfl); (case hr => first | (go_simp; done) | (go_simp; rfl)); intro gb147 hg w15 hbox hb; have n0_ := Aside0.mk (below_step (by repeat (first | (with_reducible first | exact HB.out | apply below_alloc | apply pw_below_drewN | apply below_drew1) | exact HB.out)) hb); have n1_ := Aside0.mk (hbox); have n2_ := Aside0.mk ((by rw [hg]; exact (below_size (by repeat (first | (with_reducible first | exact HB.out | apply below_alloc | apply pw_below_drewN | apply below_drew1) | exact HB.out))) : w.heap.size ≤ gb147)); have n3_ := Aside0.mk ((by rw [hg]; exact (below_size (by repeat (first | (with_reducible first | exact HB.out | apply below_alloc | apply pw_below_drewN | apply below_drew1) | exact HB.out))) : w.heap.size ≤ gb147)); clear HB; have HB := n0_; have BK147 := n1_; have GW147 := n2_; have GE147 := n3_; clear n0_ n1_ n2_ n3_; clear hb hbox hg) | ((with_reducible refine gate_dst (N := 2) rfl ?_); refine box_event ?hg (N := 2) ?hd (cs := #[.string (⟨#[]⟩ : ByteArray), .int .i64 0]) (t := 99) ?hr ?_; (case hd => rfl); (case hg => rfl); (case hr => first | (go_simp; done) | (go_simp; rfl)); intro gb148 hg w16 hbox hb; have n0_ := Aside0.mk (blk_below (g := gb147) (o := .cells #[.string a0_0, .int .i64 a0_1] 99 (0, 0)) (by (with_reducible repeat (first | refine blk_drewN ?_ _ | refine blk_drew ?_ | refine blk_alloc ?_ _)); exact BK147.out) hb); have n1_ := Aside0.mk (below_step (by repeat (first | (with_reducible first | exact HB.out | apply below_alloc | apply pw_below_drewN | apply below_drew1 | refine below_set ?_ GE147.out) | exact HB.out)) hb); have n2_ := Aside0.mk (hbox); have n3_ := Aside0.mk ((by rw [hg]; exact (below_size (by repeat (first | (with_reducible first | exact HB.out | apply below_alloc | apply pw_below_drewN | apply below_drew1 | refine below_set ?_ GE147.out) | exact HB.out))) : w.heap.size ≤ gb148)); have n4_ := Aside0.mk ((by rw [hg]; exact (below_size (by repeat (first | (with_reducible first | exact HB.out | apply below_alloc | apply pw_below_drewN | apply below_drew1 | refine below_set ?_ GE147.out) | exact HB.out))) : w.heap.size ≤ gb148)); have n5_ := Aside0.mk ((by rw [hg]; exact Nat.ne_of_lt (blk_lt (g := gb147) (o := .cells #[.string a0_0, .int .i64 a0_1] 99 (0, 0)) (by (with_reducible repeat (first | refine blk_drewN ?_ _ | refine blk_drew ?_ | refine blk_alloc ?_ _)); exact BK147.out)) : gb147 ≠ gb148)); have n6_ := Aside0.mk ((by rw [hg]; exact Nat.ne_of_gt (blk_lt (g := gb147) (o := .cells #[.string a0_0, .int .i64 a0_1] 99 (0, 0)) (by (with_reducible repeat (first | refine blk_drewN ?_ _ | refine blk_drew ?_ | refine blk_alloc ?_ _)); exact BK147.out)) : gb148 ≠ gb147)); clear BK147; clear HB; have BK147 := n0_; have HB := n1_; have BK148 := n2_; have GW148 := n3_; have GE148 := n4_; have NB147_148 := n5_; have NB148_147 := n6_; clear n0_ n1_ n2_ n3_ n4_ n5_ n6_; clear hb hbox hg; have hnb17 := NB147_148.out; have hnc17 := NB148_147.out; have hcz18_0 : w16.cell? ⟨gb147, 0, none⟩ = some (.string a0_0) := (blk_cell BK147.out 0).trans rfl; have hcz18_1 : w16.cell? ⟨gb147, 1, none⟩ = some (.int .i64 a0_1) := (blk_cell BK147.out 1).trans rfl; have hfz18_0 := blk_frozen BK147.out 0; have hfz18_1 := blk_frozen BK147.out 1) | ((with_reducible refine gate_callee (f := 77) rfl ?_); refine goesL_ (some 7) rfl rfl Tryd.func77 (by kernel_rfl) rfl #[.agg #[.string a0_0, .int .i64 a0_1], .int .i64 1] rfl (by (try simp only [List.map_toArray, List.map_cons, List.map_nil]); first | done | rfl | (simp only [List.length_drop, List.length_take]; rfl)) ?_; (with_reducible refine (baileeref01_Fixed.calls a0_0 a0_1 1 t149 t150 t151 _ A2.out).mono ?_); rintro e w19 ⟨rfl, hb⟩; refine ⟨_, rfl, ?_⟩; have n0_ := Aside0.mk (blk_below (g := gb147) (o := .cells #[.string a0_0, .int .i64 a0_1] 99 (0, 0)) (by (with_reducible repeat (first | refine blk_drewN ?_ _ | refine blk_drew ?_ | refine blk_alloc ?_ _)); exact BK147.out) hb); have n1_ := Aside0.mk (blk_below (g := gb148) (o := .cells #[.string (⟨#[]⟩ : ByteArray), .int .i64 0] 99 (0, 0)) (by (with_reducible repeat (first | refine blk_drewN ?_ _ | refine blk_drew ?_ | refine blk_alloc ?_ _)); exact BK148.out) hb); have n2_ := Aside0.mk (below_step (by repeat (first | (with_reducible first | exact HB.out | apply below_alloc | apply pw_below_drewN | apply below_drew1 | refine below_set ?_ GE147.out | refine below_set ?_ GE148.out) | exact HB.out)) hb); clear BK147; clear BK148; clear HB; have BK147 := n0_; have BK148 := n1_; have HB := n2_; clear n0_ n1_ n2_; (try clear hb); (try clear hb2); (try clear hk); (try clear hi); have hcz20_0 : w19.cell? ⟨gb147, 0, none⟩ = some (.string a0_0) := (blk_cell BK147.out 0).trans rfl; have hcz20_1 : w19.cell? ⟨gb147, 1, none⟩ = some (.int .i64 a0_1) := (blk_cell BK147.out 1).trans rfl; have hfz20_0 := blk_frozen BK147.out 0; have hfz20_1 := blk_frozen BK147.out 1; have p5 : 0 ≤ (0 : Int) := (by omega); have q5 : 0 < t151.size := (by have : (0 : Int) < (t151.size : Int) := of_decide_eq_true (by first | (with_reducible assumption) | assumption); omega); have hx5 : ∀ h : 0 < t151.size, ((t151[0]'h).toNat : Int) = bt t151 0 := bt_at t151 0; clear p5; have qi5 : (0 < (t151.size : Int)) = True := eq_true (of_decide_eq_true (by first | (with_reducible assumption) | assumption)); replace q5 := eq_true q5))
        have n0_ : Aside0 (((w19.setCell ⟨gb147, 0, none⟩ (.string t149)).setCell ⟨gb147, 1, none⟩ (.int .i64 t150)).heap[gb147]? = some (.cells #[.string t149, .int .i64 t150] 99 (0, 0))) := ⟨by (with_reducible repeat (first | refine blk_drewN ?_ _ | refine blk_drew ?_ | refine blk_alloc ?_ _)); refine blk_put (cs := #[.string t149, .int .i64 a0_1]) ?_ 1 _ rfl; (with_reducible repeat (first | refine blk_drewN ?_ _ | refine blk_drew ?_ | refine blk_alloc ?_ _)); refine blk_put (cs := #[.string a0_0, .int .i64 a0_1]) ?_ 0 _ rfl; (with_reducible repeat (first | refine blk_drewN ?_ _ | refine blk_drew ?_ | refine blk_alloc ?_ _)); exact BK147.out⟩
        have n1_ : Aside0 (((w19.setCell ⟨gb147, 0, none⟩ (.string t149)).setCell ⟨gb147, 1, none⟩ (.int .i64 t150)).heap[gb148]? = some (.cells #[.string (⟨#[]⟩ : ByteArray), .int .i64 0] 99 (0, 0))) := ⟨by (with_reducible repeat (first | refine blk_drewN ?_ _ | refine blk_drew ?_ | refine blk_alloc ?_ _)); (try refine blk_far ?_ NB148_147.out _); (with_reducible repeat (first | refine blk_drewN ?_ _ | refine blk_drew ?_ | refine blk_alloc ?_ _)); (try refine blk_far ?_ NB148_147.out _); (with_reducible repeat (first | refine blk_drewN ?_ _ | refine blk_drew ?_ | refine blk_alloc ?_ _)); exact BK148.out⟩
        have n2_ : Aside0 (Below w.heap.size w ((w19.setCell ⟨gb147, 0, none⟩ (.string t149)).setCell ⟨gb147, 1, none⟩ (.int .i64 t150))) := ⟨by repeat (first | (with_reducible first | exact HB.out | apply below_alloc | apply pw_below_drewN | apply below_drew1 | refine below_set ?_ GE147.out | refine below_set ?_ GE148.out) | exact HB.out)⟩
        (try clear BK147)
        (try clear BK148)
        (try clear HB)
        generalize ((w19.setCell ⟨gb147, 0, none⟩ (.string t149)).setCell ⟨gb147, 1, none⟩ (.int .i64 t150)) = w21 at n0_ n1_ n2_ ⊢
        have BK147 := n0_
        have BK148 := n1_
        have HB := n2_
        clear n0_ n1_ n2_
        have n0_ := Aside0.mk (blk_drew BK147.out)
        have n1_ := Aside0.mk (blk_drew BK148.out)
        have n2_ := Aside0.mk (below_drew1 HB.out)
        clear BK147
        clear BK148
        clear HB
        have BK147 := n0_
        have BK148 := n1_
        have HB := n2_
        clear n0_ n1_ n2_
        have p14 : 0 ≤ (0 : Int) := (by omega)
        have q14 : 0 < t151.size := (by have : (0 : Int) < (t151.size : Int) := of_decide_eq_true (by first | (with_reducible assumption) | assumption); omega)
        have hx14 : ∀ h : 0 < t151.size, ((t151[0]'h).toNat : Int) = bt t151 0 := bt_at t151 0
        clear p14
        have qi14 : (0 < (t151.size : Int)) = True := eq_true (of_decide_eq_true (by first | (with_reducible assumption) | assumption))
        replace q14 := eq_true q14
        refine start_ (n := 6) (S := fun w' => w'.cell? ⟨gb147, 0, none⟩ = some (.string t149) ∧ w'.cell? ⟨gb147, 1, none⟩ = some (.int .i64 t150)) (ds := []) #[false, false, false, false, false, false] (by kernel_rfl) rfl rfl ⟨(blk_cell BK147.out 0).trans rfl, (blk_cell BK147.out 1).trans rfl⟩ (fun hHeld => ?_)
        generalize w21.drew = w22 at BK147 BK148 HB hHeld ⊢
        refine pure_ (i := 1) (N := some 20) (v := ?_) (a' := ?_) #[false, true, false, false, false, false] rfl rfl (by kernel_rfl) (fun _ _ _ h => h) (Or.inl ⟨by rfl, ?_⟩) ?_ ?_
        rotate_left
        · intro w'
          go_simp
          with_reducible rfl
        rotate_left
        · simp only [Act.put, List.setIfInBounds_toArray, List.set_cons_zero, List.set_cons_succ, i64_w, i32_w]
          rfl
        refine take_ (i := 0) (N := some 19) (v := ?_) (a' := ?_) #[true, true, false, false, false, false] rfl rfl (by kernel_rfl) (fun _ _ _ h => h) (Or.inl ⟨by rfl, ?_⟩) hHeld ?_ ?_
        rotate_left
        · rintro w' ⟨s0, s1⟩
          go_simp
          with_reducible rfl
        rotate_left
        · simp only [Act.put, List.setIfInBounds_toArray, List.set_cons_zero, List.set_cons_succ, i64_w, i32_w]
          rfl
        refine take_ (i := 2) (N := some 21) (v := ?_) (a' := ?_) #[true, true, true, false, false, false] rfl rfl (by kernel_rfl) (fun _ _ _ h => h) (Or.inl ⟨by rfl, ?_⟩) hHeld ?_ ?_
        rotate_left
        · rintro w' ⟨s0, s1⟩
          go_simp
          with_reducible rfl
        rotate_left
        · simp only [Act.put, List.setIfInBounds_toArray, List.set_cons_zero, List.set_cons_succ, i64_w, i32_w]
          rfl
        refine pure_ (i := 3) (N := some 22) (v := ?_) (a' := ?_) #[true, true, true, true, false, false] rfl rfl (by kernel_rfl) (fun _ _ _ h => h) (Or.inl ⟨by rfl, ?_⟩) ?_ ?_
        rotate_left
        · intro w'
          go_simp
          with_reducible rfl
        rotate_left
        · simp only [Act.put, List.setIfInBounds_toArray, List.set_cons_zero, List.set_cons_succ, i64_w, i32_w]
          rfl
        refine one_ (i := 4) (N := none) #[true, true, true, true, true, false] rfl rfl (by kernel_rfl) (by decide) (fun K hK => ?_)
        have hs23 : w22.cell? ⟨gb148, 0, none⟩ = some (.string (⟨#[]⟩ : ByteArray)) := (blk_cell BK148.out 0).trans rfl
        have hfs23 := blk_frozen BK148.out 0
        have hns23_0 := NB147_148.out
        have hms23_0 := NB148_147.out
        have hs24 : w22.cell? ⟨gb148, 1, none⟩ = some (.int .i64 0) := (blk_cell BK148.out 1).trans rfl
        have hfs24 := blk_frozen BK148.out 1
        have hns24_0 := NB147_148.out
        have hms24_0 := NB148_147.out
        refine skip_ (w1 := ?_) (by rfl) rfl ?_ ?_
        rotate_left
        · go_simp
          rfl
        refine hK.out _ _ ⟨((cell_far (p := ⟨gb148, _, none⟩) NB147_148.out _).trans (((cell_far (p := ⟨gb148, _, none⟩) NB147_148.out _).trans (hHeld.1)))), ((cell_far (p := ⟨gb148, _, none⟩) NB147_148.out _).trans (((cell_far (p := ⟨gb148, _, none⟩) NB147_148.out _).trans (hHeld.2))))⟩ (fun hHeld => ?_)
        clear hK K
        refine pure_ (i := 5) (N := some 3) (v := ?_) (a' := ?_) #[true, true, true, true, true, true] rfl rfl (by kernel_rfl) (fun _ _ _ h => h) (Or.inl ⟨by rfl, ?_⟩) ?_ ?_
        rotate_left
        · intro w'
          go_simp
          with_reducible rfl
        rotate_left
        · simp only [Act.put, List.setIfInBounds_toArray, List.set_cons_zero, List.set_cons_succ, i64_w, i32_w]
          rfl
        refine done_ (by kernel_rfl) ?_
        try go_wp2
        refine bodyPost_ret (results_ct rfl _ _ gb148 99 #[.string t149, .int .i64 t150] (0, 0) _ rfl (by (with_reducible repeat (first | refine blk_drewN ?_ _ | refine blk_drew ?_ | refine blk_alloc ?_ _)); refine blk_put (cs := #[.string t149, .int .i64 0]) ?_ 1 _ rfl; (with_reducible repeat (first | refine blk_drewN ?_ _ | refine blk_drew ?_ | refine blk_alloc ?_ _)); refine blk_put (cs := #[.string (⟨#[]⟩ : ByteArray), .int .i64 0]) ?_ 0 _ rfl; (with_reducible repeat (first | refine blk_drewN ?_ _ | refine blk_drew ?_ | refine blk_alloc ?_ _)); exact BK148.out) Tryd.underlying99 rfl (by kernel_rfl)) rfl ?_
        exact ⟨by first | rfl | (simp [errW_none, errW_some] <;> rfl) | (simp [*, errW_none, errW_some] <;> rfl), by repeat (first | (with_reducible first | exact HB.out | apply below_alloc | apply pw_below_drewN | apply below_drew1 | refine below_set ?_ GE147.out | refine below_set ?_ GE148.out) | exact HB.out)⟩
    · rw [if_neg c4] at H
      exact absurd H (by simp)
  · rw [if_neg c3] at H
    have c3b0 : (t150 == 0) = false := beq_eq_false_iff_ne.mpr c3
    have c3b1 : (t150 != 0) = true := bne_iff_ne.mpr c3
    simp only [Option.some.injEq, Prod.mk.injEq] at H
    obtain ⟨rfl, rfl, rfl⟩ := H
    have hss := set_set
    go_enter Tryd.func70, Tryd.ntmps70
    go_wp2_with (first | ((with_reducible refine gate_dst (N := 1) rfl ?_); refine box_event ?hg (N := 1) ?hd (cs := #[.string a0_0, .int .i64 a0_1]) (t := 99) ?hr ?_; (case hd => rfl); (case hg => rfl); (case hr => first | (go_simp; done) | (go_simp; rfl)); intro gb147 hg w25 hbox hb; have n0_ := Aside0.mk (below_step (by repeat (first | (with_reducible first | exact HB.out | apply below_alloc | apply pw_below_drewN | apply below_drew1) | exact HB.out)) hb); have n1_ := Aside0.mk (hbox); have n2_ := Aside0.mk ((by rw [hg]; exact (below_size (by repeat (first | (with_reducible first | exact HB.out | apply below_alloc | apply pw_below_drewN | apply below_drew1) | exact HB.out))) : w.heap.size ≤ gb147)); have n3_ := Aside0.mk ((by rw [hg]; exact (below_size (by repeat (first | (with_reducible first | exact HB.out | apply below_alloc | apply pw_below_drewN | apply below_drew1) | exact HB.out))) : w.heap.size ≤ gb147)); clear HB; have HB := n0_; have BK147 := n1_; have GW147 := n2_; have GE147 := n3_; clear n0_ n1_ n2_ n3_; clear hb hbox hg) | ((with_reducible refine gate_dst (N := 2) rfl ?_); refine box_event ?hg (N := 2) ?hd (cs := #[.string (⟨#[]⟩ : ByteArray), .int .i64 0]) (t := 99) ?hr ?_; (case hd => rfl); (case hg => rfl); (case hr => first | (go_simp; done) | (go_simp; rfl)); intro gb148 hg w26 hbox hb; have n0_ := Aside0.mk (blk_below (g := gb147) (o := .cells #[.string a0_0, .int .i64 a0_1] 99 (0, 0)) (by (with_reducible repeat (first | refine blk_drewN ?_ _ | refine blk_drew ?_ | refine blk_alloc ?_ _)); exact BK147.out) hb); have n1_ := Aside0.mk (below_step (by repeat (first | (with_reducible first | exact HB.out | apply below_alloc | apply pw_below_drewN | apply below_drew1 | refine below_set ?_ GE147.out) | exact HB.out)) hb); have n2_ := Aside0.mk (hbox); have n3_ := Aside0.mk ((by rw [hg]; exact (below_size (by repeat (first | (with_reducible first | exact HB.out | apply below_alloc | apply pw_below_drewN | apply below_drew1 | refine below_set ?_ GE147.out) | exact HB.out))) : w.heap.size ≤ gb148)); have n4_ := Aside0.mk ((by rw [hg]; exact (below_size (by repeat (first | (with_reducible first | exact HB.out | apply below_alloc | apply pw_below_drewN | apply below_drew1 | refine below_set ?_ GE147.out) | exact HB.out))) : w.heap.size ≤ gb148)); have n5_ := Aside0.mk ((by rw [hg]; exact Nat.ne_of_lt (blk_lt (g := gb147) (o := .cells #[.string a0_0, .int .i64 a0_1] 99 (0, 0)) (by (with_reducible repeat (first | refine blk_drewN ?_ _ | refine blk_drew ?_ | refine blk_alloc ?_ _)); exact BK147.out)) : gb147 ≠ gb148)); have n6_ := Aside0.mk ((by rw [hg]; exact Nat.ne_of_gt (blk_lt (g := gb147) (o := .cells #[.string a0_0, .int .i64 a0_1] 99 (0, 0)) (by (with_reducible repeat (first | refine blk_drewN ?_ _ | refine blk_drew ?_ | refine blk_alloc ?_ _)); exact BK147.out)) : gb148 ≠ gb147)); clear BK147; clear HB; have BK147 := n0_; have HB := n1_; have BK148 := n2_; have GW148 := n3_; have GE148 := n4_; have NB147_148 := n5_; have NB148_147 := n6_; clear n0_ n1_ n2_ n3_ n4_ n5_ n6_; clear hb hbox hg; have hnb27 := NB147_148.out; have hnc27 := NB148_147.out; have hcz28_0 : w26.cell? ⟨gb147, 0, none⟩ = some (.string a0_0) := (blk_cell BK147.out 0).trans rfl; have hcz28_1 : w26.cell? ⟨gb147, 1, none⟩ = some (.int .i64 a0_1) := (blk_cell BK147.out 1).trans rfl; have hfz28_0 := blk_frozen BK147.out 0; have hfz28_1 := blk_frozen BK147.out 1) | ((with_reducible refine gate_callee (f := 77) rfl ?_); refine goesL_ (some 7) rfl rfl Tryd.func77 (by kernel_rfl) rfl #[.agg #[.string a0_0, .int .i64 a0_1], .int .i64 1] rfl (by (try simp only [List.map_toArray, List.map_cons, List.map_nil]); first | done | rfl | (simp only [List.length_drop, List.length_take]; rfl)) ?_; (with_reducible refine (baileeref01_Fixed.calls a0_0 a0_1 1 t149 t150 t151 _ A2.out).mono ?_); rintro e w29 ⟨rfl, hb⟩; refine ⟨_, rfl, ?_⟩; have n0_ := Aside0.mk (blk_below (g := gb147) (o := .cells #[.string a0_0, .int .i64 a0_1] 99 (0, 0)) (by (with_reducible repeat (first | refine blk_drewN ?_ _ | refine blk_drew ?_ | refine blk_alloc ?_ _)); exact BK147.out) hb); have n1_ := Aside0.mk (blk_below (g := gb148) (o := .cells #[.string (⟨#[]⟩ : ByteArray), .int .i64 0] 99 (0, 0)) (by (with_reducible repeat (first | refine blk_drewN ?_ _ | refine blk_drew ?_ | refine blk_alloc ?_ _)); exact BK148.out) hb); have n2_ := Aside0.mk (below_step (by repeat (first | (with_reducible first | exact HB.out | apply below_alloc | apply pw_below_drewN | apply below_drew1 | refine below_set ?_ GE147.out | refine below_set ?_ GE148.out) | exact HB.out)) hb); clear BK147; clear BK148; clear HB; have BK147 := n0_; have BK148 := n1_; have HB := n2_; clear n0_ n1_ n2_; (try clear hb); (try clear hb2); (try clear hk); (try clear hi); have hcz30_0 : w29.cell? ⟨gb147, 0, none⟩ = some (.string a0_0) := (blk_cell BK147.out 0).trans rfl; have hcz30_1 : w29.cell? ⟨gb147, 1, none⟩ = some (.int .i64 a0_1) := (blk_cell BK147.out 1).trans rfl; have hfz30_0 := blk_frozen BK147.out 0; have hfz30_1 := blk_frozen BK147.out 1; have hcz31_0 : w29.cell? ⟨gb148, 0, none⟩ = some (.string (⟨#[]⟩ : ByteArray)) := (blk_cell BK148.out 0).trans rfl; have hcz31_1 : w29.cell? ⟨gb148, 1, none⟩ = some (.int .i64 0) := (blk_cell BK148.out 1).trans rfl; have hfz31_0 := blk_frozen BK148.out 0; have hfz31_1 := blk_frozen BK148.out 1))
    refine bodyPost_ret (results_ct rfl _ _ gb148 99 #[.string t149, .int .i64 t150] (0, 0) _ rfl (by (with_reducible repeat (first | refine blk_drewN ?_ _ | refine blk_drew ?_ | refine blk_alloc ?_ _)); refine blk_put (cs := #[.string t149, .int .i64 0]) ?_ 1 _ rfl; (with_reducible repeat (first | refine blk_drewN ?_ _ | refine blk_drew ?_ | refine blk_alloc ?_ _)); refine blk_put (cs := #[.string (⟨#[]⟩ : ByteArray), .int .i64 0]) ?_ 0 _ rfl; (with_reducible repeat (first | refine blk_drewN ?_ _ | refine blk_drew ?_ | refine blk_alloc ?_ _)); (try refine blk_far ?_ NB148_147.out _); (with_reducible repeat (first | refine blk_drewN ?_ _ | refine blk_drew ?_ | refine blk_alloc ?_ _)); (try refine blk_far ?_ NB148_147.out _); (with_reducible repeat (first | refine blk_drewN ?_ _ | refine blk_drew ?_ | refine blk_alloc ?_ _)); exact BK148.out) Tryd.underlying99 rfl (by kernel_rfl)) rfl ?_
    exact ⟨by first | rfl | (simp [errW_none, errW_some] <;> rfl) | (simp [*, errW_none, errW_some] <;> rfl), by repeat (first | (with_reducible first | exact HB.out | apply below_alloc | apply pw_below_drewN | apply below_drew1 | refine below_set ?_ GE147.out | refine below_set ?_ GE148.out) | exact HB.out)⟩


end Go.Proofs.YtgjdcdhfijkoiaaDoor.PCod
end
section
namespace Go.Proofs.YtgjdcdhfijkoiaaDoor.Cod
open Go.RowKit Go.Proofs.YtgjdcdhfijkoiaaDoorW.PrintWords Go.Proofs.YtgjdcdhfijkoiaaDoorW.PrintLast Go.Proofs.YtgjdcdhfijkoiaaDoorW.PrintMore Go.Proofs.YtgjdcdhfijkoiaaDoor.Mem Go.Proofs.YtgjdcdhfijkoiaaDoor.PCod
set_option linter.unusedVariables false
set_option linter.unusedSimpArgs false
section
variable {w : World} {R : RM} {b r xs : List Int}
theorem bool_f (hb : Byt R.b) : baileeref01_Bool.f (S R.b) R.e = some (S R.bool.1.b, R.bool.1.e, R.rbool) := by
  unfold baileeref01_Bool.f RM.rbool
  rw [fixed_f hb, Option.bind_some]
  simp only
  obtain ⟨b, e⟩ := R
  by_cases he : e = 0
  · subst he
    cases b with
    | nil =>
      rw [bool_none]
      rw [show (⟨[], 0⟩ : RM).fixed 1 = (⟨[], 10⟩, []) from rfl]
      rfl
    | cons c r =>
      rw [bool_cons]
      have hf : (⟨c :: r, 0⟩ : RM).fixed 1 = (⟨r, 0⟩, [c]) := by
        unfold RM.fixed
        rw [if_neg (by simp), if_neg (by omega), if_neg (by simp; omega)]
        rfl
      have hc : Byt [c] := fun x hx => by simp at hx; rw [hx]; exact hb c List.mem_cons_self
      rw [hf]
      simp only
      rw [if_pos trivial, S_size, if_pos (by simp), S_bt hc]
      by_cases h1 : c > 1
      · rw [if_pos h1, if_pos h1, if_neg (by decide)]
      · rw [if_neg h1, if_neg h1, if_pos rfl]
  · rw [show (⟨b, e⟩ : RM).fixed 1 = (⟨b, e⟩, []) by unfold RM.fixed; rw [if_pos he], show (⟨b, e⟩ : RM).bool = (⟨b, e⟩, false) by unfold RM.bool; rw [if_pos he]]
    rw [if_neg he, if_neg he]
theorem ref_bool (hb : Byt R.b) : Calls Tryd.prog 70 #[stV R] w fun e w' => e = .returned (.tuple #[stV R.bool.1, .bool R.rbool]) ∧ Below w.heap.size w w' :=
  baileeref01_Bool.calls (S R.b) R.e _ _ _ w (bool_f hb)
set_option maxHeartbeats 2000000 in
set_option maxRecDepth 100000 in
theorem ref_id (hb : Byt R.b) : Calls Tryd.prog 71 #[stV R] w fun e w' => e = .returned (.tuple #[stV R.id.1, .agg (nums .u8 R.id.2).toArray]) ∧ Below w.heap.size w w' := by
  have h1 := fun W => Aside0.mk (ref_fixed (w := W) hb 32)
  have hlen : (R.fixed 32).2 = [] ∨ (R.fixed 32).2.length = 32 := fixed_len R 32
  have hxb := (RM.fixed_byt hb 32).2
  obtain ⟨xs, hxs⟩ : ∃ xs, xs = (R.fixed 32).2 := ⟨_, rfl⟩
  have hid : R.id = ((R.fixed 32).1, idOf xs) := by rw [hxs]; rfl
  rw [hid]
  rw [← hxs] at h1 hlen hxb
  obtain ⟨R1, hR1⟩ : ∃ R1, R1 = (R.fixed 32).1 := ⟨_, rfl⟩
  rw [← hR1] at h1 ⊢
  clear hR1 hid hxs
  obtain ⟨X, hX⟩ : ∃ X, X = S xs := ⟨_, rfl⟩
  rw [← hX] at h1
  have hsz : X.size ≤ 32 := by rw [hX, S_size]; rcases hlen with h | h <;> rw [h] <;> simp
  have HX := Aside0.mk (And.intro hX (And.intro hlen hxb))
  clear hX hlen hxb hb
  go_enter Tryd.func71, Tryd.ntmps71
  go_wp2_with (go_at_call 77; go_loud (refine (h1 _).out.mono ?_; rintro e w1 ⟨rfl, hb1⟩; obtain ⟨k1, k2, k3, k4⟩ := idW_1 _ _ _ hb1; have c10 : w1.cell? ⟨w.heap.size, 0, none⟩ = some (.string (S R.b)) := (blk_cell k1 0).trans rfl; have c11 : w1.cell? ⟨w.heap.size, 1, none⟩ = some (.int .i64 R.e) := (blk_cell k1 1).trans rfl; have f10 := blk_frozen k1 0; have f11 := blk_frozen k1 1; have HB1 := Aside0.mk (And.intro k1 (And.intro k2 (And.intro k3 k4))); clear hb1 k1 k2 k3 k4))
  have HW2 := Aside0.mk (idW_2 (A2 := #[.string (S R1.b), .int .i64 R1.e]) rfl HB1.out (.string (S R1.b)) (.int .i64 R1.e) rfl)
  go_loopg [6] X.size (fun q v6 wr => ∃ i : Nat, v6 = .int .i64 i ∧ q + i = X.size ∧ Aside0 (IdW w #[.string (S R1.b), .int .i64 R1.e] #[.string ByteArray.empty, .int .i64 0] wr) ∧ Aside0 (wr.heap[w1.heap.size]? = some (.cells (nums .u8 (idAt xs i)).toArray 74 (0, 0))))
  case atStart => exact ⟨0, rfl, by omega, ⟨HW2.out.1⟩, ⟨by rw [idAt_0]; exact HW2.out.2.1⟩⟩
  case round =>
    obtain ⟨i, rfl, hq, hW, hC⟩ := hrel
    by_cases hlt : i < X.size
    · have hcell : wr.cell? ⟨w1.heap.size, i, none⟩ = some (.int .u8 ((idAt xs i).getD i 0)) := by
        rw [blk_cell hC.out i, List.getElem?_toArray]
        have hxl : X.size = xs.length := by rw [HX.out.1, S_size]
        have h32 : i < (idAt xs i).length := by unfold idAt; rw [List.length_append, List.length_take, List.length_replicate]; omega
        unfold nums
        rw [List.getElem?_map, List.getElem?_eq_getElem h32, List.getD_eq_getElem?_getD, List.getElem?_eq_getElem h32]
        rfl
      have hfz := blk_frozen hC.out i
      have hbt := fun h : i < X.size => bt_at X i (by simpa using h)
      have hlb := HW2.out.2.2
      have HLB := Aside0.mk hlb
      clear hlb
      go_wp2
      have hxl : X.size = xs.length := by rw [HX.out.1, S_size]
      have hv : bt X i = xs.getD i 0 := by
        have hb := HX.out.2.2
        have hi : i < xs.length := by omega
        have e0 := hbt hlt
        rw [← bt_at X i (by simpa using hlt)]
        have e : X.data[i]? = some (UInt8.ofNat (xs.getD i 0).toNat) := by
          rw [HX.out.1, ← Array.getElem?_toList, strOfNums_data, List.getElem?_map, List.getD_eq_getElem?_getD, List.getElem?_eq_getElem hi]
          rfl
        have hh : i < X.data.size := hlt
        have h3 : X.data[i]? = some (X.data[i]'hh) := Array.getElem?_eq_getElem hh
        rw [e] at h3
        have e2 : X[(i : Int).toNat]'(by simpa using hlt) = X.data[i]'hh := rfl
        rw [e2, ← Option.some.inj h3, UInt8.toNat_ofNat']
        have := hb (xs.getD i 0) (by rw [List.getD_eq_getElem?_getD, List.getElem?_eq_getElem hi]; exact List.getElem_mem hi)
        omega
      go_roundg (X.size - (i + 1))
      case measure => omega
      case rel =>
        refine ⟨i + 1, by go_num, by omega, ⟨hW.out.set HLB.out _⟩, ⟨?_⟩⟩
        rw [show ((X[i]'hlt).toNat : Int) = bt X i from hbt hlt]
        have h := blk_set hC.out i (.int .u8 (bt X i))
        rw [← idAt_set xs i (by omega) (by omega), ← hv]
        unfold nums at h ⊢
        rw [List.map_set]
        simpa using h
    · go_wp2
      have hie : (nums .u8 (idAt xs i)) = nums .u8 (idOf xs) := by
        have hxl : X.size = xs.length := by rw [HX.out.1, S_size]
        rw [← idAt_end HX.out.2.1, show i = xs.length by omega]
      obtain ⟨arr, harr⟩ : ∃ arr, arr = (nums .u8 (idOf xs)).toArray := ⟨_, rfl⟩
      rw [hie, ← harr] at hC
      have hasz : arr.size = 32 := by rw [harr]; simp [nums, ← idAt_end HX.out.2.1, idAt]; rcases HX.out.2.1 with h | h <;> rw [h] <;> simp
      have ha1 : arr.all (·.oneCell') = true := by
        rw [harr, Array.all_eq_true_iff_forall_mem]
        intro v hv
        simp only [List.mem_toArray, nums, List.mem_map] at hv
        obtain ⟨x, _, rfl⟩ := hv
        rfl
      have hi61 : (Tryd.prog.info? 74).map (·.size) = some arr.size := by rw [hasz]; kernel_rfl
      have hold : zidL.toArray.size = arr.size := by rw [hasz]; rfl
      have HH := Aside0.mk (And.intro hi61 (And.intro hold (And.intro ha1 harr)))
      clear hi61 hold ha1 hasz harr hie
      obtain ⟨wd, hwd⟩ : ∃ wd, wd = wr.drew := ⟨_, rfl⟩
      have HWd : Aside0 (IdW w #[.string (S R1.b), .int .i64 R1.e] #[.string ByteArray.empty, .int .i64 0] wd) := ⟨by rw [hwd]; exact ⟨hW.out.1, hW.out.2.1, hW.out.2.2.1, below_drew1 hW.out.2.2.2⟩⟩
      have HCd : Aside0 (wd.heap[w1.heap.size]? = some (.cells arr 74 (0, 0))) := ⟨by rw [hwd]; exact hC.out⟩
      have hg23 : w.heap.size + 1 ≠ w.heap.size + 1 + 1 := by omega
      refine start_ (n := 4) (S := fun w' => w'.heap[w.heap.size]? = some (.cells #[.string (S R1.b), .int .i64 R1.e] 99 (0, 0)) ∧ w'.heap[w1.heap.size]? = some (.cells arr 74 (0, 0))) (ds := []) #[false, false, false, false] (by kernel_rfl) rfl rfl (by rw [← hwd]; exact ⟨HWd.out.1, HCd.out⟩) (fun hHeld => ?_)
      rw [← hwd] at hHeld ⊢
      clear hwd hC hW
      refine take_ (i := 0) (N := some 23) (v := .agg #[.string (S R1.b), .int .i64 R1.e]) (a' := ?_) #[true, false, false, false] rfl rfl (by kernel_rfl) (fun _ _ _ h => h) (Or.inl ⟨by rfl, fun w' s0 => exec_load_row w' 99 (.tmp 1) rfl w.heap.size rfl 99 _ (0, 0) _ s0.1 Tryd.underlying99 rfl (by kernel_rfl)⟩) hHeld ?_ ?_
      rotate_left
      · simp only [Act.put, List.setIfInBounds_toArray, List.set_cons_zero, List.set_cons_succ, i64_w, i32_w]
        rfl
      refine take_ (i := 1) (N := some 24) (v := .agg arr) (a' := ?_) #[true, true, false, false] rfl rfl (by kernel_rfl) (fun _ _ _ h => h) (Or.inl ⟨by rfl, fun w' s0 => exec_load_row w' 74 (.tmp 5) rfl w1.heap.size rfl 74 arr (0, 0) _ s0.2 Tryd.underlying74 rfl HH.out.1⟩) hHeld ?_ ?_
      rotate_left
      · simp only [Act.put, List.setIfInBounds_toArray, List.set_cons_zero, List.set_cons_succ, i64_w, i32_w]
        rfl
      have hlb := HW2.out.2.2
      refine one_ (i := 2) (N := none) #[true, true, true, false] rfl rfl (by kernel_rfl) (by decide) (fun K hK => ?_)
      refine skip_ (w1 := wd.setRow (w.heap.size + 1) #[.string (S R1.b), .int .i64 R1.e]) (by rfl) rfl (exec_store_row wd 99 (.tmp 2) (.tmp 23) rfl (w.heap.size + 1) _ rfl rfl 99 _ HWd.out.2.1 (by kernel_rfl) rfl (by simp [Value.oneCell'])) ?_
      refine hK.out _ _ ⟨(setRow_other _ _ _ _ (by omega)).trans hHeld.1, (setRow_other _ _ _ _ (by omega)).trans hHeld.2⟩ (fun hHeld2 => ?_)
      clear hK K
      refine one_ (i := 3) (N := none) #[true, true, true, true] rfl rfl (by kernel_rfl) (by decide) (fun K hK => ?_)
      refine skip_ (w1 := (wd.setRow (w.heap.size + 1) #[.string (S R1.b), .int .i64 R1.e]).setRow (w.heap.size + 1 + 1) arr) (by rfl) rfl (exec_store_row _ 74 (.tmp 3) (.tmp 24) rfl (w.heap.size + 1 + 1) _ rfl rfl 74 zidL.toArray ((setRow_other _ _ _ _ (by omega)).trans HWd.out.2.2.1) HH.out.1 HH.out.2.1 HH.out.2.2.1) ?_
      refine hK.out _ _ ⟨(setRow_other _ _ _ _ (by omega)).trans hHeld2.1, (setRow_other _ _ _ _ (by omega)).trans hHeld2.2⟩ (fun hHeld3 => ?_)
      clear hK K
      refine done_ (by kernel_rfl) ?_
      have hr2 : ((wd.setRow (w.heap.size + 1) #[.string (S R1.b), .int .i64 R1.e]).setRow (w.heap.size + 1 + 1) arr).heap[w.heap.size + 1]? = some (.cells #[.string (S R1.b), .int .i64 R1.e] 99 (0, 0)) := (setRow_other _ _ _ _ (by omega)).trans (setRow_heap _ _ _ _ _ _ HWd.out.2.1)
      have hr3 : ((wd.setRow (w.heap.size + 1) #[.string (S R1.b), .int .i64 R1.e]).setRow (w.heap.size + 1 + 1) arr).heap[w.heap.size + 1 + 1]? = some (.cells arr 74 (0, 0)) := setRow_heap _ _ _ _ _ _ ((setRow_other _ _ _ _ (by omega)).trans HWd.out.2.2.1)
      have hbe : Below w.heap.size w ((wd.setRow (w.heap.size + 1) #[.string (S R1.b), .int .i64 R1.e]).setRow (w.heap.size + 1 + 1) arr) := below_setRow (below_setRow HWd.out.2.2.2 (by omega) _) (by omega) _
      have HE := Aside0.mk (And.intro hr2 (And.intro hr3 hbe))
      clear hr2 hr3 hbe hHeld hHeld2 hHeld3
      go_wp2
      refine bodyPost_ret (results_cc rfl _ _ (w.heap.size + 1) (w.heap.size + 1 + 1) 99 74 #[.string (S R1.b), .int .i64 R1.e] arr (0, 0) (0, 0) _ _ rfl HE.out.1 Tryd.underlying99 rfl (by kernel_rfl) rfl HE.out.2.1 Tryd.underlying74 rfl HH.out.1) rfl ?_
      refine ⟨?_, HE.out.2.2⟩
      rw [HH.out.2.2.2]
end
end Go.Proofs.YtgjdcdhfijkoiaaDoor.Cod
end
