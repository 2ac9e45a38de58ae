/- Texts joined. -/
import Derived.Test.YtnajdnhgoakgaaaPWalx0
-- PRINTED anew over substituted functions by hook.py
namespace Go.Proofs.Ytnajdnhgoakgaaa.PWal
open Go.RowKit Go.Proofs.YtnajdnhgoakgaaaW.PrintWords Go.Proofs.YtnajdnhgoakgaaaW.PrintLast Go.Proofs.YtnajdnhgoakgaaaW.PrintMore
attribute [local go_sem] max2_int min2_int max_two min_two max_three min_three max_four min_four   -- for this text's walks alone
set_option linter.unusedVariables false
set_option linter.unusedSimpArgs false

/-! ### baileeref08_New: function 15 -/
mutual
def baileeref08_New.j0 : Nat → Int → Bool → Option (List ByteArray × Int × Int × Bool × Int)
  | 0, _, _ => none
  | k + 1, x0, x11 => if x11 = true then (some (([] : List ByteArray), 0, 0, false, 1)) else (baileeref08_New.l0 k x0 ([] : List ByteArray) 0)
def baileeref08_New.l0 : Nat → Int → List ByteArray → Int → Option (List ByteArray × Int × Int × Bool × Int)
  | 0, _, _, _ => none
  | k + 1, x0, x4, x5 => if x5 < x0 then (if 128 ≤ 281474976710656 then (if x4.length < 8796093022208 then (baileeref08_New.l0 k x0 (x4 ++ [strOfNums (List.replicate 128 0)]) (wrap64 (x5 + 1))) else (none)) else (none)) else (some (x4, (-1), 0, false, 0))
end
def baileeref08_New.f (k : Nat) (a0 : Int) : Option (List ByteArray × Int × Int × Bool × Int) := if a0 < 1 then (baileeref08_New.j0 k a0 true) else (baileeref08_New.j0 k a0 (decide (a0 > 65536)))
theorem baileeref08_New.mono_l : ∀ k, (∀ y0 y1, LeO (baileeref08_New.j0 k y0 y1) (baileeref08_New.j0 (k + 1) y0 y1)) ∧ (∀ y0 y1 y2, LeO (baileeref08_New.l0 k y0 y1 y2) (baileeref08_New.l0 (k + 1) y0 y1 y2))
  | 0 => ⟨fun _ _ r h => by simp [baileeref08_New.j0] at h, fun _ _ _ r h => by simp [baileeref08_New.l0] at h⟩
  | k + 1 => by
    obtain ⟨ih0, ih1⟩ := baileeref08_New.mono_l k
    refine ⟨?_, ?_⟩
    · intro y0 y1
      unfold baileeref08_New.j0
      repeat' first
      | (with_reducible exact ih0 _ _)
      | (with_reducible exact ih1 _ _ _)
      | (with_reducible exact LeO.refl _)
      | (with_reducible exact LeO.none _)
      | (with_reducible refine LeO.ite ?_ ?_)
      | (with_reducible refine LeO.bind ?_ (fun _ => ?_))
      | exact ih0 _ _
      | exact ih1 _ _ _
      | exact LeO.none _
      | refine LeO.ite ?_ ?_
      | refine LeO.bind ?_ (fun _ => ?_)
    · intro y0 y1 y2
      unfold baileeref08_New.l0
      repeat' first
      | (with_reducible exact ih0 _ _)
      | (with_reducible exact ih1 _ _ _)
      | (with_reducible exact LeO.refl _)
      | (with_reducible exact LeO.none _)
      | (with_reducible refine LeO.ite ?_ ?_)
      | (with_reducible refine LeO.bind ?_ (fun _ => ?_))
      | exact ih0 _ _
      | exact ih1 _ _ _
      | exact LeO.none _
      | refine LeO.ite ?_ ?_
      | refine LeO.bind ?_ (fun _ => ?_)
theorem baileeref08_New.mono : ∀ a0 k, LeO (baileeref08_New.f k a0) (baileeref08_New.f (k + 1) a0) := by
  intro a0 k
  obtain ⟨ih0, ih1⟩ := baileeref08_New.mono_l k
  unfold baileeref08_New.f
  repeat' first
      | (with_reducible exact ih0 _ _)
      | (with_reducible exact ih1 _ _ _)
      | (with_reducible exact LeO.refl _)
      | (with_reducible exact LeO.none _)
      | (with_reducible refine LeO.ite ?_ ?_)
      | (with_reducible refine LeO.bind ?_ (fun _ => ?_))
      | exact ih0 _ _
      | exact ih1 _ _ _
      | exact LeO.none _
      | refine LeO.ite ?_ ?_
      | refine LeO.bind ?_ (fun _ => ?_)
set_option maxHeartbeats 8000000 in
set_option maxRecDepth 100000 in
theorem baileeref08_New.calls (k : Nat) (a0 : Int) (r1 : List ByteArray) (r2 : Int) (r3 : Int) (r4 : Bool) (r5 : Int) (w : World) (h : baileeref08_New.f k a0 = some (r1, r2, r3, r4, r5)) :
    Calls Try.prog 15 #[.int .i64 a0] w fun e w' => ∃ v0_ : Value, e = .returned (.tuple #[.agg #[v0_, .int .i64 r2, .int .i64 r3, .bool r4], .int .i64 r5]) ∧ Kd.R Kd.string 9 w' w.heap.size (fun _ => True) v0_ r1 ∧ Below w.heap.size w w' := by
  have hu30 := Try.underlying30
  have HB := Aside0.mk (Below.refl w.heap.size w)
  have H : (if a0 < 1 then (baileeref08_New.j0 k a0 true) else (baileeref08_New.j0 k a0 (decide (a0 > 65536)))) = some (r1, r2, r3, r4, r5) := h
  clear h
  have HC2 := Aside0.mk H
  clear H
  go_enter Try.func15, Try.ntmps15
  go_upto_region 1 with (first | ((with_reducible refine gate_dst (N := 2) rfl ?_); refine box_event ?hg (N := 2) ?hd (cs := #[.slice none 0 0, .int .i64 0, .int .i64 0, .bool false]) (t := 30) ?hr ?_; (case hd => rfl); (case hg => rfl); (case hr => first | (go_simp; done) | (go_simp; rfl)); intro gb125 hg w3 hbox hb; have n0_ := Aside0.mk (below_step (by repeat (first | (with_reducible first | exact HB.out | apply below_alloc | apply pw_below_drewN | apply below_drew1) | exact HB.out)) hb); have n1_ := Aside0.mk (hbox); have n2_ := Aside0.mk ((by rw [hg]; exact (below_size (by repeat (first | (with_reducible first | exact HB.out | apply below_alloc | apply pw_below_drewN | apply below_drew1) | exact HB.out))) : w.heap.size ≤ gb125)); have n3_ := Aside0.mk ((by rw [hg]; exact (below_size (by repeat (first | (with_reducible first | exact HB.out | apply below_alloc | apply pw_below_drewN | apply below_drew1) | exact HB.out))) : w.heap.size ≤ gb125)); clear HB; have HB := n0_; have BK125 := n1_; have GW125 := n2_; have GE125 := n3_; clear n0_ n1_ n2_ n3_; clear hb hbox hg))
  (try simp only [Act.put, List.setIfInBounds_toArray, List.set_cons_zero, List.set_cons_succ])
  go_cut [11] (fun v11 wc => ∃ (kq : Nat) (x11_1 : Bool), v11 = .bool x11_1 ∧ Aside0 (baileeref08_New.j0 kq a0 x11_1 = some (r1, r2, r3, r4, r5)) ∧ Aside0 (kq ≤ k) ∧ Aside0 (wc.heap[gb125]? = some (.cells #[(.slice none 0 0), .int .i64 0, .int .i64 0, .bool false] 30 (0, 0))) ∧ Aside0 (Below w.heap.size w wc))
  case first =>
    have H := HC2.out
    clear HC2
    by_cases c4 : a0 < 1
    · rw [if_pos c4] at H
      have c4b0 : decide (a0 < 1) = true := decide_eq_true c4
      clear c4
      (first | rw [c4b0] | (simp only [i64_w, i32_w]; rw [c4b0]) | skip)
      have H' := Aside0.mk H
      clear H
      go_wp2
      go_meet
      case rel => exact ⟨_, (true), (by first | rfl | (simp; done) | (simp [*]; done)), H', ⟨by first | omega | exact Nat.le_refl _⟩, ⟨by (with_reducible repeat (first | refine blk_drewN ?_ _ | refine blk_drew ?_ | refine blk_alloc ?_ _)); exact BK125.out⟩, ⟨by repeat (first | (with_reducible first | exact HB.out | apply below_alloc | apply pw_below_drewN | apply below_drew1 | refine below_set ?_ GE125.out) | exact HB.out)⟩⟩
    · rw [if_neg c4] at H
      have c4b0 : decide (a0 < 1) = false := decide_eq_false c4
      clear c4
      (first | rw [c4b0] | (simp only [i64_w, i32_w]; rw [c4b0]) | skip)
      have H' := Aside0.mk H
      clear H
      go_wp2
      go_meet
      case rel => exact ⟨_, (decide (a0 > 65536)), (by first | rfl | (simp; done) | (simp [*]; done)), H', ⟨by first | omega | exact Nat.le_refl _⟩, ⟨by (with_reducible repeat (first | refine blk_drewN ?_ _ | refine blk_drew ?_ | refine blk_alloc ?_ _)); exact BK125.out⟩, ⟨by repeat (first | (with_reducible first | exact HB.out | apply below_alloc | apply pw_below_drewN | apply below_drew1 | refine below_set ?_ GE125.out) | exact HB.out)⟩⟩
  case rest =>
    clear HC2
    try clear c1
    try clear p2
    try clear c4
    try clear c4b0
    obtain ⟨kq, x11_1, rfl, HA, HJ1, BK125, HB⟩ := hcut
    cases kq with
    | zero => exact absurd HA.out (by simp [baileeref08_New.j0])
    | succ kj1 =>
      have H := HA.out
      clear HA
      simp only [baileeref08_New.j0] at H
      by_cases c5 : x11_1 = true
      · subst c5
        have H1 : (some (([] : List ByteArray), 0, 0, false, 1)) = some (r1, r2, r3, r4, r5) := by rw [if_pos rfl] at H; exact H
        clear H
        have H := H1
        clear H1
        simp only [Option.some.injEq, Prod.mk.injEq] at H
        obtain ⟨rfl, rfl, rfl, rfl, rfl⟩ := H
        have hcz6_0 : wc.cell? ⟨gb125, 0, none⟩ = some (.slice none 0 0) := (blk_cell BK125.out 0).trans rfl
        have hcz6_1 : wc.cell? ⟨gb125, 1, none⟩ = some (.int .i64 0) := (blk_cell BK125.out 1).trans rfl
        have hcz6_2 : wc.cell? ⟨gb125, 2, none⟩ = some (.int .i64 0) := (blk_cell BK125.out 2).trans rfl
        have hcz6_3 : wc.cell? ⟨gb125, 3, none⟩ = some (.bool false) := (blk_cell BK125.out 3).trans rfl
        have hfz6_0 := blk_frozen BK125.out 0
        have hfz6_1 := blk_frozen BK125.out 1
        have hfz6_2 := blk_frozen BK125.out 2
        have hfz6_3 := blk_frozen BK125.out 3
        go_wp2
        refine bodyPost_ret (results_ct rfl _ _ gb125 30 #[.slice none 0 0, .int .i64 0, .int .i64 0, .bool false] (0, 0) _ rfl (by (with_reducible repeat (first | refine blk_drewN ?_ _ | refine blk_drew ?_ | refine blk_alloc ?_ _)); refine blk_put (cs := #[.slice none 0 0, .int .i64 0, .int .i64 0, .bool false]) ?_ 3 _ rfl; (with_reducible repeat (first | refine blk_drewN ?_ _ | refine blk_drew ?_ | refine blk_alloc ?_ _)); refine blk_put (cs := #[.slice none 0 0, .int .i64 0, .int .i64 0, .bool false]) ?_ 2 _ rfl; (with_reducible repeat (first | refine blk_drewN ?_ _ | refine blk_drew ?_ | refine blk_alloc ?_ _)); refine blk_put (cs := #[.slice none 0 0, .int .i64 0, .int .i64 0, .bool false]) ?_ 1 _ rfl; (with_reducible repeat (first | refine blk_drewN ?_ _ | refine blk_drew ?_ | refine blk_alloc ?_ _)); refine blk_put (cs := #[.slice none 0 0, .int .i64 0, .int .i64 0, .bool false]) ?_ 0 _ rfl; (with_reducible repeat (first | refine blk_drewN ?_ _ | refine blk_drew ?_ | refine blk_alloc ?_ _)); exact BK125.out) Try.underlying30 rfl (by kernel_rfl)) rfl ?_
        exact ⟨_, by first | rfl | (simp [errW_none, errW_some] <;> rfl) | (simp [*, errW_none, errW_some] <;> rfl), by first | exact Kd.R_nil _ _ _ _ _ | exact Kd.N_nil _ _ _ _ _ | exact Kd.V_nil _ _ _ _ _ | exact Kd.Q_nil _ _ _ _ _ | exact Kd.S_nil _ _ _ _ _, by repeat (first | (with_reducible first | exact HB.out | apply below_alloc | apply pw_below_drewN | apply below_drew1 | refine below_set ?_ GE125.out) | exact HB.out)⟩
      · replace c5 := Bool.eq_false_iff.mpr c5
        subst c5
        have H1 : (baileeref08_New.l0 kj1 a0 ([] : List ByteArray) 0) = some (r1, r2, r3, r4, r5) := by rw [if_neg (show ¬ (false = true) by decide)] at H; exact H
        clear H
        have H := H1
        clear H1
        have H' := Aside0.mk H
        clear H
        go_wp2
        go_loopg [4, 5] kj1 (fun kq v4 v5 w' => ∃ (x4_2 : List ByteArray) (x5_2 : Int), v5 = .int .i64 x5_2 ∧ Aside0 (baileeref08_New.l0 kq a0 x4_2 x5_2 = some (r1, r2, r3, r4, r5)) ∧ Aside0 (kq ≤ kj1) ∧ Aside0 (Kd.R Kd.string 9 w' w.heap.size (fun _ => True) v4 x4_2) ∧ Aside0 (w'.heap[gb125]? = some (.cells #[(.slice none 0 0), .int .i64 0, .int .i64 0, .bool false] 30 (0, 0))) ∧ Aside0 (Below w.heap.size w w'))
        case atStart => exact ⟨(([] : List ByteArray)), (0), (by first | rfl | (simp; done) | (simp [*]; done)), H', ⟨Nat.le_refl _⟩, ⟨by first | exact Kd.R_nil _ _ _ _ _ | exact Kd.N_nil _ _ _ _ _ | exact Kd.V_nil _ _ _ _ _ | exact Kd.Q_nil _ _ _ _ _ | exact Kd.S_nil _ _ _ _ _⟩, ⟨by (with_reducible repeat (first | refine blk_drewN ?_ _ | refine blk_drew ?_ | refine blk_alloc ?_ _)); exact BK125.out⟩, ⟨by repeat (first | (with_reducible first | exact HB.out | apply below_alloc | apply pw_below_drewN | apply below_drew1 | refine below_set ?_ GE125.out) | exact HB.out)⟩⟩
        case round =>
          clear H'
          try clear c1
          try clear p2
          try clear c4
          try clear c4b0
          try clear c5
          try clear hcz6_0
          try clear hcz6_1
          try clear hcz6_2
          try clear hcz6_3
          try clear hfz6_0
          try clear hfz6_1
          try clear hfz6_2
          try clear hfz6_3
          try clear p2
          obtain ⟨x4_2, x5_2, rfl, HA, HK2, HO_4, BK125, HB⟩ := hrel
          cases gk with
          | zero => exact absurd HA.out (by simp [baileeref08_New.l0])
          | succ k2 =>
            have H := HA.out
            clear HA
            simp only [baileeref08_New.l0] at H
            by_cases c7 : x5_2 < a0
            · rw [if_pos c7] at H
              have c7b0 : decide (x5_2 < a0) = true := decide_eq_true c7
              clear c7
              by_cases c8 : 128 ≤ 281474976710656
              · rw [if_pos c8] at H
                have c8b0 := eq_true c8
                have c8b1 : decide (128 ≤ 281474976710656) = true := decide_eq_true c8
                clear c8
                obtain ⟨y126, hy126⟩ : ∃ y_ : List Int, y_ = (List.replicate 128 0) := ⟨_, rfl⟩
                replace H : (if x4_2.length < 8796093022208 then (baileeref08_New.l0 k2 a0 (x4_2 ++ [strOfNums y126]) (wrap64 (x5_2 + 1))) else (none)) = some (r1, r2, r3, r4, r5) := by first | (rw [hy126]; with_reducible exact H) | (have H2_ := (Option.bind_some _ _).symm.trans H; rw [hy126]; with_reducible exact H2_) | (have H2_ := (Option.bind_some _ _).symm.trans H; with_reducible exact H2_) | with_reducible exact H | (rw [hy126]; exact H) | exact H
                have Ny126 := Aside0.mk hy126
                clear hy126
                by_cases c9 : x4_2.length < 8796093022208
                · rw [if_pos c9] at H
                  have LMc9 := Aside0.mk c9
                  clear c9
                  obtain ⟨y129, hy129⟩ : ∃ y_ : List ByteArray, y_ = (x4_2 ++ [strOfNums y126]) := ⟨_, rfl⟩
                  replace H : (baileeref08_New.l0 k2 a0 y129 (wrap64 (x5_2 + 1))) = some (r1, r2, r3, r4, r5) := by first | (rw [hy129]; with_reducible exact H) | (have H2_ := (Option.bind_some _ _).symm.trans H; rw [hy129]; with_reducible exact H2_) | (have H2_ := (Option.bind_some _ _).symm.trans H; with_reducible exact H2_) | with_reducible exact H | (rw [hy129]; exact H) | exact H
                  have Ny129 := Aside0.mk hy129
                  clear hy129
                  have H' := Aside0.mk H
                  clear H
                  go_wp2_with (first | ((with_reducible refine gate_dst (N := 19) rfl ?_); refine Kd.R_make (Kd.int .u8) _ 5 rfl (N := 19) rfl 35 _ _ rfl 128 rfl rfl Try.underlying35 (.int .u8 0) 1 info5 rfl (by decide) (by omega) 0 (ok := fun _ => True) (okp := fun _ => True) rfl (fun _ hk => hk) trivial (by omega) (by omega) (Below.refl _ _) (Nat.le_refl _) ?_; intro v127 w10 ho11 hb hg_ hnew_; clear hg_ hnew_; (first | rw [← Ny126.out] at ho11 | (simp only [Int.reduceToNat] at ho11; rw [← Ny126.out] at ho11)); have n0_ := Aside0.mk (Kd.R_below (by (with_reducible repeat (first | apply Kd.R_alloc | apply Kd.R_drewN | apply Kd.R_drew)); exact HO_4.out) hb); have n1_ := Aside0.mk (Kd.R_lower ho11 (below_size (by repeat (first | (with_reducible first | exact HB.out | apply below_alloc | apply pw_below_drewN | apply below_drew1 | refine below_set ?_ GE125.out) | exact HB.out)))); have n2_ := Aside0.mk (blk_below (g := gb125) (o := .cells #[.slice none 0 0, .int .i64 0, .int .i64 0, .bool false] 30 (0, 0)) (by (with_reducible repeat (first | refine blk_drewN ?_ _ | refine blk_drew ?_ | refine blk_alloc ?_ _)); exact BK125.out) hb); have n3_ := Aside0.mk (below_step (by repeat (first | (with_reducible first | exact HB.out | apply below_alloc | apply pw_below_drewN | apply below_drew1 | refine below_set ?_ GE125.out) | exact HB.out)) hb); clear HO_4; clear BK125; clear HB; have HO_4 := n0_; have HO128 := n1_; have BK125 := n2_; have HB := n3_; clear n0_ n1_ n2_ n3_; clear hb ho11; have hcv12 := own_string (P := Try.prog) Try.underlying35 Try.underlying5 Try.underlying9 (Kd.own_of_R HO128.out)) | ((with_reducible refine gate_builtin (b := .append) (xs := #[.tmp 18, .tmp 21]) rfl ?_); at_builtin; refine Kd.R_append Kd.string (w0 := w) w.heap.size rfl (.tmp 18) (.tmp 21) 28 9 (.string ⟨#[]⟩) 16 rfl Try.underlying28 info9 rfl (by decide) (by omega) u4 x4_2 (strOfNums y126) [.string (strOfNums y126)] (fun _ => True) (fun _ => False) rfl rfl ?aP (fun _ hk => hk.elim) ?aF ?aO ?aB ?aS ?aL ?_; (case aP => exact rfl); (case aB => exact (by repeat (first | (with_reducible first | exact HB.out | apply below_alloc | apply pw_below_drewN | apply below_drew1 | refine below_set ?_ GE125.out) | exact HB.out))); (case aF => exact (fun _ _ => trivial)); (case aO => exact (by (with_reducible repeat (first | apply Kd.R_alloc | apply Kd.R_drewN | apply Kd.R_drew)); exact HO_4.out)); (case aS => exact (below_size (by repeat (first | (with_reducible first | exact HB.out | apply below_alloc | apply pw_below_drewN | apply below_drew1 | refine below_set ?_ GE125.out) | exact HB.out)))); (case aL => have := LMc9.out; omega); intro v130 w13 ho hb hg hat; rw [← Ny129.out] at ho; have n0_ := Aside0.mk (blk_grown (g := gb125) (o := .cells #[.slice none 0 0, .int .i64 0, .int .i64 0, .bool false] 30 (0, 0)) (by (with_reducible repeat (first | refine blk_drewN ?_ _ | refine blk_drew ?_ | refine blk_alloc ?_ _)); exact BK125.out) hg (Kd.R_ne HO_4.out BK125.out (by decide))); have n1_ := Aside0.mk (Kd.R_over' (by (with_reducible repeat (first | apply Kd.R_alloc | apply Kd.R_drewN | apply Kd.R_drew)); exact HO128.out) (Kd.R_typed (by (with_reducible repeat (first | apply Kd.R_alloc | apply Kd.R_drewN | apply Kd.R_drew)); exact HO_4.out)) (by decide) hg); have n2_ := Aside0.mk (hb); have n3_ := Aside0.mk (ho); clear BK125; clear HO128; clear HB; clear HO_4; have BK125 := n0_; have HO128 := n1_; have HB := n2_; have HO131 := n3_; clear n0_ n1_ n2_ n3_; clear ho hb hg hat))
                  go_roundg k2
                  case measure => have := HJ1.out; have := HK2.out; omega
                  case rel => exact ⟨(y129), (wrap64 (x5_2 + 1)), (by first | rfl | (simp; done) | (simp [*]; done)), H', ⟨by have := HJ1.out; have := HK2.out; omega⟩, ⟨by (with_reducible repeat (first | apply Kd.R_alloc | apply Kd.R_drewN | apply Kd.R_drew)); exact HO131.out⟩, ⟨by (with_reducible repeat (first | refine blk_drewN ?_ _ | refine blk_drew ?_ | refine blk_alloc ?_ _)); exact BK125.out⟩, ⟨by repeat (first | (with_reducible first | exact HB.out | apply below_alloc | apply pw_below_drewN | apply below_drew1 | refine below_set ?_ GE125.out) | exact HB.out)⟩⟩
                · rw [if_neg c9] at H
                  exact absurd H (by simp)
              · rw [if_neg c8] at H
                exact absurd H (by simp)
            · rw [if_neg c7] at H
              have c7b0 : decide (x5_2 < a0) = false := decide_eq_false c7
              clear c7
              simp only [Option.some.injEq, Prod.mk.injEq] at H
              obtain ⟨rfl, rfl, rfl, rfl, rfl⟩ := H
              obtain ⟨Ao14, co14, eo14⟩ := Kd.R_slice HO_4.out
              subst eo14
              have hcz15_0 : wr.cell? ⟨gb125, 0, none⟩ = some (.slice none 0 0) := (blk_cell BK125.out 0).trans rfl
              have hcz15_1 : wr.cell? ⟨gb125, 1, none⟩ = some (.int .i64 0) := (blk_cell BK125.out 1).trans rfl
              have hcz15_2 : wr.cell? ⟨gb125, 2, none⟩ = some (.int .i64 0) := (blk_cell BK125.out 2).trans rfl
              have hcz15_3 : wr.cell? ⟨gb125, 3, none⟩ = some (.bool false) := (blk_cell BK125.out 3).trans rfl
              have hfz15_0 := blk_frozen BK125.out 0
              have hfz15_1 := blk_frozen BK125.out 1
              have hfz15_2 := blk_frozen BK125.out 2
              have hfz15_3 := blk_frozen BK125.out 3
              go_wp2
              refine bodyPost_ret (results_ct rfl _ _ gb125 30 #[.slice Ao14 x4_2.length co14, .int .i64 (-1), .int .i64 0, .bool false] (0, 0) _ rfl (by (with_reducible repeat (first | refine blk_drewN ?_ _ | refine blk_drew ?_ | refine blk_alloc ?_ _)); refine blk_put (cs := #[.slice Ao14 x4_2.length co14, .int .i64 (-1), .int .i64 0, .bool false]) ?_ 3 _ rfl; (with_reducible repeat (first | refine blk_drewN ?_ _ | refine blk_drew ?_ | refine blk_alloc ?_ _)); refine blk_put (cs := #[.slice Ao14 x4_2.length co14, .int .i64 (-1), .int .i64 0, .bool false]) ?_ 2 _ rfl; (with_reducible repeat (first | refine blk_drewN ?_ _ | refine blk_drew ?_ | refine blk_alloc ?_ _)); refine blk_put (cs := #[.slice Ao14 x4_2.length co14, .int .i64 0, .int .i64 0, .bool false]) ?_ 1 _ rfl; (with_reducible repeat (first | refine blk_drewN ?_ _ | refine blk_drew ?_ | refine blk_alloc ?_ _)); refine blk_put (cs := #[.slice none 0 0, .int .i64 0, .int .i64 0, .bool false]) ?_ 0 _ rfl; (with_reducible repeat (first | refine blk_drewN ?_ _ | refine blk_drew ?_ | refine blk_alloc ?_ _)); exact BK125.out) Try.underlying30 rfl (by kernel_rfl)) rfl ?_
              exact ⟨_, by first | rfl | (simp [errW_none, errW_some] <;> rfl) | (simp [*, errW_none, errW_some] <;> rfl), by (with_reducible repeat (first | apply Kd.R_alloc | apply Kd.R_drewN | apply Kd.R_drew)); exact Kd.R_mono (Kd.R_far (p := ⟨gb125, 3, none⟩) (Kd.R_far (p := ⟨gb125, 2, none⟩) (Kd.R_far (p := ⟨gb125, 1, none⟩) (Kd.R_far (p := ⟨gb125, 0, none⟩) (Kd.R_types HO_4.out BK125.out (by decide)) (fun _ hk => hk.2) (.slice Ao14 x4_2.length co14)) (fun _ hk => hk.2) (.int .i64 (-1))) (fun _ hk => hk.2) (.int .i64 0)) (fun _ hk => hk.2) (.bool false)) (fun _ hk => trivial), by repeat (first | (with_reducible first | exact HB.out | apply below_alloc | apply pw_below_drewN | apply below_drew1 | refine below_set ?_ GE125.out) | exact HB.out)⟩

/-! ### baileeref08_Read: function 22 -/
def baileeref08_Read.f (l0_0 : List ByteArray) (a0_1 : Int) (a0_2 : Int) (a0_3 : Bool) (a1 : Int) : Option (ByteArray × Int) := if a0_3 = true then (some ((⟨#[]⟩ : ByteArray), 30)) else (if a1 < 0 then (some ((⟨#[]⟩ : ByteArray), 14)) else (if a1 ≥ (l0_0.length : Int) then (some ((⟨#[]⟩ : ByteArray), 14)) else (if 0 ≤ a1 then (if a1 < (l0_0.length : Int) then (some (rdOf ByteArray.empty l0_0 a1, 0)) else (none)) else (none))))
set_option maxHeartbeats 8000000 in
set_option maxRecDepth 100000 in
theorem baileeref08_Read.calls (A0_0 : Option Addr) (c0_0 : Nat) (l0_0 : List ByteArray) (a0_1 : Int) (a0_2 : Int) (a0_3 : Bool) (a1 : Int) (r1 : ByteArray) (r2 : Int) (w : World) (hr0_0 : Kd.C Kd.string w A0_0 l0_0.length l0_0) (hc0_0 : l0_0.length ≤ c0_0) (h : baileeref08_Read.f l0_0 a0_1 a0_2 a0_3 a1 = some (r1, r2)) :
    Calls Try.prog 22 #[.agg #[.slice A0_0 l0_0.length c0_0, .int .i64 a0_1, .int .i64 a0_2, .bool a0_3], .int .i64 a1] w fun e w' => e = .returned (.tuple #[.string r1, .int .i64 r2]) ∧ Below w.heap.size w w' := by
  have hu30 := Try.underlying30
  have HR0_0 := Aside0.mk hr0_0
  have HC0_0 := Aside0.mk hc0_0
  clear hr0_0 hc0_0
  have HB := Aside0.mk (Below.refl w.heap.size w)
  have H : (if a0_3 = true then (some ((⟨#[]⟩ : ByteArray), 30)) else (if a1 < 0 then (some ((⟨#[]⟩ : ByteArray), 14)) else (if a1 ≥ (l0_0.length : Int) then (some ((⟨#[]⟩ : ByteArray), 14)) else (if 0 ≤ a1 then (if a1 < (l0_0.length : Int) then (some (rdOf ByteArray.empty l0_0 a1, 0)) else (none)) else (none))))) = some (r1, r2) := h
  clear h
  by_cases c3 : a0_3 = true
  · subst c3
    have H1 : (some ((⟨#[]⟩ : ByteArray), 30)) = some (r1, r2) := by rw [if_pos rfl] at H; exact H
    clear H
    have H := H1
    clear H1
    simp only [Option.some.injEq, Prod.mk.injEq] at H
    obtain ⟨rfl, rfl⟩ := H
    go_enter Try.func22, Try.ntmps22
    go_wp2_with (first | ((with_reducible refine gate_dst (N := 2) rfl ?_); (try (refine gate_guard (by rfl) ?_; dsimp only)); refine box_event ?hg (N := 2) ?hd (cs := #[.slice A0_0 l0_0.length c0_0, .int .i64 a0_1, .int .i64 a0_2, .bool true]) (t := 30) ?hr ?_; (case hd => rfl); (case hg => rfl); (case hr => first | (go_simp; done) | (go_simp; rfl)); intro gb132 hg w4 hbox hb; have n0_ := Aside0.mk (below_step (by repeat (first | (with_reducible first | exact HB.out | apply below_alloc | apply pw_below_drewN | apply below_drew1) | exact HB.out)) hb); have n1_ := Aside0.mk (hbox); have n2_ := Aside0.mk ((by rw [hg]; exact (below_size (by repeat (first | (with_reducible first | exact HB.out | apply below_alloc | apply pw_below_drewN | apply below_drew1) | exact HB.out))) : w.heap.size ≤ gb132)); have n3_ := Aside0.mk ((by rw [hg]; exact (below_size (by repeat (first | (with_reducible first | exact HB.out | apply below_alloc | apply pw_below_drewN | apply below_drew1) | exact HB.out))) : w.heap.size ≤ gb132)); clear HB; have HB := n0_; have BK132 := n1_; have GW132 := n2_; have GE132 := n3_; clear n0_ n1_ n2_ n3_; clear hb hbox hg; have hcz5_0 : w4.cell? ⟨gb132, 0, none⟩ = some (.slice A0_0 l0_0.length c0_0) := (blk_cell BK132.out 0).trans rfl; have hcz5_1 : w4.cell? ⟨gb132, 1, none⟩ = some (.int .i64 a0_1) := (blk_cell BK132.out 1).trans rfl; have hcz5_2 : w4.cell? ⟨gb132, 2, none⟩ = some (.int .i64 a0_2) := (blk_cell BK132.out 2).trans rfl; have hcz5_3 : w4.cell? ⟨gb132, 3, none⟩ = some (.bool true) := (blk_cell BK132.out 3).trans rfl; have hfz5_0 := blk_frozen BK132.out 0; have hfz5_1 := blk_frozen BK132.out 1; have hfz5_2 := blk_frozen BK132.out 2; have hfz5_3 := blk_frozen BK132.out 3))
    go_ret2
    exact ⟨by first | rfl | (simp [errW_none, errW_some] <;> rfl) | (simp [*, errW_none, errW_some] <;> rfl), by repeat (first | (with_reducible first | exact HB.out | apply below_alloc | apply pw_below_drewN | apply below_drew1 | refine below_set ?_ GE132.out) | exact HB.out)⟩
  · replace c3 := Bool.eq_false_iff.mpr c3
    subst c3
    have H1 : (if a1 < 0 then (some ((⟨#[]⟩ : ByteArray), 14)) else (if a1 ≥ (l0_0.length : Int) then (some ((⟨#[]⟩ : ByteArray), 14)) else (if 0 ≤ a1 then (if a1 < (l0_0.length : Int) then (some (rdOf ByteArray.empty l0_0 a1, 0)) else (none)) else (none)))) = some (r1, r2) := by rw [if_neg (show ¬ (false = true) by decide)] at H; exact H
    clear H
    have H := H1
    clear H1
    by_cases c6 : a1 < 0
    · rw [if_pos c6] at H
      have c6b0 : decide (a1 < 0) = true := decide_eq_true c6
      clear c6
      simp only [Option.some.injEq, Prod.mk.injEq] at H
      obtain ⟨rfl, rfl⟩ := H
      go_enter Try.func22, Try.ntmps22
      go_wp2_with (first | ((with_reducible refine gate_dst (N := 2) rfl ?_); (try (refine gate_guard (by rfl) ?_; dsimp only)); refine box_event ?hg (N := 2) ?hd (cs := #[.slice A0_0 l0_0.length c0_0, .int .i64 a0_1, .int .i64 a0_2, .bool false]) (t := 30) ?hr ?_; (case hd => rfl); (case hg => rfl); (case hr => first | (go_simp; done) | (go_simp; rfl)); intro gb132 hg w7 hbox hb; have n0_ := Aside0.mk (below_step (by repeat (first | (with_reducible first | exact HB.out | apply below_alloc | apply pw_below_drewN | apply below_drew1) | exact HB.out)) hb); have n1_ := Aside0.mk (hbox); have n2_ := Aside0.mk ((by rw [hg]; exact (below_size (by repeat (first | (with_reducible first | exact HB.out | apply below_alloc | apply pw_below_drewN | apply below_drew1) | exact HB.out))) : w.heap.size ≤ gb132)); have n3_ := Aside0.mk ((by rw [hg]; exact (below_size (by repeat (first | (with_reducible first | exact HB.out | apply below_alloc | apply pw_below_drewN | apply below_drew1) | exact HB.out))) : w.heap.size ≤ gb132)); clear HB; have HB := n0_; have BK132 := n1_; have GW132 := n2_; have GE132 := n3_; clear n0_ n1_ n2_ n3_; clear hb hbox hg; have hcz8_0 : w7.cell? ⟨gb132, 0, none⟩ = some (.slice A0_0 l0_0.length c0_0) := (blk_cell BK132.out 0).trans rfl; have hcz8_1 : w7.cell? ⟨gb132, 1, none⟩ = some (.int .i64 a0_1) := (blk_cell BK132.out 1).trans rfl; have hcz8_2 : w7.cell? ⟨gb132, 2, none⟩ = some (.int .i64 a0_2) := (blk_cell BK132.out 2).trans rfl; have hcz8_3 : w7.cell? ⟨gb132, 3, none⟩ = some (.bool false) := (blk_cell BK132.out 3).trans rfl; have hfz8_0 := blk_frozen BK132.out 0; have hfz8_1 := blk_frozen BK132.out 1; have hfz8_2 := blk_frozen BK132.out 2; have hfz8_3 := blk_frozen BK132.out 3))
      go_ret2
      exact ⟨by first | rfl | (simp [errW_none, errW_some] <;> rfl) | (simp [*, errW_none, errW_some] <;> rfl), by repeat (first | (with_reducible first | exact HB.out | apply below_alloc | apply pw_below_drewN | apply below_drew1 | refine below_set ?_ GE132.out) | exact HB.out)⟩
    · rw [if_neg c6] at H
      have c6b0 : decide (a1 < 0) = false := decide_eq_false c6
      clear c6
      by_cases c9 : a1 ≥ (l0_0.length : Int)
      · rw [if_pos c9] at H
        have c9b0 : decide ((l0_0.length : Int) ≤ a1) = true := decide_eq_true c9
        clear c9
        simp only [Option.some.injEq, Prod.mk.injEq] at H
        obtain ⟨rfl, rfl⟩ := H
        go_enter Try.func22, Try.ntmps22
        go_wp2_with (first | ((with_reducible refine gate_dst (N := 2) rfl ?_); (try (refine gate_guard (by rfl) ?_; dsimp only)); refine box_event ?hg (N := 2) ?hd (cs := #[.slice A0_0 l0_0.length c0_0, .int .i64 a0_1, .int .i64 a0_2, .bool false]) (t := 30) ?hr ?_; (case hd => rfl); (case hg => rfl); (case hr => first | (go_simp; done) | (go_simp; rfl)); intro gb132 hg w10 hbox hb; have n0_ := Aside0.mk (below_step (by repeat (first | (with_reducible first | exact HB.out | apply below_alloc | apply pw_below_drewN | apply below_drew1) | exact HB.out)) hb); have n1_ := Aside0.mk (hbox); have n2_ := Aside0.mk ((by rw [hg]; exact (below_size (by repeat (first | (with_reducible first | exact HB.out | apply below_alloc | apply pw_below_drewN | apply below_drew1) | exact HB.out))) : w.heap.size ≤ gb132)); have n3_ := Aside0.mk ((by rw [hg]; exact (below_size (by repeat (first | (with_reducible first | exact HB.out | apply below_alloc | apply pw_below_drewN | apply below_drew1) | exact HB.out))) : w.heap.size ≤ gb132)); clear HB; have HB := n0_; have BK132 := n1_; have GW132 := n2_; have GE132 := n3_; clear n0_ n1_ n2_ n3_; clear hb hbox hg; have hcz11_0 : w10.cell? ⟨gb132, 0, none⟩ = some (.slice A0_0 l0_0.length c0_0) := (blk_cell BK132.out 0).trans rfl; have hcz11_1 : w10.cell? ⟨gb132, 1, none⟩ = some (.int .i64 a0_1) := (blk_cell BK132.out 1).trans rfl; have hcz11_2 : w10.cell? ⟨gb132, 2, none⟩ = some (.int .i64 a0_2) := (blk_cell BK132.out 2).trans rfl; have hcz11_3 : w10.cell? ⟨gb132, 3, none⟩ = some (.bool false) := (blk_cell BK132.out 3).trans rfl; have hfz11_0 := blk_frozen BK132.out 0; have hfz11_1 := blk_frozen BK132.out 1; have hfz11_2 := blk_frozen BK132.out 2; have hfz11_3 := blk_frozen BK132.out 3))
        go_ret2
        exact ⟨by first | rfl | (simp [errW_none, errW_some] <;> rfl) | (simp [*, errW_none, errW_some] <;> rfl), by repeat (first | (with_reducible first | exact HB.out | apply below_alloc | apply pw_below_drewN | apply below_drew1 | refine below_set ?_ GE132.out) | exact HB.out)⟩
      · rw [if_neg c9] at H
        have c9b0 : decide ((l0_0.length : Int) ≤ a1) = false := decide_eq_false c9
        clear c9
        by_cases c12 : 0 ≤ a1
        · rw [if_pos c12] at H
          have c12b0 : decide (0 ≤ a1) = true := decide_eq_true c12
          clear c12
          by_cases c13 : a1 < (l0_0.length : Int)
          · rw [if_pos c13] at H
            have c13b0 : decide (a1 < (l0_0.length : Int)) = true := decide_eq_true c13
            clear c13
            simp only [Option.some.injEq, Prod.mk.injEq] at H
            obtain ⟨rfl, rfl⟩ := H
            go_enter Try.func22, Try.ntmps22
            go_wp2_with (first | ((with_reducible refine gate_dst (N := 2) rfl ?_); (try (refine gate_guard (by rfl) ?_; dsimp only)); refine box_event ?hg (N := 2) ?hd (cs := #[.slice A0_0 l0_0.length c0_0, .int .i64 a0_1, .int .i64 a0_2, .bool false]) (t := 30) ?hr ?_; (case hd => rfl); (case hg => rfl); (case hr => first | (go_simp; done) | (go_simp; rfl)); intro gb132 hg w14 hbox hb; have n0_ := Aside0.mk (below_step (by repeat (first | (with_reducible first | exact HB.out | apply below_alloc | apply pw_below_drewN | apply below_drew1) | exact HB.out)) hb); have n1_ := Aside0.mk (hbox); have n2_ := Aside0.mk ((by rw [hg]; exact (below_size (by repeat (first | (with_reducible first | exact HB.out | apply below_alloc | apply pw_below_drewN | apply below_drew1) | exact HB.out))) : w.heap.size ≤ gb132)); have n3_ := Aside0.mk ((by rw [hg]; exact (below_size (by repeat (first | (with_reducible first | exact HB.out | apply below_alloc | apply pw_below_drewN | apply below_drew1) | exact HB.out))) : w.heap.size ≤ gb132)); clear HB; have HB := n0_; have BK132 := n1_; have GW132 := n2_; have GE132 := n3_; clear n0_ n1_ n2_ n3_; clear hb hbox hg; have hcz15_0 : w14.cell? ⟨gb132, 0, none⟩ = some (.slice A0_0 l0_0.length c0_0) := (blk_cell BK132.out 0).trans rfl; have hcz15_1 : w14.cell? ⟨gb132, 1, none⟩ = some (.int .i64 a0_1) := (blk_cell BK132.out 1).trans rfl; have hcz15_2 : w14.cell? ⟨gb132, 2, none⟩ = some (.int .i64 a0_2) := (blk_cell BK132.out 2).trans rfl; have hcz15_3 : w14.cell? ⟨gb132, 3, none⟩ = some (.bool false) := (blk_cell BK132.out 3).trans rfl; have hfz15_0 := blk_frozen BK132.out 0; have hfz15_1 := blk_frozen BK132.out 1; have hfz15_2 := blk_frozen BK132.out 2; have hfz15_3 := blk_frozen BK132.out 3; have p133 : 0 ≤ (a1 : Int) := of_decide_eq_true (by first | (with_reducible assumption) | assumption); have q133 : a1 < (l0_0.length : Int) := of_decide_eq_true (by first | (with_reducible assumption) | assumption); obtain ⟨ad133, e133, hx133_0⟩ := Kd.at_string HR0_0.out a1 p133 q133; cases e133; replace hx133_0 := (HB.out.cell (World.block_lt_of_cell? w _ hx133_0)).trans hx133_0; replace p133 := eq_true p133; replace q133 := eq_true q133))
            go_ret2
            exact ⟨by first | rfl | (simp [errW_none, errW_some] <;> rfl) | (simp [*, errW_none, errW_some] <;> rfl), by repeat (first | (with_reducible first | exact HB.out | apply below_alloc | apply pw_below_drewN | apply below_drew1 | refine below_set ?_ GE132.out) | exact HB.out)⟩
          · rw [if_neg c13] at H
            exact absurd H (by simp)
        · rw [if_neg c12] at H
          exact absurd H (by simp)

/-! ### baileeref08_Write: function 18 -/
def baileeref08_Write.f (l0_0 : List ByteArray) (a0_1 : Int) (a0_2 : Int) (a0_3 : Bool) (a1 : Int) (a2 : ByteArray) : Option (List ByteArray × Int × Int × Bool × Int) := (baileeref08_Read.f l0_0 a0_1 a0_2 a0_3 a1).bind fun bt136 => (if bt136.2 = 0 then (if (a2.size : Int) = 128 then (if ([] : List ByteArray).length + l0_0.length < 8796093022208 then ((some (([] : List ByteArray) ++ l0_0 : List ByteArray)).bind fun y138 => (if a0_1 = 0 then (if 0 ≤ a0_2 then (if a0_2 ≤ (a2.size : Int) then (if a0_2 ≤ (bt136.1.size : Int) then (if (a2.extract 0 (a0_2 : Int).toNat).size + (bt136.1.extract (a0_2 : Int).toNat bt136.1.size).size ≤ 9223372036854775807 then (if 0 ≤ a1 then (if a1 < (y138.length : Int) then (some ((y138.set (a1 : Int).toNat ((a2.extract 0 (a0_2 : Int).toNat) ++ (bt136.1.extract (a0_2 : Int).toNat bt136.1.size))), a0_1, a0_2, true, 30)) else (none)) else (none)) else (none)) else (none)) else (none)) else (none)) else (if 0 ≤ a1 then (if a1 < (y138.length : Int) then ((some (y138.set (a1 : Int).toNat a2 : List ByteArray)).bind fun y142 => (if a0_1 > 0 then (some (y142, wrap64 (a0_1 - 1), a0_2, a0_3, 0)) else (some (y142, a0_1, a0_2, a0_3, 0)))) else (none)) else (none)))) else (none)) else (some (l0_0, a0_1, a0_2, a0_3, 1))) else (some (l0_0, a0_1, a0_2, a0_3, bt136.2)))
def baileeref08_Write.T9 : Bool × List (List Nat × List Nat) := (true, [([], []), ([], []), ([], []), ([], []), ([3], [3]), ([2, 4], [2, 4]), ([], []), ([], []), ([7], [7]), ([6, 8], [6, 8]), ([5, 9], [5, 9]), ([0, 1, 0, 1, 2, 3, 4, 5, 6, 7, 8, 9, 10], [0, 1]), ([11, 10, 0, 1, 2, 3, 4, 5, 6, 7, 8, 9, 10], [10, 11])])
def baileeref08_Write.B9 : List Nat := [0, 0, 0, 0, 8, 28, 0, 0, 128, 448, 1020, 2047, 4095]
theorem baileeref08_Write.tab9 : rtab .any (opsOf Try.f18 9) = baileeref08_Write.T9 := by kernel_rfl
theorem baileeref08_Write.bits9 : waitsOk baileeref08_Write.T9.2 baileeref08_Write.B9 = true := by kernel_rfl
set_option maxHeartbeats 8000000 in
set_option maxRecDepth 100000 in
theorem baileeref08_Write.calls (P0_0_ : Nat → Prop) (u9000_ : Value) (l0_0 : List ByteArray) (a0_1 : Int) (a0_2 : Int) (a0_3 : Bool) (a1 : Int) (a2 : ByteArray) (r1 : List ByteArray) (r2 : Int) (r3 : Int) (r4 : Bool) (r5 : Int) (w0 w : World) (hB : Below w0.heap.size w0 w) (ho0_0 : Kd.R Kd.string 9 w w0.heap.size P0_0_ u9000_ l0_0) (h : baileeref08_Write.f l0_0 a0_1 a0_2 a0_3 a1 a2 = some (r1, r2, r3, r4, r5)) :
    Calls Try.prog 18 #[.agg #[u9000_, .int .i64 a0_1, .int .i64 a0_2, .bool a0_3], .int .i64 a1, .string a2] w fun e w' => ∃ v0_ : Value, e = .returned (.tuple #[.agg #[v0_, .int .i64 r2, .int .i64 r3, .bool r4], .int .i64 r5]) ∧ Kd.R Kd.string 9 w' w0.heap.size (fun k_ => (P0_0_ k_ ∨ w.heap.size ≤ k_)) v0_ r1 ∧ Below w0.heap.size w0 w' ∧ Kept w w' (fun k_ => P0_0_ k_) := by
  have hu30 := Try.underlying30
  have HO0_0 := Aside0.mk (show Kd.R Kd.string 9 w w0.heap.size (fun k_ => (P0_0_ k_ ∨ w.heap.size ≤ k_)) u9000_ l0_0 from Kd.R_mono ho0_0 (fun k_ hk => (.inl hk)))
  have HK := Aside0.mk (Kept.refl w (fun k_ => P0_0_ k_))
  have HW0 := Aside0.mk hB.size
  have HB := Aside0.mk hB
  clear hB
  have H : ((baileeref08_Read.f l0_0 a0_1 a0_2 a0_3 a1).bind fun bt136 => (if bt136.2 = 0 then (if (a2.size : Int) = 128 then (if ([] : List ByteArray).length + l0_0.length < 8796093022208 then ((some (([] : List ByteArray) ++ l0_0 : List ByteArray)).bind fun y138 => (if a0_1 = 0 then (if 0 ≤ a0_2 then (if a0_2 ≤ (a2.size : Int) then (if a0_2 ≤ (bt136.1.size : Int) then (if (a2.extract 0 (a0_2 : Int).toNat).size + (bt136.1.extract (a0_2 : Int).toNat bt136.1.size).size ≤ 9223372036854775807 then (if 0 ≤ a1 then (if a1 < (y138.length : Int) then (some ((y138.set (a1 : Int).toNat ((a2.extract 0 (a0_2 : Int).toNat) ++ (bt136.1.extract (a0_2 : Int).toNat bt136.1.size))), a0_1, a0_2, true, 30)) else (none)) else (none)) else (none)) else (none)) else (none)) else (none)) else (if 0 ≤ a1 then (if a1 < (y138.length : Int) then ((some (y138.set (a1 : Int).toNat a2 : List ByteArray)).bind fun y142 => (if a0_1 > 0 then (some (y142, wrap64 (a0_1 - 1), a0_2, a0_3, 0)) else (some (y142, a0_1, a0_2, a0_3, 0)))) else (none)) else (none)))) else (none)) else (some (l0_0, a0_1, a0_2, a0_3, 1))) else (some (l0_0, a0_1, a0_2, a0_3, bt136.2)))) = some (r1, r2, r3, r4, r5) := h
  clear h
  replace H := Option.bind_eq_some_iff.mp H
  obtain ⟨⟨t136, t137⟩, A40, H⟩ := H
  replace H : (if t137 = 0 then (if (a2.size : Int) = 128 then (if ([] : List ByteArray).length + l0_0.length < 8796093022208 then ((some (([] : List ByteArray) ++ l0_0 : List ByteArray)).bind fun y138 => (if a0_1 = 0 then (if 0 ≤ a0_2 then (if a0_2 ≤ (a2.size : Int) then (if a0_2 ≤ (t136.size : Int) then (if (a2.extract 0 (a0_2 : Int).toNat).size + (t136.extract (a0_2 : Int).toNat t136.size).size ≤ 9223372036854775807 then (if 0 ≤ a1 then (if a1 < (y138.length : Int) then (some ((y138.set (a1 : Int).toNat ((a2.extract 0 (a0_2 : Int).toNat) ++ (t136.extract (a0_2 : Int).toNat t136.size))), a0_1, a0_2, true, 30)) else (none)) else (none)) else (none)) else (none)) else (none)) else (none)) else (if 0 ≤ a1 then (if a1 < (y138.length : Int) then ((some (y138.set (a1 : Int).toNat a2 : List ByteArray)).bind fun y142 => (if a0_1 > 0 then (some (y142, wrap64 (a0_1 - 1), a0_2, a0_3, 0)) else (some (y142, a0_1, a0_2, a0_3, 0)))) else (none)) else (none)))) else (none)) else (some (l0_0, a0_1, a0_2, a0_3, 1))) else (some (l0_0, a0_1, a0_2, a0_3, t137))) = some (r1, r2, r3, r4, r5) := H
  have A4 := Aside0.mk A40
  clear A40
  by_cases c5 : t137 = 0
  · rw [if_pos c5] at H
    have c5b0 : (t137 == 0) = true := beq_iff_eq.mpr c5
    have c5b1 : (t137 != 0) = false := bne_eq_false_iff_eq.mpr c5
    clear c5
    by_cases c6 : (a2.size : Int) = 128
    · rw [if_pos c6] at H
      have c6b0 : ((a2.size : Int) == 128) = true := beq_iff_eq.mpr c6
      have c6b1 : ((a2.size : Int) != 128) = false := bne_eq_false_iff_eq.mpr c6
      clear c6
      by_cases c7 : ([] : List ByteArray).length + l0_0.length < 8796093022208
      · rw [if_pos c7] at H
        have LMc7 := Aside0.mk c7
        clear c7
        obtain ⟨y138, hy138⟩ : ∃ y_ : List ByteArray, y_ = (([] : List ByteArray) ++ l0_0) := ⟨_, rfl⟩
        replace H : (if a0_1 = 0 then (if 0 ≤ a0_2 then (if a0_2 ≤ (a2.size : Int) then (if a0_2 ≤ (t136.size : Int) then (if (a2.extract 0 (a0_2 : Int).toNat).size + (t136.extract (a0_2 : Int).toNat t136.size).size ≤ 9223372036854775807 then (if 0 ≤ a1 then (if a1 < (y138.length : Int) then (some ((y138.set (a1 : Int).toNat ((a2.extract 0 (a0_2 : Int).toNat) ++ (t136.extract (a0_2 : Int).toNat t136.size))), a0_1, a0_2, true, 30)) else (none)) else (none)) else (none)) else (none)) else (none)) else (none)) else (if 0 ≤ a1 then (if a1 < (y138.length : Int) then ((some (y138.set (a1 : Int).toNat a2 : List ByteArray)).bind fun y142 => (if a0_1 > 0 then (some (y142, wrap64 (a0_1 - 1), a0_2, a0_3, 0)) else (some (y142, a0_1, a0_2, a0_3, 0)))) else (none)) else (none))) = some (r1, r2, r3, r4, r5) := by first | (rw [hy138]; with_reducible exact H) | (have H2_ := (Option.bind_some _ _).symm.trans H; rw [hy138]; with_reducible exact H2_) | (have H2_ := (Option.bind_some _ _).symm.trans H; with_reducible exact H2_) | with_reducible exact H | (rw [hy138]; exact H) | exact H
        have Ny138 := Aside0.mk hy138
        clear hy138
        by_cases c8 : a0_1 = 0
        · rw [if_pos c8] at H
          have c8b0 : (a0_1 == 0) = true := beq_iff_eq.mpr c8
          have c8b1 : (a0_1 != 0) = false := bne_eq_false_iff_eq.mpr c8
          clear c8
          by_cases c9 : 0 ≤ a0_2
          · rw [if_pos c9] at H
            have c9b0 := eq_true c9
            have c9b1 : decide (0 ≤ a0_2) = true := decide_eq_true c9
            clear c9
            by_cases c10 : a0_2 ≤ (a2.size : Int)
            · rw [if_pos c10] at H
              have c10b0 := eq_true c10
              have c10b1 : decide (a0_2 ≤ (a2.size : Int)) = true := decide_eq_true c10
              clear c10
              have c11b0 := eq_true (of_decide_eq_true (by first | (with_reducible assumption) | assumption) : 0 ≤ a0_2)
              by_cases c12 : a0_2 ≤ (t136.size : Int)
              · rw [if_pos c12] at H
                have c12b0 := eq_true c12
                have c12b1 : decide (a0_2 ≤ (t136.size : Int)) = true := decide_eq_true c12
                clear c12
                by_cases c13 : (a2.extract 0 (a0_2 : Int).toNat).size + (t136.extract (a0_2 : Int).toNat t136.size).size ≤ 9223372036854775807
                · rw [if_pos c13] at H
                  have c13b0 := eq_true c13
                  have hzz_ : (9223372036854775807 < t136.size) = False := eq_false (by have h_ := c13; simp only [ByteArray.size_extract] at h_; have h1 := of_eq_true c12b0; have h2 := of_eq_true c10b0; omega)
                  have c13b1 : decide ((a2.extract 0 (a0_2 : Int).toNat).size + (t136.extract (a0_2 : Int).toNat t136.size).size ≤ 9223372036854775807) = true := decide_eq_true c13
                  try have c13b2 : (9223372036854775807 < (a2.extract 0 (a0_2 : Int).toNat).size + (t136.extract (a0_2 : Int).toNat t136.size).size) = False := eq_false (Nat.not_lt.2 c13)
                  by_cases c14 : 0 ≤ a1
                  · rw [if_pos c14] at H
                    have c14b0 : decide (0 ≤ a1) = true := decide_eq_true c14
                    clear c14
                    by_cases c15 : a1 < (y138.length : Int)
                    · rw [if_pos c15] at H
                      have c15b0 : decide (a1 < (y138.length : Int)) = true := decide_eq_true c15
                      clear c15
                      obtain ⟨y141, hy141⟩ : ∃ y_ : List ByteArray, y_ = (y138.set (a1 : Int).toNat ((a2.extract 0 (a0_2 : Int).toNat) ++ (t136.extract (a0_2 : Int).toNat t136.size))) := ⟨_, rfl⟩
                      replace H : (some (y141, a0_1, a0_2, true, 30)) = some (r1, r2, r3, r4, r5) := by first | (rw [hy141]; with_reducible exact H) | (have H2_ := (Option.bind_some _ _).symm.trans H; rw [hy141]; with_reducible exact H2_) | (have H2_ := (Option.bind_some _ _).symm.trans H; with_reducible exact H2_) | with_reducible exact H | (rw [hy141]; exact H) | exact H
                      have Ny141 := Aside0.mk hy141
                      clear hy141
                      simp only [Option.some.injEq, Prod.mk.injEq] at H
                      obtain ⟨rfl, rfl, rfl, rfl, rfl⟩ := H
                      obtain ⟨Ao17, co17, eo17⟩ := Kd.R_slice HO0_0.out
                      subst eo17
                      go_enter Try.func18, Try.ntmps18
                      try go_wp2_with (first | ((with_reducible refine gate_dst (N := 3) rfl ?_); refine box_event ?hg (N := 3) ?hd (cs := #[.slice Ao17 l0_0.length co17, .int .i64 a0_1, .int .i64 a0_2, .bool a0_3]) (t := 30) ?hr ?_; (case hd => rfl); (case hg => rfl); (case hr => first | (go_simp; done) | (go_simp; rfl)); intro gb134 hg w18 hbox hb; have n0_ := Aside0.mk (Kd.R_below (by (with_reducible repeat (first | apply Kd.R_alloc | apply Kd.R_drewN | apply Kd.R_drew)); exact HO0_0.out) hb); have n1_ := Aside0.mk (Kept.below (S := (fun k_ => P0_0_ k_)) (by repeat (first | (with_reducible first | exact HK.out | apply Kept.alloc | apply Kept.drewN | apply Kept.drew) | exact HK.out)) hb); have n2_ := Aside0.mk (below_step (by repeat (first | (with_reducible first | exact HB.out | apply below_alloc | apply pw_below_drewN | apply below_drew1) | exact HB.out)) hb); have n3_ := Aside0.mk (hbox); have n4_ := Aside0.mk ((by rw [hg]; exact (by first | exact HK.out.1 | exact (show Kept w _ (fun k_ => P0_0_ k_) from by repeat (first | (with_reducible first | exact HK.out | apply Kept.alloc | apply Kept.drewN | apply Kept.drew) | exact HK.out)).1) : w.heap.size ≤ gb134)); have n5_ := Aside0.mk ((by rw [hg]; exact (below_size (by repeat (first | (with_reducible first | exact HB.out | apply below_alloc | apply pw_below_drewN | apply below_drew1) | exact HB.out))) : w0.heap.size ≤ gb134)); clear HO0_0; clear HK; clear HB; have HO0_0 := n0_; have HK := n1_; have HB := n2_; have BK134 := n3_; have GW134 := n4_; have GE134 := n5_; clear n0_ n1_ n2_ n3_ n4_ n5_; clear hb hbox hg) | ((with_reducible refine gate_dst (N := 6) rfl ?_); refine box_event ?hg (N := 6) ?hd (cs := #[.slice none 0 0, .int .i64 0, .int .i64 0, .bool false]) (t := 30) ?hr ?_; (case hd => rfl); (case hg => rfl); (case hr => first | (go_simp; done) | (go_simp; rfl)); intro gb135 hg w19 hbox hb; have n0_ := Aside0.mk (Kd.R_below (by (with_reducible repeat (first | apply Kd.R_alloc | apply Kd.R_drewN | apply Kd.R_drew)); exact HO0_0.out) hb); have n1_ := Aside0.mk (blk_below (g := gb134) (o := .cells #[.slice Ao17 l0_0.length co17, .int .i64 a0_1, .int .i64 a0_2, .bool a0_3] 30 (0, 0)) (by (with_reducible repeat (first | refine blk_drewN ?_ _ | refine blk_drew ?_ | refine blk_alloc ?_ _)); exact BK134.out) hb); have n2_ := Aside0.mk (Kept.below (S := (fun k_ => P0_0_ k_)) (by repeat (first | (with_reducible first | exact HK.out | apply Kept.alloc | apply Kept.drewN | apply Kept.drew | refine Kept.setCell ?_ (.inr GW134.out) _) | exact HK.out)) hb); have n3_ := Aside0.mk (below_step (by repeat (first | (with_reducible first | exact HB.out | apply below_alloc | apply pw_below_drewN | apply below_drew1 | refine below_set ?_ GE134.out) | exact HB.out)) hb); have n4_ := Aside0.mk (hbox); have n5_ := Aside0.mk ((by rw [hg]; exact (by first | exact HK.out.1 | exact (show Kept w _ (fun k_ => P0_0_ k_) from by repeat (first | (with_reducible first | exact HK.out | apply Kept.alloc | apply Kept.drewN | apply Kept.drew | refine Kept.setCell ?_ (.inr GW134.out) _) | exact HK.out)).1) : w.heap.size ≤ gb135)); have n6_ := Aside0.mk ((by rw [hg]; exact (below_size (by repeat (first | (with_reducible first | exact HB.out | apply below_alloc | apply pw_below_drewN | apply below_drew1 | refine below_set ?_ GE134.out) | exact HB.out))) : w0.heap.size ≤ gb135)); have n7_ := Aside0.mk ((by rw [hg]; exact Nat.ne_of_lt (blk_lt (g := gb134) (o := .cells #[.slice Ao17 l0_0.length co17, .int .i64 a0_1, .int .i64 a0_2, .bool a0_3] 30 (0, 0)) (by (with_reducible repeat (first | refine blk_drewN ?_ _ | refine blk_drew ?_ | refine blk_alloc ?_ _)); exact BK134.out)) : gb134 ≠ gb135)); have n8_ := Aside0.mk ((by rw [hg]; exact Nat.ne_of_gt (blk_lt (g := gb134) (o := .cells #[.slice Ao17 l0_0.length co17, .int .i64 a0_1, .int .i64 a0_2, .bool a0_3] 30 (0, 0)) (by (with_reducible repeat (first | refine blk_drewN ?_ _ | refine blk_drew ?_ | refine blk_alloc ?_ _)); exact BK134.out)) : gb135 ≠ gb134)); clear HO0_0; clear BK134; clear HK; clear HB; have HO0_0 := n0_; have BK134 := n1_; have HK := n2_; have HB := n3_; have BK135 := n4_; have GW135 := n5_; have GE135 := n6_; have NB134_135 := n7_; have NB135_134 := n8_; clear n0_ n1_ n2_ n3_ n4_ n5_ n6_ n7_ n8_; clear hb hbox hg; have hnb20 := NB134_135.out; have hnc20 := NB135_134.out; have hcz21_0 : w19.cell? ⟨gb134, 0, none⟩ = some (.slice Ao17 l0_0.length co17) := (blk_cell BK134.out 0).trans rfl; have hcz21_1 : w19.cell? ⟨gb134, 1, none⟩ = some (.int .i64 a0_1) := (blk_cell BK134.out 1).trans rfl; have hcz21_2 : w19.cell? ⟨gb134, 2, none⟩ = some (.int .i64 a0_2) := (blk_cell BK134.out 2).trans rfl; have hcz21_3 : w19.cell? ⟨gb134, 3, none⟩ = some (.bool a0_3) := (blk_cell BK134.out 3).trans rfl; have hfz21_0 := blk_frozen BK134.out 0; have hfz21_1 := blk_frozen BK134.out 1; have hfz21_2 := blk_frozen BK134.out 2; have hfz21_3 := blk_frozen BK134.out 3) | ((with_reducible refine gate_callee (f := 22) rfl ?_); refine goesL_ (some 14) rfl rfl Try.func22 (by kernel_rfl) rfl #[.agg #[.slice Ao17 l0_0.length co17, .int .i64 a0_1, .int .i64 a0_2, .bool a0_3], .int .i64 a1] rfl (by (try simp only [List.map_toArray, List.map_cons, List.map_nil]); first | done | rfl | (simp only [List.length_drop, List.length_take]; rfl)) ?_; (with_reducible refine (baileeref08_Read.calls _ _ l0_0 a0_1 a0_2 a0_3 a1 t136 t137 _ ?side1 ?side2 A4.out).mono ?_); (case side1 => repeat (first | exact (Kd.R_reads' HO0_0.out).2.2 | (with_reducible refine Kd.C_alloc ?_ _) | (with_reducible refine Kd.C_drewN ?_ _) | (with_reducible refine Kd.C_drew ?_))); (case side2 => exact (Kd.R_reads' HO0_0.out).2.1); rintro e w22 ⟨rfl, hb⟩; refine ⟨_, rfl, ?_⟩; have n0_ := Aside0.mk (Kd.R_below (by (with_reducible repeat (first | apply Kd.R_alloc | apply Kd.R_drewN | apply Kd.R_drew)); exact HO0_0.out) hb); have n1_ := Aside0.mk (blk_below (g := gb134) (o := .cells #[.slice Ao17 l0_0.length co17, .int .i64 a0_1, .int .i64 a0_2, .bool a0_3] 30 (0, 0)) (by (with_reducible repeat (first | refine blk_drewN ?_ _ | refine blk_drew ?_ | refine blk_alloc ?_ _)); exact BK134.out) hb); have n2_ := Aside0.mk (blk_below (g := gb135) (o := .cells #[.slice none 0 0, .int .i64 0, .int .i64 0, .bool false] 30 (0, 0)) (by (with_reducible repeat (first | refine blk_drewN ?_ _ | refine blk_drew ?_ | refine blk_alloc ?_ _)); exact BK135.out) hb); have n3_ := Aside0.mk (Kept.below (S := (fun k_ => P0_0_ k_)) (by repeat (first | (with_reducible first | exact HK.out | apply Kept.alloc | apply Kept.drewN | apply Kept.drew | refine Kept.setCell ?_ (.inr GW134.out) _ | refine Kept.setCell ?_ (.inr GW135.out) _) | exact HK.out)) hb); have n4_ := Aside0.mk (below_step (by repeat (first | (with_reducible first | exact HB.out | apply below_alloc | apply pw_below_drewN | apply below_drew1 | refine below_set ?_ GE134.out | refine below_set ?_ GE135.out) | exact HB.out)) hb); clear HO0_0; clear BK134; clear BK135; clear HK; clear HB; have HO0_0 := n0_; have BK134 := n1_; have BK135 := n2_; have HK := n3_; have HB := n4_; clear n0_ n1_ n2_ n3_ n4_; (try clear hb); (try clear hb2); (try clear hk); (try clear hi); have hcz23_0 : w22.cell? ⟨gb134, 0, none⟩ = some (.slice Ao17 l0_0.length co17) := (blk_cell BK134.out 0).trans rfl; have hcz23_1 : w22.cell? ⟨gb134, 1, none⟩ = some (.int .i64 a0_1) := (blk_cell BK134.out 1).trans rfl; have hcz23_2 : w22.cell? ⟨gb134, 2, none⟩ = some (.int .i64 a0_2) := (blk_cell BK134.out 2).trans rfl; have hcz23_3 : w22.cell? ⟨gb134, 3, none⟩ = some (.bool a0_3) := (blk_cell BK134.out 3).trans rfl; have hfz23_0 := blk_frozen BK134.out 0; have hfz23_1 := blk_frozen BK134.out 1; have hfz23_2 := blk_frozen BK134.out 2; have hfz23_3 := blk_frozen BK134.out 3) | ((with_reducible refine gate_builtin (b := .append) (xs := #[.tmp 25, .tmp 27]) rfl ?_); at_builtin; refine Kd.R_append_rows Kd.string (w0 := w0) w0.heap.size rfl (.tmp 25) (.tmp 27) 28 9 (.string ⟨#[]⟩) 16 rfl Try.underlying28 info9 rfl (by decide) (by omega) (.slice none 0 0) ([] : List ByteArray) l0_0 _ _ _ (fun k_ => (P0_0_ k_ ∨ w.heap.size ≤ k_) ∧ some k_ ≠ (.slice Ao17 l0_0.length co17 : Value).ownBlock) (fun _ => False) rfl rfl ?aO ?aR (fun _ _ h => h) (fun _ h => h.elim) ?aF ?aB ?aS ?aL ?_; (case aR => repeat (first | exact (Kd.R_reads' HO0_0.out).2.2 | (with_reducible refine Kd.C_alloc ?_ _) | (with_reducible refine Kd.C_drewN ?_ _) | (with_reducible refine Kd.C_drew ?_))); (case aB => exact (by repeat (first | (with_reducible first | exact HB.out | apply below_alloc | apply pw_below_drewN | apply below_drew1 | refine below_set ?_ GE134.out | refine below_set ?_ GE135.out) | exact HB.out))); (case aF => exact (fun k_ hk => ⟨(.inr (Nat.le_trans (by first | exact HK.out.1 | exact (show Kept w _ (fun k_ => P0_0_ k_) from by repeat (first | (with_reducible first | exact HK.out | apply Kept.alloc | apply Kept.drewN | apply Kept.drew | refine Kept.setCell ?_ (.inr GW134.out) _ | refine Kept.setCell ?_ (.inr GW135.out) _) | exact HK.out)).1) hk)), Kd.fresh' (Kd.R_lt (by (with_reducible repeat (first | apply Kd.R_alloc | apply Kd.R_drewN | apply Kd.R_drew)); exact HO0_0.out)) k_ hk⟩)); (case aO => exact ((Kd.R_nil _ _ _ _ (fun k_ => (P0_0_ k_ ∨ w.heap.size ≤ k_) ∧ some k_ ≠ (.slice Ao17 l0_0.length co17 : Value).ownBlock)))); (case aS => exact (below_size (by repeat (first | (with_reducible first | exact HB.out | apply below_alloc | apply pw_below_drewN | apply below_drew1 | refine below_set ?_ GE134.out | refine below_set ?_ GE135.out) | exact HB.out)))); (case aL => have := LMc7.out; omega); intro v139 w24 ho hb hg hat; rw [← Ny138.out] at ho; have n0_ := Aside0.mk (Kd.R_after (Kd.R_apart_nil (by (with_reducible repeat (first | apply Kd.R_alloc | apply Kd.R_drewN | apply Kd.R_drew)); exact HO0_0.out)) hg hat); have n1_ := Aside0.mk (blk_grown (g := gb134) (o := .cells #[.slice Ao17 l0_0.length co17, .int .i64 a0_1, .int .i64 a0_2, .bool a0_3] 30 (0, 0)) (by (with_reducible repeat (first | refine blk_drewN ?_ _ | refine blk_drew ?_ | refine blk_alloc ?_ _)); exact BK134.out) hg (by simp [Value.ownBlock])); have n2_ := Aside0.mk (blk_grown (g := gb135) (o := .cells #[.slice none 0 0, .int .i64 0, .int .i64 0, .bool false] 30 (0, 0)) (by (with_reducible repeat (first | refine blk_drewN ?_ _ | refine blk_drew ?_ | refine blk_alloc ?_ _)); exact BK135.out) hg (by simp [Value.ownBlock])); have n3_ := Aside0.mk (hb); have n4_ := Aside0.mk (Kept.of_grown (S := (fun k_ => P0_0_ k_)) hg (by repeat (first | (with_reducible first | exact HK.out | apply Kept.alloc | apply Kept.drewN | apply Kept.drew | refine Kept.setCell ?_ (.inr GW134.out) _ | refine Kept.setCell ?_ (.inr GW135.out) _) | exact HK.out)) (fun k_ e_ => by simp [Value.ownBlock] at e_)); have n5_ := Aside0.mk (ho); clear HO0_0; clear BK134; clear BK135; clear HB; clear HK; have HO0_0 := n0_; have BK134 := n1_; have BK135 := n2_; have HB := n3_; have HK := n4_; have HO140 := n5_; clear n0_ n1_ n2_ n3_ n4_ n5_; clear ho hb hg hat; have hcz25_0 : w24.cell? ⟨gb134, 0, none⟩ = some (.slice Ao17 l0_0.length co17) := (blk_cell BK134.out 0).trans rfl; have hcz25_1 : w24.cell? ⟨gb134, 1, none⟩ = some (.int .i64 a0_1) := (blk_cell BK134.out 1).trans rfl; have hcz25_2 : w24.cell? ⟨gb134, 2, none⟩ = some (.int .i64 a0_2) := (blk_cell BK134.out 2).trans rfl; have hcz25_3 : w24.cell? ⟨gb134, 3, none⟩ = some (.bool a0_3) := (blk_cell BK134.out 3).trans rfl; have hfz25_0 := blk_frozen BK134.out 0; have hfz25_1 := blk_frozen BK134.out 1; have hfz25_2 := blk_frozen BK134.out 2; have hfz25_3 := blk_frozen BK134.out 3))
                      have n0_ := Aside0.mk (Kd.R_drew HO0_0.out)
                      have n1_ := Aside0.mk (Kd.R_drew HO140.out)
                      have n2_ := Aside0.mk (blk_drew BK134.out)
                      have n3_ := Aside0.mk (blk_drew BK135.out)
                      have n4_ := Aside0.mk (Kept.drew HK.out)
                      have n5_ := Aside0.mk (below_drew1 HB.out)
                      clear HO0_0
                      clear HO140
                      clear BK134
                      clear BK135
                      clear HK
                      clear HB
                      have HO0_0 := n0_
                      have HO140 := n1_
                      have BK134 := n2_
                      have BK135 := n3_
                      have HK := n4_
                      have HB := n5_
                      clear n0_ n1_ n2_ n3_ n4_ n5_
                      have p16 : 0 ≤ (a1 : Int) := of_decide_eq_true (by first | (with_reducible assumption) | assumption)
                      have q16 : (a1 : Int) < ((y138.length : Int) : Int) := of_decide_eq_true (by first | (with_reducible assumption) | assumption)
                      obtain ⟨go16, co16, eo16, gb16, gl16, cl16, HG16⟩ := Kd.R_form HO140.out (by omega)
                      (first | cases eo16 | (injection eo16 with ea_ en_ ec_; (first | subst ea_ | (injection ea_ with ea_; subst ea_)); subst ec_; clear en_))
                      have GB16 := Aside0.mk gb16
                      have GG16 := Aside0.mk HG16
                      clear gb16 gl16 HG16
                      have HMgo16 := Aside0.mk (show (P0_0_ go16 ∨ w.heap.size ≤ go16) from (HO140.out.1 _ rfl).1)
                      obtain ⟨hx16_0, hf16_0⟩ := Kd.R_celln (⟨#[]⟩ : ByteArray) HO140.out (a1 : Int) p16 q16
                      replace p16 := eq_true p16
                      replace q16 := eq_true q16
                      have HP27 := Kd.R_putn HO140.out (a1 : Int) ((a2.extract 0 (a0_2 : Int).toNat) ++ (t136.extract (a0_2 : Int).toNat t136.size))
                      rw [← Ny141.out] at HP27
                      have HQ27 := Aside0.mk HP27
                      clear HP27
                      refine start_ (n := 13) (S := fun w' => w'.cell? ⟨gb134, 0, none⟩ = some (.slice Ao17 l0_0.length co17) ∧ w'.cell? ⟨gb134, 1, none⟩ = some (.int .i64 a0_1) ∧ w'.cell? ⟨gb134, 2, none⟩ = some (.int .i64 a0_2) ∧ w'.cell? ⟨gb134, 3, none⟩ = some (.bool a0_3)) (ds := [12]) #[false, false, false, false, false, false, false, false, false, false, false, false, false] (by kernel_rfl) rfl rfl ⟨(blk_cell BK134.out 0).trans rfl, (blk_cell BK134.out 1).trans rfl, (blk_cell BK134.out 2).trans rfl, (blk_cell BK134.out 3).trans rfl⟩ (fun hHeld => ?_); refine with_tabW baileeref08_Write.tab9 baileeref08_Write.bits9 (fun HT_ HW_ => ?_)
                      generalize w24.drew = w26 at HO0_0 HO140 BK134 BK135 HK HB GG16 HQ27 hf16_0 hx16_0 hHeld ⊢
                      refine pure_ (i := 0) (N := some 32) (v := ?_) (a' := ?_) #[true, false, false, false, false, false, false, false, false, false, false, false, false] rfl rfl (any_of HT_.out (by kernel_rfl)) (fun _ _ _ h => h) (Or.inl ⟨by rfl, ?_⟩) ?_ ?_
                      rotate_left
                      · intro w'
                        go_simp
                        with_reducible rfl
                      rotate_left
                      · simp only [Act.put, List.setIfInBounds_toArray, List.set_cons_zero, List.set_cons_succ, i64_w, i32_w]
                        rfl
                      refine pure_ (i := 1) (N := some 33) (v := ?_) (a' := ?_) #[true, true, false, false, false, false, false, false, false, false, false, false, false] rfl rfl (any_of HT_.out (by kernel_rfl)) (fun _ _ _ h => h) (Or.inl ⟨by rfl, ?_⟩) ?_ ?_
                      rotate_left
                      · intro w'
                        go_simp
                        with_reducible rfl
                      rotate_left
                      · simp only [Act.put, List.setIfInBounds_toArray, List.set_cons_zero, List.set_cons_succ, i64_w, i32_w]
                        rfl
                      refine pure_ (i := 2) (N := some 34) (v := ?_) (a' := ?_) #[true, true, true, false, false, false, false, false, false, false, false, false, false] rfl rfl (any_of HT_.out (by kernel_rfl)) (fun _ _ _ h => h) (Or.inl ⟨by rfl, ?_⟩) ?_ ?_
                      rotate_left
                      · intro w'
                        go_simp
                        with_reducible rfl
                      rotate_left
                      · simp only [Act.put, List.setIfInBounds_toArray, List.set_cons_zero, List.set_cons_succ, i64_w, i32_w]
                        rfl
                      refine pure_ (i := 3) (N := some 35) (v := ?_) (a' := ?_) #[true, true, true, true, false, false, false, false, false, false, false, false, false] rfl rfl (any_of HT_.out (by kernel_rfl)) (fun _ _ _ h => h) (Or.inl ⟨by rfl, ?_⟩) ?_ ?_
                      rotate_left
                      · intro w'
                        go_simp
                        with_reducible rfl
                      rotate_left
                      · simp only [Act.put, List.setIfInBounds_toArray, List.set_cons_zero, List.set_cons_succ, i64_w, i32_w]
                        rfl
                      refine pure_ (i := 6) (N := some 38) (v := ?_) (a' := ?_) #[true, true, true, true, false, false, true, false, false, false, false, false, false] rfl rfl (any_of HT_.out (by kernel_rfl)) (fun _ _ _ h => h) (Or.inl ⟨by rfl, ?_⟩) ?_ ?_
                      rotate_left
                      · intro w'
                        go_simp
                        with_reducible rfl
                      rotate_left
                      · simp only [Act.put, List.setIfInBounds_toArray, List.set_cons_zero, List.set_cons_succ, i64_w, i32_w]
                        rfl
                      refine pure_ (i := 7) (N := some 39) (v := ?_) (a' := ?_) #[true, true, true, true, false, false, true, true, false, false, false, false, false] rfl rfl (any_of HT_.out (by kernel_rfl)) (fun _ _ _ h => h) (Or.inl ⟨by rfl, ?_⟩) ?_ ?_
                      rotate_left
                      · intro w'
                        go_simp
                        with_reducible rfl
                      rotate_left
                      · simp only [Act.put, List.setIfInBounds_toArray, List.set_cons_zero, List.set_cons_succ, i64_w, i32_w]
                        rfl
                      refine take_ (i := 4) (N := some 36) (v := ?_) (a' := ?_) #[true, true, true, true, true, false, true, true, false, false, false, false, false] rfl rfl (take_ofW HT_.out HW_.out (by kernel_rfl)) (fun _ _ _ h => h) (Or.inl ⟨by rfl, ?_⟩) hHeld ?_ ?_
                      rotate_left
                      · rintro w' ⟨s0, s1, s2, s3⟩
                        go_simp
                        with_reducible rfl
                      rotate_left
                      · simp only [Act.put, List.setIfInBounds_toArray, List.set_cons_zero, List.set_cons_succ, i64_w, i32_w]
                        rfl
                      refine pure_ (i := 5) (N := some 37) (v := ?_) (a' := ?_) #[true, true, true, true, true, true, true, true, false, false, false, false, false] rfl rfl (any_of HT_.out (by kernel_rfl)) (fun _ _ _ h => h) (Or.inl ⟨by rfl, ?_⟩) ?_ ?_
                      rotate_left
                      · intro w'
                        go_simp
                        with_reducible rfl
                      rotate_left
                      · simp only [Act.put, List.setIfInBounds_toArray, List.set_cons_zero, List.set_cons_succ, i64_w, i32_w]
                        rfl
                      refine take_ (i := 8) (N := some 40) (v := ?_) (a' := ?_) #[true, true, true, true, true, true, true, true, true, false, false, false, false] rfl rfl (take_ofW HT_.out HW_.out (by kernel_rfl)) (fun _ _ _ h => h) (Or.inl ⟨by rfl, ?_⟩) hHeld ?_ ?_
                      rotate_left
                      · rintro w' ⟨s0, s1, s2, s3⟩
                        go_simp
                        with_reducible rfl
                      rotate_left
                      · simp only [Act.put, List.setIfInBounds_toArray, List.set_cons_zero, List.set_cons_succ, i64_w, i32_w]
                        rfl
                      refine pure_ (i := 9) (N := some 41) (v := ?_) (a' := ?_) #[true, true, true, true, true, true, true, true, true, true, false, false, false] rfl rfl (any_of HT_.out (by kernel_rfl)) (fun _ _ _ h => h) (Or.inl ⟨by rfl, ?_⟩) ?_ ?_
                      rotate_left
                      · intro w'
                        go_simp
                        with_reducible rfl
                      rotate_left
                      · simp only [Act.put, List.setIfInBounds_toArray, List.set_cons_zero, List.set_cons_succ, i64_w, i32_w]
                        rfl
                      refine pure_ (i := 10) (N := some 42) (v := ?_) (a' := ?_) #[true, true, true, true, true, true, true, true, true, true, true, false, false] rfl rfl (any_of HT_.out (by kernel_rfl)) (fun _ _ _ h => h) (Or.inl ⟨by rfl, ?_⟩) ?_ ?_
                      rotate_left
                      · intro w'
                        go_simp
                        with_reducible rfl
                      rotate_left
                      · simp only [Act.put, List.setIfInBounds_toArray, List.set_cons_zero, List.set_cons_succ, i64_w, i32_w]
                        rfl
                      refine pure_ (i := 11) (N := some 43) (v := ?_) (a' := ?_) #[true, true, true, true, true, true, true, true, true, true, true, true, false] rfl rfl (any_of HT_.out (by kernel_rfl)) (fun _ _ _ h => h) (Or.inl ⟨by rfl, ?_⟩) ?_ ?_
                      rotate_left
                      · intro w'
                        go_simp
                        with_reducible rfl
                      rotate_left
                      · simp only [Act.put, List.setIfInBounds_toArray, List.set_cons_zero, List.set_cons_succ, i64_w, i32_w]
                        rfl
                      refine last_ (i := 12) (N := none) #[true, true, true, true, true, true, true, true, true, true, true, true, true] rfl rfl (one_of HT_.out (by kernel_rfl)) (by decide) (fun K hK => ?_)
                      refine skip_ (w1 := ?_) (by rfl) rfl ?_ ?_
                      rotate_left
                      · go_simp
                        rfl
                      refine hK.out _ _ ?_
                      clear hK K
                      refine done_ (done_of HT_.out (by kernel_rfl)) ?_
                      have n0_ : Aside0 (Kd.R Kd.string 9 (w26.setCell ⟨go16, (a1 : Int).toNat, none⟩ (.string ((a2.extract 0 (a0_2 : Int).toNat) ++ (t136.extract (a0_2 : Int).toNat t136.size)))) w0.heap.size (fun k_ => (P0_0_ k_ ∨ w.heap.size ≤ k_) ∧ some k_ ≠ (.slice (some ⟨go16, 0, none⟩) y138.length co16 : Value).ownBlock) (.slice Ao17 l0_0.length co17) l0_0) := ⟨by (with_reducible repeat (first | apply Kd.R_alloc | apply Kd.R_drewN | apply Kd.R_drew)); exact Kd.R_mono (Kd.R_far (p := ⟨go16, (a1 : Int).toNat, none⟩) (Kd.R_mono HO0_0.out (fun k_ hk => (⟨hk, fun e_ => hk.2 (by rw [e_]; rfl)⟩ : _ ∧ k_ ≠ go16))) (fun _ hk => hk.2) (.string ((a2.extract 0 (a0_2 : Int).toNat) ++ (t136.extract (a0_2 : Int).toNat t136.size)))) (fun _ hk => ⟨hk.1.1, hk.1.2⟩)⟩
                      have n1_ : Aside0 (Kd.R Kd.string 9 (w26.setCell ⟨go16, (a1 : Int).toNat, none⟩ (.string ((a2.extract 0 (a0_2 : Int).toNat) ++ (t136.extract (a0_2 : Int).toNat t136.size)))) w0.heap.size (fun k_ => (P0_0_ k_ ∨ w.heap.size ≤ k_) ∧ some k_ ≠ (.slice Ao17 l0_0.length co17 : Value).ownBlock) (.slice (some ⟨go16, 0, none⟩) y138.length co16) y141) := ⟨by (with_reducible repeat (first | apply Kd.R_alloc | apply Kd.R_drewN | apply Kd.R_drew)); exact HQ27.out⟩
                      have n2_ : Aside0 ((w26.setCell ⟨go16, (a1 : Int).toNat, none⟩ (.string ((a2.extract 0 (a0_2 : Int).toNat) ++ (t136.extract (a0_2 : Int).toNat t136.size)))).heap[gb134]? = some (.cells #[.slice Ao17 l0_0.length co17, .int .i64 a0_1, .int .i64 a0_2, .bool a0_3] 30 (0, 0))) := ⟨by (with_reducible repeat (first | refine blk_drewN ?_ _ | refine blk_drew ?_ | refine blk_alloc ?_ _)); refine blk_far ?_ (by have h_ := Kd.R_ne HO140.out BK134.out (by decide); intro e_; exact h_ (by rw [e_]; rfl)) _; (with_reducible repeat (first | refine blk_drewN ?_ _ | refine blk_drew ?_ | refine blk_alloc ?_ _)); exact BK134.out⟩
                      have n3_ : Aside0 ((w26.setCell ⟨go16, (a1 : Int).toNat, none⟩ (.string ((a2.extract 0 (a0_2 : Int).toNat) ++ (t136.extract (a0_2 : Int).toNat t136.size)))).heap[gb135]? = some (.cells #[.slice none 0 0, .int .i64 0, .int .i64 0, .bool false] 30 (0, 0))) := ⟨by (with_reducible repeat (first | refine blk_drewN ?_ _ | refine blk_drew ?_ | refine blk_alloc ?_ _)); refine blk_far ?_ (by have h_ := Kd.R_ne HO140.out BK135.out (by decide); intro e_; exact h_ (by rw [e_]; rfl)) _; (with_reducible repeat (first | refine blk_drewN ?_ _ | refine blk_drew ?_ | refine blk_alloc ?_ _)); exact BK135.out⟩
                      have n4_ : Aside0 (Kept w (w26.setCell ⟨go16, (a1 : Int).toNat, none⟩ (.string ((a2.extract 0 (a0_2 : Int).toNat) ++ (t136.extract (a0_2 : Int).toNat t136.size)))) (fun k_ => P0_0_ k_)) := ⟨by repeat (first | (with_reducible first | exact HK.out | apply Kept.alloc | apply Kept.drewN | apply Kept.drew | refine Kept.setCell ?_ HMgo16.out _ | refine Kept.setCell ?_ (.inr GW134.out) _ | refine Kept.setCell ?_ (.inr GW135.out) _) | exact HK.out)⟩
                      have n5_ : Aside0 (Below w0.heap.size w0 (w26.setCell ⟨go16, (a1 : Int).toNat, none⟩ (.string ((a2.extract 0 (a0_2 : Int).toNat) ++ (t136.extract (a0_2 : Int).toNat t136.size))))) := ⟨by repeat (first | (with_reducible first | exact HB.out | apply below_alloc | apply pw_below_drewN | apply below_drew1 | refine below_set ?_ GB16.out | refine below_set ?_ GE134.out | refine below_set ?_ GE135.out) | exact HB.out)⟩
                      (try clear HO0_0)
                      (try clear HO140)
                      (try clear BK134)
                      (try clear BK135)
                      (try clear HK)
                      (try clear HB)
                      generalize (w26.setCell ⟨go16, (a1 : Int).toNat, none⟩ (.string ((a2.extract 0 (a0_2 : Int).toNat) ++ (t136.extract (a0_2 : Int).toNat t136.size)))) = w28 at n0_ n1_ n2_ n3_ n4_ n5_ ⊢
                      have HO0_0 := n0_
                      have HO140 := n1_
                      have BK134 := n2_
                      have BK135 := n3_
                      have HK := n4_
                      have HB := n5_
                      clear n0_ n1_ n2_ n3_ n4_ n5_
                      have hcz29_0 : w28.cell? ⟨gb134, 0, none⟩ = some (.slice Ao17 l0_0.length co17) := (blk_cell BK134.out 0).trans rfl
                      have hcz29_1 : w28.cell? ⟨gb134, 1, none⟩ = some (.int .i64 a0_1) := (blk_cell BK134.out 1).trans rfl
                      have hcz29_2 : w28.cell? ⟨gb134, 2, none⟩ = some (.int .i64 a0_2) := (blk_cell BK134.out 2).trans rfl
                      have hcz29_3 : w28.cell? ⟨gb134, 3, none⟩ = some (.bool a0_3) := (blk_cell BK134.out 3).trans rfl
                      have hfz29_0 := blk_frozen BK134.out 0
                      have hfz29_1 := blk_frozen BK134.out 1
                      have hfz29_2 := blk_frozen BK134.out 2
                      have hfz29_3 := blk_frozen BK134.out 3
                      have hcz30_0 : w28.cell? ⟨gb135, 0, none⟩ = some (.slice none 0 0) := (blk_cell BK135.out 0).trans rfl
                      have hcz30_1 : w28.cell? ⟨gb135, 1, none⟩ = some (.int .i64 0) := (blk_cell BK135.out 1).trans rfl
                      have hcz30_2 : w28.cell? ⟨gb135, 2, none⟩ = some (.int .i64 0) := (blk_cell BK135.out 2).trans rfl
                      have hcz30_3 : w28.cell? ⟨gb135, 3, none⟩ = some (.bool false) := (blk_cell BK135.out 3).trans rfl
                      have hfz30_0 := blk_frozen BK135.out 0
                      have hfz30_1 := blk_frozen BK135.out 1
                      have hfz30_2 := blk_frozen BK135.out 2
                      have hfz30_3 := blk_frozen BK135.out 3
                      try go_wp2
                      refine bodyPost_ret (results_ct rfl _ _ gb135 30 #[.slice (some ⟨go16, 0, none⟩) y138.length co16, .int .i64 a0_1, .int .i64 a0_2, .bool true] (0, 0) _ rfl (by (with_reducible repeat (first | refine blk_drewN ?_ _ | refine blk_drew ?_ | refine blk_alloc ?_ _)); refine blk_put (cs := #[.slice (some ⟨go16, 0, none⟩) y138.length co16, .int .i64 a0_1, .int .i64 a0_2, .bool false]) ?_ 3 _ rfl; (with_reducible repeat (first | refine blk_drewN ?_ _ | refine blk_drew ?_ | refine blk_alloc ?_ _)); refine blk_put (cs := #[.slice (some ⟨go16, 0, none⟩) y138.length co16, .int .i64 a0_1, .int .i64 0, .bool false]) ?_ 2 _ rfl; (with_reducible repeat (first | refine blk_drewN ?_ _ | refine blk_drew ?_ | refine blk_alloc ?_ _)); refine blk_put (cs := #[.slice (some ⟨go16, 0, none⟩) y138.length co16, .int .i64 0, .int .i64 0, .bool false]) ?_ 1 _ rfl; (with_reducible repeat (first | refine blk_drewN ?_ _ | refine blk_drew ?_ | refine blk_alloc ?_ _)); refine blk_put (cs := #[.slice none 0 0, .int .i64 0, .int .i64 0, .bool false]) ?_ 0 _ rfl; (with_reducible repeat (first | refine blk_drewN ?_ _ | refine blk_drew ?_ | refine blk_alloc ?_ _)); refine blk_far ?_ NB135_134.out _; (with_reducible repeat (first | refine blk_drewN ?_ _ | refine blk_drew ?_ | refine blk_alloc ?_ _)); refine blk_far ?_ NB135_134.out _; (with_reducible repeat (first | refine blk_drewN ?_ _ | refine blk_drew ?_ | refine blk_alloc ?_ _)); exact BK135.out) Try.underlying30 rfl (by kernel_rfl)) rfl ?_
                      exact ⟨_, by first | rfl | (simp [errW_none, errW_some] <;> rfl) | (simp [*, errW_none, errW_some] <;> rfl), by (with_reducible repeat (first | apply Kd.R_alloc | apply Kd.R_drewN | apply Kd.R_drew)); exact Kd.R_mono (Kd.R_far (p := ⟨gb135, 3, none⟩) (Kd.R_far (p := ⟨gb135, 2, none⟩) (Kd.R_far (p := ⟨gb135, 1, none⟩) (Kd.R_far (p := ⟨gb135, 0, none⟩) (Kd.R_far (p := ⟨gb134, 3, none⟩) (Kd.R_far (p := ⟨gb134, 0, none⟩) (Kd.R_types (Kd.R_types HO140.out BK134.out (by decide)) BK135.out (by decide)) (fun _ hk => hk.1.2) (.slice (some ⟨go16, 0, none⟩) y138.length co16)) (fun _ hk => hk.1.2) (.bool true)) (fun _ hk => hk.2) (.slice (some ⟨go16, 0, none⟩) y138.length co16)) (fun _ hk => hk.2) (.int .i64 a0_1)) (fun _ hk => hk.2) (.int .i64 a0_2)) (fun _ hk => hk.2) (.bool true)) (fun _ hk => hk.1.1.1), by repeat (first | (with_reducible first | exact HB.out | apply below_alloc | apply pw_below_drewN | apply below_drew1 | refine below_set ?_ GE134.out | refine below_set ?_ GE135.out) | exact HB.out), by repeat (first | (with_reducible first | exact HK.out | apply Kept.alloc | apply Kept.drewN | apply Kept.drew | refine Kept.setCell ?_ (.inr GW134.out) _ | refine Kept.setCell ?_ (.inr GW135.out) _) | exact HK.out)⟩
                    · rw [if_neg c15] at H
                      exact absurd H (by simp)
                  · rw [if_neg c14] at H
                    exact absurd H (by simp)
                · rw [if_neg c13] at H
                  exact absurd H (by simp)
              · rw [if_neg c12] at H
                exact absurd H (by simp)
            · rw [if_neg c10] at H
              exact absurd H (by simp)
          · rw [if_neg c9] at H
            exact absurd H (by simp)
        · rw [if_neg c8] at H
          have c8b0 : (a0_1 == 0) = false := beq_eq_false_iff_ne.mpr c8
          have c8b1 : (a0_1 != 0) = true := bne_iff_ne.mpr c8
          by_cases c31 : 0 ≤ a1
          · rw [if_pos c31] at H
            have c31b0 : decide (0 ≤ a1) = true := decide_eq_true c31
            clear c31
            by_cases c32 : a1 < (y138.length : Int)
            · rw [if_pos c32] at H
              have c32b0 : decide (a1 < (y138.length : Int)) = true := decide_eq_true c32
              clear c32
              obtain ⟨y142, hy142⟩ : ∃ y_ : List ByteArray, y_ = (y138.set (a1 : Int).toNat a2) := ⟨_, rfl⟩
              replace H : (if a0_1 > 0 then (some (y142, wrap64 (a0_1 - 1), a0_2, a0_3, 0)) else (some (y142, a0_1, a0_2, a0_3, 0))) = some (r1, r2, r3, r4, r5) := by first | (rw [hy142]; with_reducible exact H) | (have H2_ := (Option.bind_some _ _).symm.trans H; rw [hy142]; with_reducible exact H2_) | (have H2_ := (Option.bind_some _ _).symm.trans H; with_reducible exact H2_) | with_reducible exact H | (rw [hy142]; exact H) | exact H
              have Ny142 := Aside0.mk hy142
              clear hy142
              by_cases c34 : a0_1 > 0
              · rw [if_pos c34] at H
                have c34b0 : decide (0 < a0_1) = true := decide_eq_true c34
                clear c34
                simp only [Option.some.injEq, Prod.mk.injEq] at H
                obtain ⟨rfl, rfl, rfl, rfl, rfl⟩ := H
                obtain ⟨Ao35, co35, eo35⟩ := Kd.R_slice HO0_0.out
                subst eo35
                go_enter Try.func18, Try.ntmps18
                go_wp2_with (first | ((with_reducible refine gate_dst (N := 3) rfl ?_); refine box_event ?hg (N := 3) ?hd (cs := #[.slice Ao35 l0_0.length co35, .int .i64 a0_1, .int .i64 a0_2, .bool a0_3]) (t := 30) ?hr ?_; (case hd => rfl); (case hg => rfl); (case hr => first | (go_simp; done) | (go_simp; rfl)); intro gb134 hg w36 hbox hb; have n0_ := Aside0.mk (Kd.R_below (by (with_reducible repeat (first | apply Kd.R_alloc | apply Kd.R_drewN | apply Kd.R_drew)); exact HO0_0.out) hb); have n1_ := Aside0.mk (Kept.below (S := (fun k_ => P0_0_ k_)) (by repeat (first | (with_reducible first | exact HK.out | apply Kept.alloc | apply Kept.drewN | apply Kept.drew) | exact HK.out)) hb); have n2_ := Aside0.mk (below_step (by repeat (first | (with_reducible first | exact HB.out | apply below_alloc | apply pw_below_drewN | apply below_drew1) | exact HB.out)) hb); have n3_ := Aside0.mk (hbox); have n4_ := Aside0.mk ((by rw [hg]; exact (by first | exact HK.out.1 | exact (show Kept w _ (fun k_ => P0_0_ k_) from by repeat (first | (with_reducible first | exact HK.out | apply Kept.alloc | apply Kept.drewN | apply Kept.drew) | exact HK.out)).1) : w.heap.size ≤ gb134)); have n5_ := Aside0.mk ((by rw [hg]; exact (below_size (by repeat (first | (with_reducible first | exact HB.out | apply below_alloc | apply pw_below_drewN | apply below_drew1) | exact HB.out))) : w0.heap.size ≤ gb134)); clear HO0_0; clear HK; clear HB; have HO0_0 := n0_; have HK := n1_; have HB := n2_; have BK134 := n3_; have GW134 := n4_; have GE134 := n5_; clear n0_ n1_ n2_ n3_ n4_ n5_; clear hb hbox hg) | ((with_reducible refine gate_dst (N := 6) rfl ?_); refine box_event ?hg (N := 6) ?hd (cs := #[.slice none 0 0, .int .i64 0, .int .i64 0, .bool false]) (t := 30) ?hr ?_; (case hd => rfl); (case hg => rfl); (case hr => first | (go_simp; done) | (go_simp; rfl)); intro gb135 hg w37 hbox hb; have n0_ := Aside0.mk (Kd.R_below (by (with_reducible repeat (first | apply Kd.R_alloc | apply Kd.R_drewN | apply Kd.R_drew)); exact HO0_0.out) hb); have n1_ := Aside0.mk (blk_below (g := gb134) (o := .cells #[.slice Ao35 l0_0.length co35, .int .i64 a0_1, .int .i64 a0_2, .bool a0_3] 30 (0, 0)) (by (with_reducible repeat (first | refine blk_drewN ?_ _ | refine blk_drew ?_ | refine blk_alloc ?_ _)); exact BK134.out) hb); have n2_ := Aside0.mk (Kept.below (S := (fun k_ => P0_0_ k_)) (by repeat (first | (with_reducible first | exact HK.out | apply Kept.alloc | apply Kept.drewN | apply Kept.drew | refine Kept.setCell ?_ (.inr GW134.out) _) | exact HK.out)) hb); have n3_ := Aside0.mk (below_step (by repeat (first | (with_reducible first | exact HB.out | apply below_alloc | apply pw_below_drewN | apply below_drew1 | refine below_set ?_ GE134.out) | exact HB.out)) hb); have n4_ := Aside0.mk (hbox); have n5_ := Aside0.mk ((by rw [hg]; exact (by first | exact HK.out.1 | exact (show Kept w _ (fun k_ => P0_0_ k_) from by repeat (first | (with_reducible first | exact HK.out | apply Kept.alloc | apply Kept.drewN | apply Kept.drew | refine Kept.setCell ?_ (.inr GW134.out) _) | exact HK.out)).1) : w.heap.size ≤ gb135)); have n6_ := Aside0.mk ((by rw [hg]; exact (below_size (by repeat (first | (with_reducible first | exact HB.out | apply below_alloc | apply pw_below_drewN | apply below_drew1 | refine below_set ?_ GE134.out) | exact HB.out))) : w0.heap.size ≤ gb135)); have n7_ := Aside0.mk ((by rw [hg]; exact Nat.ne_of_lt (blk_lt (g := gb134) (o := .cells #[.slice Ao35 l0_0.length co35, .int .i64 a0_1, .int .i64 a0_2, .bool a0_3] 30 (0, 0)) (by (with_reducible repeat (first | refine blk_drewN ?_ _ | refine blk_drew ?_ | refine blk_alloc ?_ _)); exact BK134.out)) : gb134 ≠ gb135)); have n8_ := Aside0.mk ((by rw [hg]; exact Nat.ne_of_gt (blk_lt (g := gb134) (o := .cells #[.slice Ao35 l0_0.length co35, .int .i64 a0_1, .int .i64 a0_2, .bool a0_3] 30 (0, 0)) (by (with_reducible repeat (first | refine blk_drewN ?_ _ | refine blk_drew ?_ | refine blk_alloc ?_ _)); exact BK134.out)) : gb135 ≠ gb134)); clear HO0_0; clear BK134; clear HK; clear HB; have HO0_0 := n0_; have BK134 := n1_; have HK := n2_; have HB := n3_; have BK135 := n4_; have GW135 := n5_; have GE135 := n6_; have NB134_135 := n7_; have NB135_134 := n8_; clear n0_ n1_ n2_ n3_ n4_ n5_ n6_ n7_ n8_; clear hb hbox hg; have hnb38 := NB134_135.out; have hnc38 := NB135_134.out; have hcz39_0 : w37.cell? ⟨gb134, 0, none⟩ = some (.slice Ao35 l0_0.length co35) := (blk_cell BK134.out 0).trans rfl; have hcz39_1 : w37.cell? ⟨gb134, 1, none⟩ = some (.int .i64 a0_1) := (blk_cell BK134.out 1).trans rfl; have hcz39_2 : w37.cell? ⟨gb134, 2, none⟩ = some (.int .i64 a0_2) := (blk_cell BK134.out 2).trans rfl; have hcz39_3 : w37.cell? ⟨gb134, 3, none⟩ = some (.bool a0_3) := (blk_cell BK134.out 3).trans rfl; have hfz39_0 := blk_frozen BK134.out 0; have hfz39_1 := blk_frozen BK134.out 1; have hfz39_2 := blk_frozen BK134.out 2; have hfz39_3 := blk_frozen BK134.out 3) | ((with_reducible refine gate_callee (f := 22) rfl ?_); refine goesL_ (some 14) rfl rfl Try.func22 (by kernel_rfl) rfl #[.agg #[.slice Ao35 l0_0.length co35, .int .i64 a0_1, .int .i64 a0_2, .bool a0_3], .int .i64 a1] rfl (by (try simp only [List.map_toArray, List.map_cons, List.map_nil]); first | done | rfl | (simp only [List.length_drop, List.length_take]; rfl)) ?_; (with_reducible refine (baileeref08_Read.calls _ _ l0_0 a0_1 a0_2 a0_3 a1 t136 t137 _ ?side1 ?side2 A4.out).mono ?_); (case side1 => repeat (first | exact (Kd.R_reads' HO0_0.out).2.2 | (with_reducible refine Kd.C_alloc ?_ _) | (with_reducible refine Kd.C_drewN ?_ _) | (with_reducible refine Kd.C_drew ?_))); (case side2 => exact (Kd.R_reads' HO0_0.out).2.1); rintro e w40 ⟨rfl, hb⟩; refine ⟨_, rfl, ?_⟩; have n0_ := Aside0.mk (Kd.R_below (by (with_reducible repeat (first | apply Kd.R_alloc | apply Kd.R_drewN | apply Kd.R_drew)); exact HO0_0.out) hb); have n1_ := Aside0.mk (blk_below (g := gb134) (o := .cells #[.slice Ao35 l0_0.length co35, .int .i64 a0_1, .int .i64 a0_2, .bool a0_3] 30 (0, 0)) (by (with_reducible repeat (first | refine blk_drewN ?_ _ | refine blk_drew ?_ | refine blk_alloc ?_ _)); exact BK134.out) hb); have n2_ := Aside0.mk (blk_below (g := gb135) (o := .cells #[.slice none 0 0, .int .i64 0, .int .i64 0, .bool false] 30 (0, 0)) (by (with_reducible repeat (first | refine blk_drewN ?_ _ | refine blk_drew ?_ | refine blk_alloc ?_ _)); exact BK135.out) hb); have n3_ := Aside0.mk (Kept.below (S := (fun k_ => P0_0_ k_)) (by repeat (first | (with_reducible first | exact HK.out | apply Kept.alloc | apply Kept.drewN | apply Kept.drew | refine Kept.setCell ?_ (.inr GW134.out) _ | refine Kept.setCell ?_ (.inr GW135.out) _) | exact HK.out)) hb); have n4_ := Aside0.mk (below_step (by repeat (first | (with_reducible first | exact HB.out | apply below_alloc | apply pw_below_drewN | apply below_drew1 | refine below_set ?_ GE134.out | refine below_set ?_ GE135.out) | exact HB.out)) hb); clear HO0_0; clear BK134; clear BK135; clear HK; clear HB; have HO0_0 := n0_; have BK134 := n1_; have BK135 := n2_; have HK := n3_; have HB := n4_; clear n0_ n1_ n2_ n3_ n4_; (try clear hb); (try clear hb2); (try clear hk); (try clear hi); have hcz41_0 : w40.cell? ⟨gb134, 0, none⟩ = some (.slice Ao35 l0_0.length co35) := (blk_cell BK134.out 0).trans rfl; have hcz41_1 : w40.cell? ⟨gb134, 1, none⟩ = some (.int .i64 a0_1) := (blk_cell BK134.out 1).trans rfl; have hcz41_2 : w40.cell? ⟨gb134, 2, none⟩ = some (.int .i64 a0_2) := (blk_cell BK134.out 2).trans rfl; have hcz41_3 : w40.cell? ⟨gb134, 3, none⟩ = some (.bool a0_3) := (blk_cell BK134.out 3).trans rfl; have hfz41_0 := blk_frozen BK134.out 0; have hfz41_1 := blk_frozen BK134.out 1; have hfz41_2 := blk_frozen BK134.out 2; have hfz41_3 := blk_frozen BK134.out 3) | ((with_reducible refine gate_builtin (b := .append) (xs := #[.tmp 25, .tmp 27]) rfl ?_); at_builtin; refine Kd.R_append_rows Kd.string (w0 := w0) w0.heap.size rfl (.tmp 25) (.tmp 27) 28 9 (.string ⟨#[]⟩) 16 rfl Try.underlying28 info9 rfl (by decide) (by omega) (.slice none 0 0) ([] : List ByteArray) l0_0 _ _ _ (fun k_ => (P0_0_ k_ ∨ w.heap.size ≤ k_) ∧ some k_ ≠ (.slice Ao35 l0_0.length co35 : Value).ownBlock) (fun _ => False) rfl rfl ?aO ?aR (fun _ _ h => h) (fun _ h => h.elim) ?aF ?aB ?aS ?aL ?_; (case aR => repeat (first | exact (Kd.R_reads' HO0_0.out).2.2 | (with_reducible refine Kd.C_alloc ?_ _) | (with_reducible refine Kd.C_drewN ?_ _) | (with_reducible refine Kd.C_drew ?_))); (case aB => exact (by repeat (first | (with_reducible first | exact HB.out | apply below_alloc | apply pw_below_drewN | apply below_drew1 | refine below_set ?_ GE134.out | refine below_set ?_ GE135.out) | exact HB.out))); (case aF => exact (fun k_ hk => ⟨(.inr (Nat.le_trans (by first | exact HK.out.1 | exact (show Kept w _ (fun k_ => P0_0_ k_) from by repeat (first | (with_reducible first | exact HK.out | apply Kept.alloc | apply Kept.drewN | apply Kept.drew | refine Kept.setCell ?_ (.inr GW134.out) _ | refine Kept.setCell ?_ (.inr GW135.out) _) | exact HK.out)).1) hk)), Kd.fresh' (Kd.R_lt (by (with_reducible repeat (first | apply Kd.R_alloc | apply Kd.R_drewN | apply Kd.R_drew)); exact HO0_0.out)) k_ hk⟩)); (case aO => exact ((Kd.R_nil _ _ _ _ (fun k_ => (P0_0_ k_ ∨ w.heap.size ≤ k_) ∧ some k_ ≠ (.slice Ao35 l0_0.length co35 : Value).ownBlock)))); (case aS => exact (below_size (by repeat (first | (with_reducible first | exact HB.out | apply below_alloc | apply pw_below_drewN | apply below_drew1 | refine below_set ?_ GE134.out | refine below_set ?_ GE135.out) | exact HB.out)))); (case aL => have := LMc7.out; omega); intro v139 w42 ho hb hg hat; rw [← Ny138.out] at ho; have n0_ := Aside0.mk (Kd.R_after (Kd.R_apart_nil (by (with_reducible repeat (first | apply Kd.R_alloc | apply Kd.R_drewN | apply Kd.R_drew)); exact HO0_0.out)) hg hat); have n1_ := Aside0.mk (blk_grown (g := gb134) (o := .cells #[.slice Ao35 l0_0.length co35, .int .i64 a0_1, .int .i64 a0_2, .bool a0_3] 30 (0, 0)) (by (with_reducible repeat (first | refine blk_drewN ?_ _ | refine blk_drew ?_ | refine blk_alloc ?_ _)); exact BK134.out) hg (by simp [Value.ownBlock])); have n2_ := Aside0.mk (blk_grown (g := gb135) (o := .cells #[.slice none 0 0, .int .i64 0, .int .i64 0, .bool false] 30 (0, 0)) (by (with_reducible repeat (first | refine blk_drewN ?_ _ | refine blk_drew ?_ | refine blk_alloc ?_ _)); exact BK135.out) hg (by simp [Value.ownBlock])); have n3_ := Aside0.mk (hb); have n4_ := Aside0.mk (Kept.of_grown (S := (fun k_ => P0_0_ k_)) hg (by repeat (first | (with_reducible first | exact HK.out | apply Kept.alloc | apply Kept.drewN | apply Kept.drew | refine Kept.setCell ?_ (.inr GW134.out) _ | refine Kept.setCell ?_ (.inr GW135.out) _) | exact HK.out)) (fun k_ e_ => by simp [Value.ownBlock] at e_)); have n5_ := Aside0.mk (ho); clear HO0_0; clear BK134; clear BK135; clear HB; clear HK; have HO0_0 := n0_; have BK134 := n1_; have BK135 := n2_; have HB := n3_; have HK := n4_; have HO140 := n5_; clear n0_ n1_ n2_ n3_ n4_ n5_; clear ho hb hg hat; have hcz43_0 : w42.cell? ⟨gb134, 0, none⟩ = some (.slice Ao35 l0_0.length co35) := (blk_cell BK134.out 0).trans rfl; have hcz43_1 : w42.cell? ⟨gb134, 1, none⟩ = some (.int .i64 a0_1) := (blk_cell BK134.out 1).trans rfl; have hcz43_2 : w42.cell? ⟨gb134, 2, none⟩ = some (.int .i64 a0_2) := (blk_cell BK134.out 2).trans rfl; have hcz43_3 : w42.cell? ⟨gb134, 3, none⟩ = some (.bool a0_3) := (blk_cell BK134.out 3).trans rfl; have hfz43_0 := blk_frozen BK134.out 0; have hfz43_1 := blk_frozen BK134.out 1; have hfz43_2 := blk_frozen BK134.out 2; have hfz43_3 := blk_frozen BK134.out 3; have p33 : 0 ≤ (a1 : Int) := of_decide_eq_true (by first | (with_reducible assumption) | assumption); have q33 : (a1 : Int) < ((y138.length : Int) : Int) := of_decide_eq_true (by first | (with_reducible assumption) | assumption); obtain ⟨go33, co33, eo33, gb33, gl33, cl33, HG33⟩ := Kd.R_form HO140.out (by omega); (first | cases eo33 | (injection eo33 with ea_ en_ ec_; (first | subst ea_ | (injection ea_ with ea_; subst ea_)); subst ec_; clear en_)); have GB33 := Aside0.mk gb33; have GG33 := Aside0.mk HG33; clear gb33 gl33 HG33; have HMgo33 := Aside0.mk (show (P0_0_ go33 ∨ w.heap.size ≤ go33) from (HO140.out.1 _ rfl).1); obtain ⟨hx33_0, hf33_0⟩ := Kd.R_celln (⟨#[]⟩ : ByteArray) HO140.out (a1 : Int) p33 q33; replace p33 := eq_true p33; replace q33 := eq_true q33; obtain ⟨hy44_, hz44_⟩ := Kd.R_celln (⟨#[]⟩ : ByteArray) HO140.out (a1 : Int) (of_decide_eq_true (by first | (with_reducible assumption) | assumption)) (of_decide_eq_true (by first | (with_reducible assumption) | assumption)); have HP44 := Kd.R_putg HO140.out (a1 : Int) a2) | ((with_reducible refine gate_store (t := 9) (p := 51) rfl ?_); refine store_event (t := 9) (p := 51) (v := ?vo_w45) (w1 := (w42.setCell ⟨go33, (a1 : Int).toNat, none⟩ (.string a2))) ?hg ?ho ?hn ?hr ?_; (case ho => rfl); (case hg => rfl); (case hn => rfl); (case hr => first | (go_simp; done) | (go_simp; rfl)); intro w45 hw; have hg : w42.grownBy w45 (some go33) := (by rw [hw]; exact HP44.2); have hp_ : Kd.R Kd.string 9 w45 w0.heap.size (fun k_ => (P0_0_ k_ ∨ w.heap.size ≤ k_) ∧ some k_ ≠ (.slice Ao35 l0_0.length co35 : Value).ownBlock) (.slice (some ⟨go33, 0, none⟩) y138.length co33) y142 := (by rw [hw, Ny142.out]; exact HP44.1); clear HP44; have n0_ := Aside0.mk (Kd.R_after (v := (.slice (some ⟨go33, 0, none⟩) y138.length co33)) (v1 := (.slice (some ⟨go33, 0, none⟩) y138.length co33)) (ok := (fun k_ => (P0_0_ k_ ∨ w.heap.size ≤ k_))) (by (with_reducible repeat (first | apply Kd.R_alloc | apply Kd.R_drewN | apply Kd.R_drew)); exact HO0_0.out) hg (.inl rfl)); have n1_ := Aside0.mk (blk_grown (g := gb134) (o := .cells #[.slice Ao35 l0_0.length co35, .int .i64 a0_1, .int .i64 a0_2, .bool a0_3] 30 (0, 0)) (by (with_reducible repeat (first | refine blk_drewN ?_ _ | refine blk_drew ?_ | refine blk_alloc ?_ _)); exact BK134.out) hg (Kd.R_ne HO140.out BK134.out (by decide))); have n2_ := Aside0.mk (blk_grown (g := gb135) (o := .cells #[.slice none 0 0, .int .i64 0, .int .i64 0, .bool false] 30 (0, 0)) (by (with_reducible repeat (first | refine blk_drewN ?_ _ | refine blk_drew ?_ | refine blk_alloc ?_ _)); exact BK135.out) hg (Kd.R_ne HO140.out BK135.out (by decide))); have n3_ := Aside0.mk (hp_); have n4_ := Aside0.mk ((by rw [hw]; exact below_set (HB.out) GB33.out : Below w0.heap.size w0 w45)); have n5_ := Aside0.mk (Kept.of_grown (S := (fun k_ => P0_0_ k_)) hg (by repeat (first | (with_reducible first | exact HK.out | apply Kept.alloc | apply Kept.drewN | apply Kept.drew | refine Kept.setCell ?_ (.inr GW134.out) _ | refine Kept.setCell ?_ (.inr GW135.out) _) | exact HK.out)) (fun k_ e_ => (HO140.out.1 k_ e_).1)); clear HO0_0; clear BK134; clear BK135; clear HO140; clear HB; clear HK; have HO0_0 := n0_; have BK134 := n1_; have BK135 := n2_; have HO140 := n3_; have HB := n4_; have HK := n5_; clear n0_ n1_ n2_ n3_ n4_ n5_; clear hg hw hp_; have hcz46_0 : w45.cell? ⟨gb134, 0, none⟩ = some (.slice Ao35 l0_0.length co35) := (blk_cell BK134.out 0).trans rfl; have hcz46_1 : w45.cell? ⟨gb134, 1, none⟩ = some (.int .i64 a0_1) := (blk_cell BK134.out 1).trans rfl; have hcz46_2 : w45.cell? ⟨gb134, 2, none⟩ = some (.int .i64 a0_2) := (blk_cell BK134.out 2).trans rfl; have hcz46_3 : w45.cell? ⟨gb134, 3, none⟩ = some (.bool a0_3) := (blk_cell BK134.out 3).trans rfl; have hfz46_0 := blk_frozen BK134.out 0; have hfz46_1 := blk_frozen BK134.out 1; have hfz46_2 := blk_frozen BK134.out 2; have hfz46_3 := blk_frozen BK134.out 3; have hcz47_0 : w45.cell? ⟨gb135, 0, none⟩ = some (.slice none 0 0) := (blk_cell BK135.out 0).trans rfl; have hcz47_1 : w45.cell? ⟨gb135, 1, none⟩ = some (.int .i64 0) := (blk_cell BK135.out 1).trans rfl; have hcz47_2 : w45.cell? ⟨gb135, 2, none⟩ = some (.int .i64 0) := (blk_cell BK135.out 2).trans rfl; have hcz47_3 : w45.cell? ⟨gb135, 3, none⟩ = some (.bool false) := (blk_cell BK135.out 3).trans rfl; have hfz47_0 := blk_frozen BK135.out 0; have hfz47_1 := blk_frozen BK135.out 1; have hfz47_2 := blk_frozen BK135.out 2; have hfz47_3 := blk_frozen BK135.out 3))
                refine bodyPost_ret (results_ct rfl _ _ gb135 30 #[.slice (some ⟨go33, 0, none⟩) y138.length co33, .int .i64 (wrap64 (a0_1 - 1)), .int .i64 a0_2, .bool a0_3] (0, 0) _ rfl (by (with_reducible repeat (first | refine blk_drewN ?_ _ | refine blk_drew ?_ | refine blk_alloc ?_ _)); refine blk_put (cs := #[.slice (some ⟨go33, 0, none⟩) y138.length co33, .int .i64 (wrap64 (a0_1 - 1)), .int .i64 a0_2, .bool false]) ?_ 3 _ rfl; (with_reducible repeat (first | refine blk_drewN ?_ _ | refine blk_drew ?_ | refine blk_alloc ?_ _)); refine blk_put (cs := #[.slice (some ⟨go33, 0, none⟩) y138.length co33, .int .i64 (wrap64 (a0_1 - 1)), .int .i64 0, .bool false]) ?_ 2 _ rfl; (with_reducible repeat (first | refine blk_drewN ?_ _ | refine blk_drew ?_ | refine blk_alloc ?_ _)); refine blk_put (cs := #[.slice (some ⟨go33, 0, none⟩) y138.length co33, .int .i64 0, .int .i64 0, .bool false]) ?_ 1 _ rfl; (with_reducible repeat (first | refine blk_drewN ?_ _ | refine blk_drew ?_ | refine blk_alloc ?_ _)); refine blk_put (cs := #[.slice none 0 0, .int .i64 0, .int .i64 0, .bool false]) ?_ 0 _ rfl; (with_reducible repeat (first | refine blk_drewN ?_ _ | refine blk_drew ?_ | refine blk_alloc ?_ _)); refine blk_far ?_ NB135_134.out _; (with_reducible repeat (first | refine blk_drewN ?_ _ | refine blk_drew ?_ | refine blk_alloc ?_ _)); refine blk_far ?_ NB135_134.out _; (with_reducible repeat (first | refine blk_drewN ?_ _ | refine blk_drew ?_ | refine blk_alloc ?_ _)); exact BK135.out) Try.underlying30 rfl (by kernel_rfl)) rfl ?_
                exact ⟨_, by first | rfl | (simp [errW_none, errW_some] <;> rfl) | (simp [*, errW_none, errW_some] <;> rfl), by (with_reducible repeat (first | apply Kd.R_alloc | apply Kd.R_drewN | apply Kd.R_drew)); exact Kd.R_mono (Kd.R_far (p := ⟨gb135, 3, none⟩) (Kd.R_far (p := ⟨gb135, 2, none⟩) (Kd.R_far (p := ⟨gb135, 1, none⟩) (Kd.R_far (p := ⟨gb135, 0, none⟩) (Kd.R_far (p := ⟨gb134, 1, none⟩) (Kd.R_far (p := ⟨gb134, 0, none⟩) (Kd.R_types (Kd.R_types HO140.out BK134.out (by decide)) BK135.out (by decide)) (fun _ hk => hk.1.2) (.slice (some ⟨go33, 0, none⟩) y138.length co33)) (fun _ hk => hk.1.2) (.int .i64 (wrap64 (a0_1 - 1)))) (fun _ hk => hk.2) (.slice (some ⟨go33, 0, none⟩) y138.length co33)) (fun _ hk => hk.2) (.int .i64 (wrap64 (a0_1 - 1)))) (fun _ hk => hk.2) (.int .i64 a0_2)) (fun _ hk => hk.2) (.bool a0_3)) (fun _ hk => hk.1.1.1), by repeat (first | (with_reducible first | exact HB.out | apply below_alloc | apply pw_below_drewN | apply below_drew1 | refine below_set ?_ GE134.out | refine below_set ?_ GE135.out) | exact HB.out), by repeat (first | (with_reducible first | exact HK.out | apply Kept.alloc | apply Kept.drewN | apply Kept.drew | refine Kept.setCell ?_ (.inr GW134.out) _ | refine Kept.setCell ?_ (.inr GW135.out) _) | exact HK.out)⟩
              · rw [if_neg c34] at H
                have c34b0 : decide (0 < a0_1) = false := decide_eq_false c34
                clear c34
                simp only [Option.some.injEq, Prod.mk.injEq] at H
                obtain ⟨rfl, rfl, rfl, rfl, rfl⟩ := H
                obtain ⟨Ao48, co48, eo48⟩ := Kd.R_slice HO0_0.out
                subst eo48
                go_enter Try.func18, Try.ntmps18
                go_wp2_with (first | ((with_reducible refine gate_dst (N := 3) rfl ?_); refine box_event ?hg (N := 3) ?hd (cs := #[.slice Ao48 l0_0.length co48, .int .i64 a0_1, .int .i64 a0_2, .bool a0_3]) (t := 30) ?hr ?_; (case hd => rfl); (case hg => rfl); (case hr => first | (go_simp; done) | (go_simp; rfl)); intro gb134 hg w49 hbox hb; have n0_ := Aside0.mk (Kd.R_below (by (with_reducible repeat (first | apply Kd.R_alloc | apply Kd.R_drewN | apply Kd.R_drew)); exact HO0_0.out) hb); have n1_ := Aside0.mk (Kept.below (S := (fun k_ => P0_0_ k_)) (by repeat (first | (with_reducible first | exact HK.out | apply Kept.alloc | apply Kept.drewN | apply Kept.drew) | exact HK.out)) hb); have n2_ := Aside0.mk (below_step (by repeat (first | (with_reducible first | exact HB.out | apply below_alloc | apply pw_below_drewN | apply below_drew1) | exact HB.out)) hb); have n3_ := Aside0.mk (hbox); have n4_ := Aside0.mk ((by rw [hg]; exact (by first | exact HK.out.1 | exact (show Kept w _ (fun k_ => P0_0_ k_) from by repeat (first | (with_reducible first | exact HK.out | apply Kept.alloc | apply Kept.drewN | apply Kept.drew) | exact HK.out)).1) : w.heap.size ≤ gb134)); have n5_ := Aside0.mk ((by rw [hg]; exact (below_size (by repeat (first | (with_reducible first | exact HB.out | apply below_alloc | apply pw_below_drewN | apply below_drew1) | exact HB.out))) : w0.heap.size ≤ gb134)); clear HO0_0; clear HK; clear HB; have HO0_0 := n0_; have HK := n1_; have HB := n2_; have BK134 := n3_; have GW134 := n4_; have GE134 := n5_; clear n0_ n1_ n2_ n3_ n4_ n5_; clear hb hbox hg) | ((with_reducible refine gate_dst (N := 6) rfl ?_); refine box_event ?hg (N := 6) ?hd (cs := #[.slice none 0 0, .int .i64 0, .int .i64 0, .bool false]) (t := 30) ?hr ?_; (case hd => rfl); (case hg => rfl); (case hr => first | (go_simp; done) | (go_simp; rfl)); intro gb135 hg w50 hbox hb; have n0_ := Aside0.mk (Kd.R_below (by (with_reducible repeat (first | apply Kd.R_alloc | apply Kd.R_drewN | apply Kd.R_drew)); exact HO0_0.out) hb); have n1_ := Aside0.mk (blk_below (g := gb134) (o := .cells #[.slice Ao48 l0_0.length co48, .int .i64 a0_1, .int .i64 a0_2, .bool a0_3] 30 (0, 0)) (by (with_reducible repeat (first | refine blk_drewN ?_ _ | refine blk_drew ?_ | refine blk_alloc ?_ _)); exact BK134.out) hb); have n2_ := Aside0.mk (Kept.below (S := (fun k_ => P0_0_ k_)) (by repeat (first | (with_reducible first | exact HK.out | apply Kept.alloc | apply Kept.drewN | apply Kept.drew | refine Kept.setCell ?_ (.inr GW134.out) _) | exact HK.out)) hb); have n3_ := Aside0.mk (below_step (by repeat (first | (with_reducible first | exact HB.out | apply below_alloc | apply pw_below_drewN | apply below_drew1 | refine below_set ?_ GE134.out) | exact HB.out)) hb); have n4_ := Aside0.mk (hbox); have n5_ := Aside0.mk ((by rw [hg]; exact (by first | exact HK.out.1 | exact (show Kept w _ (fun k_ => P0_0_ k_) from by repeat (first | (with_reducible first | exact HK.out | apply Kept.alloc | apply Kept.drewN | apply Kept.drew | refine Kept.setCell ?_ (.inr GW134.out) _) | exact HK.out)).1) : w.heap.size ≤ gb135)); have n6_ := Aside0.mk ((by rw [hg]; exact (below_size (by repeat (first | (with_reducible first | exact HB.out | apply below_alloc | apply pw_below_drewN | apply below_drew1 | refine below_set ?_ GE134.out) | exact HB.out))) : w0.heap.size ≤ gb135)); have n7_ := Aside0.mk ((by rw [hg]; exact Nat.ne_of_lt (blk_lt (g := gb134) (o := .cells #[.slice Ao48 l0_0.length co48, .int .i64 a0_1, .int .i64 a0_2, .bool a0_3] 30 (0, 0)) (by (with_reducible repeat (first | refine blk_drewN ?_ _ | refine blk_drew ?_ | refine blk_alloc ?_ _)); exact BK134.out)) : gb134 ≠ gb135)); have n8_ := Aside0.mk ((by rw [hg]; exact Nat.ne_of_gt (blk_lt (g := gb134) (o := .cells #[.slice Ao48 l0_0.length co48, .int .i64 a0_1, .int .i64 a0_2, .bool a0_3] 30 (0, 0)) (by (with_reducible repeat (first | refine blk_drewN ?_ _ | refine blk_drew ?_ | refine blk_alloc ?_ _)); exact BK134.out)) : gb135 ≠ gb134)); clear HO0_0; clear BK134; clear HK; clear HB; have HO0_0 := n0_; have BK134 := n1_; have HK := n2_; have HB := n3_; have BK135 := n4_; have GW135 := n5_; have GE135 := n6_; have NB134_135 := n7_; have NB135_134 := n8_; clear n0_ n1_ n2_ n3_ n4_ n5_ n6_ n7_ n8_; clear hb hbox hg; have hnb51 := NB134_135.out; have hnc51 := NB135_134.out; have hcz52_0 : w50.cell? ⟨gb134, 0, none⟩ = some (.slice Ao48 l0_0.length co48) := (blk_cell BK134.out 0).trans rfl; have hcz52_1 : w50.cell? ⟨gb134, 1, none⟩ = some (.int .i64 a0_1) := (blk_cell BK134.out 1).trans rfl; have hcz52_2 : w50.cell? ⟨gb134, 2, none⟩ = some (.int .i64 a0_2) := (blk_cell BK134.out 2).trans rfl; have hcz52_3 : w50.cell? ⟨gb134, 3, none⟩ = some (.bool a0_3) := (blk_cell BK134.out 3).trans rfl; have hfz52_0 := blk_frozen BK134.out 0; have hfz52_1 := blk_frozen BK134.out 1; have hfz52_2 := blk_frozen BK134.out 2; have hfz52_3 := blk_frozen BK134.out 3) | ((with_reducible refine gate_callee (f := 22) rfl ?_); refine goesL_ (some 14) rfl rfl Try.func22 (by kernel_rfl) rfl #[.agg #[.slice Ao48 l0_0.length co48, .int .i64 a0_1, .int .i64 a0_2, .bool a0_3], .int .i64 a1] rfl (by (try simp only [List.map_toArray, List.map_cons, List.map_nil]); first | done | rfl | (simp only [List.length_drop, List.length_take]; rfl)) ?_; (with_reducible refine (baileeref08_Read.calls _ _ l0_0 a0_1 a0_2 a0_3 a1 t136 t137 _ ?side1 ?side2 A4.out).mono ?_); (case side1 => repeat (first | exact (Kd.R_reads' HO0_0.out).2.2 | (with_reducible refine Kd.C_alloc ?_ _) | (with_reducible refine Kd.C_drewN ?_ _) | (with_reducible refine Kd.C_drew ?_))); (case side2 => exact (Kd.R_reads' HO0_0.out).2.1); rintro e w53 ⟨rfl, hb⟩; refine ⟨_, rfl, ?_⟩; have n0_ := Aside0.mk (Kd.R_below (by (with_reducible repeat (first | apply Kd.R_alloc | apply Kd.R_drewN | apply Kd.R_drew)); exact HO0_0.out) hb); have n1_ := Aside0.mk (blk_below (g := gb134) (o := .cells #[.slice Ao48 l0_0.length co48, .int .i64 a0_1, .int .i64 a0_2, .bool a0_3] 30 (0, 0)) (by (with_reducible repeat (first | refine blk_drewN ?_ _ | refine blk_drew ?_ | refine blk_alloc ?_ _)); exact BK134.out) hb); have n2_ := Aside0.mk (blk_below (g := gb135) (o := .cells #[.slice none 0 0, .int .i64 0, .int .i64 0, .bool false] 30 (0, 0)) (by (with_reducible repeat (first | refine blk_drewN ?_ _ | refine blk_drew ?_ | refine blk_alloc ?_ _)); exact BK135.out) hb); have n3_ := Aside0.mk (Kept.below (S := (fun k_ => P0_0_ k_)) (by repeat (first | (with_reducible first | exact HK.out | apply Kept.alloc | apply Kept.drewN | apply Kept.drew | refine Kept.setCell ?_ (.inr GW134.out) _ | refine Kept.setCell ?_ (.inr GW135.out) _) | exact HK.out)) hb); have n4_ := Aside0.mk (below_step (by repeat (first | (with_reducible first | exact HB.out | apply below_alloc | apply pw_below_drewN | apply below_drew1 | refine below_set ?_ GE134.out | refine below_set ?_ GE135.out) | exact HB.out)) hb); clear HO0_0; clear BK134; clear BK135; clear HK; clear HB; have HO0_0 := n0_; have BK134 := n1_; have BK135 := n2_; have HK := n3_; have HB := n4_; clear n0_ n1_ n2_ n3_ n4_; (try clear hb); (try clear hb2); (try clear hk); (try clear hi); have hcz54_0 : w53.cell? ⟨gb134, 0, none⟩ = some (.slice Ao48 l0_0.length co48) := (blk_cell BK134.out 0).trans rfl; have hcz54_1 : w53.cell? ⟨gb134, 1, none⟩ = some (.int .i64 a0_1) := (blk_cell BK134.out 1).trans rfl; have hcz54_2 : w53.cell? ⟨gb134, 2, none⟩ = some (.int .i64 a0_2) := (blk_cell BK134.out 2).trans rfl; have hcz54_3 : w53.cell? ⟨gb134, 3, none⟩ = some (.bool a0_3) := (blk_cell BK134.out 3).trans rfl; have hfz54_0 := blk_frozen BK134.out 0; have hfz54_1 := blk_frozen BK134.out 1; have hfz54_2 := blk_frozen BK134.out 2; have hfz54_3 := blk_frozen BK134.out 3) | ((with_reducible refine gate_builtin (b := .append) (xs := #[.tmp 25, .tmp 27]) rfl ?_); at_builtin; refine Kd.R_append_rows Kd.string (w0 := w0) w0.heap.size rfl (.tmp 25) (.tmp 27) 28 9 (.string ⟨#[]⟩) 16 rfl Try.underlying28 info9 rfl (by decide) (by omega) (.slice none 0 0) ([] : List ByteArray) l0_0 _ _ _ (fun k_ => (P0_0_ k_ ∨ w.heap.size ≤ k_) ∧ some k_ ≠ (.slice Ao48 l0_0.length co48 : Value).ownBlock) (fun _ => False) rfl rfl ?aO ?aR (fun _ _ h => h) (fun _ h => h.elim) ?aF ?aB ?aS ?aL ?_; (case aR => repeat (first | exact (Kd.R_reads' HO0_0.out).2.2 | (with_reducible refine Kd.C_alloc ?_ _) | (with_reducible refine Kd.C_drewN ?_ _) | (with_reducible refine Kd.C_drew ?_))); (case aB => exact (by repeat (first | (with_reducible first | exact HB.out | apply below_alloc | apply pw_below_drewN | apply below_drew1 | refine below_set ?_ GE134.out | refine below_set ?_ GE135.out) | exact HB.out))); (case aF => exact (fun k_ hk => ⟨(.inr (Nat.le_trans (by first | exact HK.out.1 | exact (show Kept w _ (fun k_ => P0_0_ k_) from by repeat (first | (with_reducible first | exact HK.out | apply Kept.alloc | apply Kept.drewN | apply Kept.drew | refine Kept.setCell ?_ (.inr GW134.out) _ | refine Kept.setCell ?_ (.inr GW135.out) _) | exact HK.out)).1) hk)), Kd.fresh' (Kd.R_lt (by (with_reducible repeat (first | apply Kd.R_alloc | apply Kd.R_drewN | apply Kd.R_drew)); exact HO0_0.out)) k_ hk⟩)); (case aO => exact ((Kd.R_nil _ _ _ _ (fun k_ => (P0_0_ k_ ∨ w.heap.size ≤ k_) ∧ some k_ ≠ (.slice Ao48 l0_0.length co48 : Value).ownBlock)))); (case aS => exact (below_size (by repeat (first | (with_reducible first | exact HB.out | apply below_alloc | apply pw_below_drewN | apply below_drew1 | refine below_set ?_ GE134.out | refine below_set ?_ GE135.out) | exact HB.out)))); (case aL => have := LMc7.out; omega); intro v139 w55 ho hb hg hat; rw [← Ny138.out] at ho; have n0_ := Aside0.mk (Kd.R_after (Kd.R_apart_nil (by (with_reducible repeat (first | apply Kd.R_alloc | apply Kd.R_drewN | apply Kd.R_drew)); exact HO0_0.out)) hg hat); have n1_ := Aside0.mk (blk_grown (g := gb134) (o := .cells #[.slice Ao48 l0_0.length co48, .int .i64 a0_1, .int .i64 a0_2, .bool a0_3] 30 (0, 0)) (by (with_reducible repeat (first | refine blk_drewN ?_ _ | refine blk_drew ?_ | refine blk_alloc ?_ _)); exact BK134.out) hg (by simp [Value.ownBlock])); have n2_ := Aside0.mk (blk_grown (g := gb135) (o := .cells #[.slice none 0 0, .int .i64 0, .int .i64 0, .bool false] 30 (0, 0)) (by (with_reducible repeat (first | refine blk_drewN ?_ _ | refine blk_drew ?_ | refine blk_alloc ?_ _)); exact BK135.out) hg (by simp [Value.ownBlock])); have n3_ := Aside0.mk (hb); have n4_ := Aside0.mk (Kept.of_grown (S := (fun k_ => P0_0_ k_)) hg (by repeat (first | (with_reducible first | exact HK.out | apply Kept.alloc | apply Kept.drewN | apply Kept.drew | refine Kept.setCell ?_ (.inr GW134.out) _ | refine Kept.setCell ?_ (.inr GW135.out) _) | exact HK.out)) (fun k_ e_ => by simp [Value.ownBlock] at e_)); have n5_ := Aside0.mk (ho); clear HO0_0; clear BK134; clear BK135; clear HB; clear HK; have HO0_0 := n0_; have BK134 := n1_; have BK135 := n2_; have HB := n3_; have HK := n4_; have HO140 := n5_; clear n0_ n1_ n2_ n3_ n4_ n5_; clear ho hb hg hat; have hcz56_0 : w55.cell? ⟨gb134, 0, none⟩ = some (.slice Ao48 l0_0.length co48) := (blk_cell BK134.out 0).trans rfl; have hcz56_1 : w55.cell? ⟨gb134, 1, none⟩ = some (.int .i64 a0_1) := (blk_cell BK134.out 1).trans rfl; have hcz56_2 : w55.cell? ⟨gb134, 2, none⟩ = some (.int .i64 a0_2) := (blk_cell BK134.out 2).trans rfl; have hcz56_3 : w55.cell? ⟨gb134, 3, none⟩ = some (.bool a0_3) := (blk_cell BK134.out 3).trans rfl; have hfz56_0 := blk_frozen BK134.out 0; have hfz56_1 := blk_frozen BK134.out 1; have hfz56_2 := blk_frozen BK134.out 2; have hfz56_3 := blk_frozen BK134.out 3; have p33 : 0 ≤ (a1 : Int) := of_decide_eq_true (by first | (with_reducible assumption) | assumption); have q33 : (a1 : Int) < ((y138.length : Int) : Int) := of_decide_eq_true (by first | (with_reducible assumption) | assumption); obtain ⟨go33, co33, eo33, gb33, gl33, cl33, HG33⟩ := Kd.R_form HO140.out (by omega); (first | cases eo33 | (injection eo33 with ea_ en_ ec_; (first | subst ea_ | (injection ea_ with ea_; subst ea_)); subst ec_; clear en_)); have GB33 := Aside0.mk gb33; have GG33 := Aside0.mk HG33; clear gb33 gl33 HG33; have HMgo33 := Aside0.mk (show (P0_0_ go33 ∨ w.heap.size ≤ go33) from (HO140.out.1 _ rfl).1); obtain ⟨hx33_0, hf33_0⟩ := Kd.R_celln (⟨#[]⟩ : ByteArray) HO140.out (a1 : Int) p33 q33; replace p33 := eq_true p33; replace q33 := eq_true q33; obtain ⟨hy57_, hz57_⟩ := Kd.R_celln (⟨#[]⟩ : ByteArray) HO140.out (a1 : Int) (of_decide_eq_true (by first | (with_reducible assumption) | assumption)) (of_decide_eq_true (by first | (with_reducible assumption) | assumption)); have HP57 := Kd.R_putg HO140.out (a1 : Int) a2) | ((with_reducible refine gate_store (t := 9) (p := 51) rfl ?_); refine store_event (t := 9) (p := 51) (v := ?vo_w58) (w1 := (w55.setCell ⟨go33, (a1 : Int).toNat, none⟩ (.string a2))) ?hg ?ho ?hn ?hr ?_; (case ho => rfl); (case hg => rfl); (case hn => rfl); (case hr => first | (go_simp; done) | (go_simp; rfl)); intro w58 hw; have hg : w55.grownBy w58 (some go33) := (by rw [hw]; exact HP57.2); have hp_ : Kd.R Kd.string 9 w58 w0.heap.size (fun k_ => (P0_0_ k_ ∨ w.heap.size ≤ k_) ∧ some k_ ≠ (.slice Ao48 l0_0.length co48 : Value).ownBlock) (.slice (some ⟨go33, 0, none⟩) y138.length co33) y142 := (by rw [hw, Ny142.out]; exact HP57.1); clear HP57; have n0_ := Aside0.mk (Kd.R_after (v := (.slice (some ⟨go33, 0, none⟩) y138.length co33)) (v1 := (.slice (some ⟨go33, 0, none⟩) y138.length co33)) (ok := (fun k_ => (P0_0_ k_ ∨ w.heap.size ≤ k_))) (by (with_reducible repeat (first | apply Kd.R_alloc | apply Kd.R_drewN | apply Kd.R_drew)); exact HO0_0.out) hg (.inl rfl)); have n1_ := Aside0.mk (blk_grown (g := gb134) (o := .cells #[.slice Ao48 l0_0.length co48, .int .i64 a0_1, .int .i64 a0_2, .bool a0_3] 30 (0, 0)) (by (with_reducible repeat (first | refine blk_drewN ?_ _ | refine blk_drew ?_ | refine blk_alloc ?_ _)); exact BK134.out) hg (Kd.R_ne HO140.out BK134.out (by decide))); have n2_ := Aside0.mk (blk_grown (g := gb135) (o := .cells #[.slice none 0 0, .int .i64 0, .int .i64 0, .bool false] 30 (0, 0)) (by (with_reducible repeat (first | refine blk_drewN ?_ _ | refine blk_drew ?_ | refine blk_alloc ?_ _)); exact BK135.out) hg (Kd.R_ne HO140.out BK135.out (by decide))); have n3_ := Aside0.mk (hp_); have n4_ := Aside0.mk ((by rw [hw]; exact below_set (HB.out) GB33.out : Below w0.heap.size w0 w58)); have n5_ := Aside0.mk (Kept.of_grown (S := (fun k_ => P0_0_ k_)) hg (by repeat (first | (with_reducible first | exact HK.out | apply Kept.alloc | apply Kept.drewN | apply Kept.drew | refine Kept.setCell ?_ (.inr GW134.out) _ | refine Kept.setCell ?_ (.inr GW135.out) _) | exact HK.out)) (fun k_ e_ => (HO140.out.1 k_ e_).1)); clear HO0_0; clear BK134; clear BK135; clear HO140; clear HB; clear HK; have HO0_0 := n0_; have BK134 := n1_; have BK135 := n2_; have HO140 := n3_; have HB := n4_; have HK := n5_; clear n0_ n1_ n2_ n3_ n4_ n5_; clear hg hw hp_; have hcz59_0 : w58.cell? ⟨gb134, 0, none⟩ = some (.slice Ao48 l0_0.length co48) := (blk_cell BK134.out 0).trans rfl; have hcz59_1 : w58.cell? ⟨gb134, 1, none⟩ = some (.int .i64 a0_1) := (blk_cell BK134.out 1).trans rfl; have hcz59_2 : w58.cell? ⟨gb134, 2, none⟩ = some (.int .i64 a0_2) := (blk_cell BK134.out 2).trans rfl; have hcz59_3 : w58.cell? ⟨gb134, 3, none⟩ = some (.bool a0_3) := (blk_cell BK134.out 3).trans rfl; have hfz59_0 := blk_frozen BK134.out 0; have hfz59_1 := blk_frozen BK134.out 1; have hfz59_2 := blk_frozen BK134.out 2; have hfz59_3 := blk_frozen BK134.out 3; have hcz60_0 : w58.cell? ⟨gb135, 0, none⟩ = some (.slice none 0 0) := (blk_cell BK135.out 0).trans rfl; have hcz60_1 : w58.cell? ⟨gb135, 1, none⟩ = some (.int .i64 0) := (blk_cell BK135.out 1).trans rfl; have hcz60_2 : w58.cell? ⟨gb135, 2, none⟩ = some (.int .i64 0) := (blk_cell BK135.out 2).trans rfl; have hcz60_3 : w58.cell? ⟨gb135, 3, none⟩ = some (.bool false) := (blk_cell BK135.out 3).trans rfl; have hfz60_0 := blk_frozen BK135.out 0; have hfz60_1 := blk_frozen BK135.out 1; have hfz60_2 := blk_frozen BK135.out 2; have hfz60_3 := blk_frozen BK135.out 3))
                refine bodyPost_ret (results_ct rfl _ _ gb135 30 #[.slice (some ⟨go33, 0, none⟩) y138.length co33, .int .i64 a0_1, .int .i64 a0_2, .bool a0_3] (0, 0) _ rfl (by (with_reducible repeat (first | refine blk_drewN ?_ _ | refine blk_drew ?_ | refine blk_alloc ?_ _)); refine blk_put (cs := #[.slice (some ⟨go33, 0, none⟩) y138.length co33, .int .i64 a0_1, .int .i64 a0_2, .bool false]) ?_ 3 _ rfl; (with_reducible repeat (first | refine blk_drewN ?_ _ | refine blk_drew ?_ | refine blk_alloc ?_ _)); refine blk_put (cs := #[.slice (some ⟨go33, 0, none⟩) y138.length co33, .int .i64 a0_1, .int .i64 0, .bool false]) ?_ 2 _ rfl; (with_reducible repeat (first | refine blk_drewN ?_ _ | refine blk_drew ?_ | refine blk_alloc ?_ _)); refine blk_put (cs := #[.slice (some ⟨go33, 0, none⟩) y138.length co33, .int .i64 0, .int .i64 0, .bool false]) ?_ 1 _ rfl; (with_reducible repeat (first | refine blk_drewN ?_ _ | refine blk_drew ?_ | refine blk_alloc ?_ _)); refine blk_put (cs := #[.slice none 0 0, .int .i64 0, .int .i64 0, .bool false]) ?_ 0 _ rfl; (with_reducible repeat (first | refine blk_drewN ?_ _ | refine blk_drew ?_ | refine blk_alloc ?_ _)); refine blk_far ?_ NB135_134.out _; (with_reducible repeat (first | refine blk_drewN ?_ _ | refine blk_drew ?_ | refine blk_alloc ?_ _)); exact BK135.out) Try.underlying30 rfl (by kernel_rfl)) rfl ?_
                exact ⟨_, by first | rfl | (simp [errW_none, errW_some] <;> rfl) | (simp [*, errW_none, errW_some] <;> rfl), by (with_reducible repeat (first | apply Kd.R_alloc | apply Kd.R_drewN | apply Kd.R_drew)); exact Kd.R_mono (Kd.R_far (p := ⟨gb135, 3, none⟩) (Kd.R_far (p := ⟨gb135, 2, none⟩) (Kd.R_far (p := ⟨gb135, 1, none⟩) (Kd.R_far (p := ⟨gb135, 0, none⟩) (Kd.R_far (p := ⟨gb134, 0, none⟩) (Kd.R_types (Kd.R_types HO140.out BK134.out (by decide)) BK135.out (by decide)) (fun _ hk => hk.1.2) (.slice (some ⟨go33, 0, none⟩) y138.length co33)) (fun _ hk => hk.2) (.slice (some ⟨go33, 0, none⟩) y138.length co33)) (fun _ hk => hk.2) (.int .i64 a0_1)) (fun _ hk => hk.2) (.int .i64 a0_2)) (fun _ hk => hk.2) (.bool a0_3)) (fun _ hk => hk.1.1.1), by repeat (first | (with_reducible first | exact HB.out | apply below_alloc | apply pw_below_drewN | apply below_drew1 | refine below_set ?_ GE134.out | refine below_set ?_ GE135.out) | exact HB.out), by repeat (first | (with_reducible first | exact HK.out | apply Kept.alloc | apply Kept.drewN | apply Kept.drew | refine Kept.setCell ?_ (.inr GW134.out) _ | refine Kept.setCell ?_ (.inr GW135.out) _) | exact HK.out)⟩
            · rw [if_neg c32] at H
              exact absurd H (by simp)
          · rw [if_neg c31] at H
            exact absurd H (by simp)
      · rw [if_neg c7] at H
        exact absurd H (by simp)
    · rw [if_neg c6] at H
      have c6b0 : ((a2.size : Int) == 128) = false := beq_eq_false_iff_ne.mpr c6
      have c6b1 : ((a2.size : Int) != 128) = true := bne_iff_ne.mpr c6
      simp only [Option.some.injEq, Prod.mk.injEq] at H
      obtain ⟨rfl, rfl, rfl, rfl, rfl⟩ := H
      obtain ⟨Ao61, co61, eo61⟩ := Kd.R_slice HO0_0.out
      subst eo61
      go_enter Try.func18, Try.ntmps18
      go_wp2_with (first | ((with_reducible refine gate_dst (N := 3) rfl ?_); refine box_event ?hg (N := 3) ?hd (cs := #[.slice Ao61 l0_0.length co61, .int .i64 a0_1, .int .i64 a0_2, .bool a0_3]) (t := 30) ?hr ?_; (case hd => rfl); (case hg => rfl); (case hr => first | (go_simp; done) | (go_simp; rfl)); intro gb134 hg w62 hbox hb; have n0_ := Aside0.mk (Kd.R_below (by (with_reducible repeat (first | apply Kd.R_alloc | apply Kd.R_drewN | apply Kd.R_drew)); exact HO0_0.out) hb); have n1_ := Aside0.mk (Kept.below (S := (fun k_ => P0_0_ k_)) (by repeat (first | (with_reducible first | exact HK.out | apply Kept.alloc | apply Kept.drewN | apply Kept.drew) | exact HK.out)) hb); have n2_ := Aside0.mk (below_step (by repeat (first | (with_reducible first | exact HB.out | apply below_alloc | apply pw_below_drewN | apply below_drew1) | exact HB.out)) hb); have n3_ := Aside0.mk (hbox); have n4_ := Aside0.mk ((by rw [hg]; exact (by first | exact HK.out.1 | exact (show Kept w _ (fun k_ => P0_0_ k_) from by repeat (first | (with_reducible first | exact HK.out | apply Kept.alloc | apply Kept.drewN | apply Kept.drew) | exact HK.out)).1) : w.heap.size ≤ gb134)); have n5_ := Aside0.mk ((by rw [hg]; exact (below_size (by repeat (first | (with_reducible first | exact HB.out | apply below_alloc | apply pw_below_drewN | apply below_drew1) | exact HB.out))) : w0.heap.size ≤ gb134)); clear HO0_0; clear HK; clear HB; have HO0_0 := n0_; have HK := n1_; have HB := n2_; have BK134 := n3_; have GW134 := n4_; have GE134 := n5_; clear n0_ n1_ n2_ n3_ n4_ n5_; clear hb hbox hg) | ((with_reducible refine gate_dst (N := 6) rfl ?_); refine box_event ?hg (N := 6) ?hd (cs := #[.slice none 0 0, .int .i64 0, .int .i64 0, .bool false]) (t := 30) ?hr ?_; (case hd => rfl); (case hg => rfl); (case hr => first | (go_simp; done) | (go_simp; rfl)); intro gb135 hg w63 hbox hb; have n0_ := Aside0.mk (Kd.R_below (by (with_reducible repeat (first | apply Kd.R_alloc | apply Kd.R_drewN | apply Kd.R_drew)); exact HO0_0.out) hb); have n1_ := Aside0.mk (blk_below (g := gb134) (o := .cells #[.slice Ao61 l0_0.length co61, .int .i64 a0_1, .int .i64 a0_2, .bool a0_3] 30 (0, 0)) (by (with_reducible repeat (first | refine blk_drewN ?_ _ | refine blk_drew ?_ | refine blk_alloc ?_ _)); exact BK134.out) hb); have n2_ := Aside0.mk (Kept.below (S := (fun k_ => P0_0_ k_)) (by repeat (first | (with_reducible first | exact HK.out | apply Kept.alloc | apply Kept.drewN | apply Kept.drew | refine Kept.setCell ?_ (.inr GW134.out) _) | exact HK.out)) hb); have n3_ := Aside0.mk (below_step (by repeat (first | (with_reducible first | exact HB.out | apply below_alloc | apply pw_below_drewN | apply below_drew1 | refine below_set ?_ GE134.out) | exact HB.out)) hb); have n4_ := Aside0.mk (hbox); have n5_ := Aside0.mk ((by rw [hg]; exact (by first | exact HK.out.1 | exact (show Kept w _ (fun k_ => P0_0_ k_) from by repeat (first | (with_reducible first | exact HK.out | apply Kept.alloc | apply Kept.drewN | apply Kept.drew | refine Kept.setCell ?_ (.inr GW134.out) _) | exact HK.out)).1) : w.heap.size ≤ gb135)); have n6_ := Aside0.mk ((by rw [hg]; exact (below_size (by repeat (first | (with_reducible first | exact HB.out | apply below_alloc | apply pw_below_drewN | apply below_drew1 | refine below_set ?_ GE134.out) | exact HB.out))) : w0.heap.size ≤ gb135)); have n7_ := Aside0.mk ((by rw [hg]; exact Nat.ne_of_lt (blk_lt (g := gb134) (o := .cells #[.slice Ao61 l0_0.length co61, .int .i64 a0_1, .int .i64 a0_2, .bool a0_3] 30 (0, 0)) (by (with_reducible repeat (first | refine blk_drewN ?_ _ | refine blk_drew ?_ | refine blk_alloc ?_ _)); exact BK134.out)) : gb134 ≠ gb135)); have n8_ := Aside0.mk ((by rw [hg]; exact Nat.ne_of_gt (blk_lt (g := gb134) (o := .cells #[.slice Ao61 l0_0.length co61, .int .i64 a0_1, .int .i64 a0_2, .bool a0_3] 30 (0, 0)) (by (with_reducible repeat (first | refine blk_drewN ?_ _ | refine blk_drew ?_ | refine blk_alloc ?_ _)); exact BK134.out)) : gb135 ≠ gb134)); clear HO0_0; clear BK134; clear HK; clear HB; have HO0_0 := n0_; have BK134 := n1_; have HK := n2_; have HB := n3_; have BK135 := n4_; have GW135 := n5_; have GE135 := n6_; have NB134_135 := n7_; have NB135_134 := n8_; clear n0_ n1_ n2_ n3_ n4_ n5_ n6_ n7_ n8_; clear hb hbox hg; have hnb64 := NB134_135.out; have hnc64 := NB135_134.out; have hcz65_0 : w63.cell? ⟨gb134, 0, none⟩ = some (.slice Ao61 l0_0.length co61) := (blk_cell BK134.out 0).trans rfl; have hcz65_1 : w63.cell? ⟨gb134, 1, none⟩ = some (.int .i64 a0_1) := (blk_cell BK134.out 1).trans rfl; have hcz65_2 : w63.cell? ⟨gb134, 2, none⟩ = some (.int .i64 a0_2) := (blk_cell BK134.out 2).trans rfl; have hcz65_3 : w63.cell? ⟨gb134, 3, none⟩ = some (.bool a0_3) := (blk_cell BK134.out 3).trans rfl; have hfz65_0 := blk_frozen BK134.out 0; have hfz65_1 := blk_frozen BK134.out 1; have hfz65_2 := blk_frozen BK134.out 2; have hfz65_3 := blk_frozen BK134.out 3) | ((with_reducible refine gate_callee (f := 22) rfl ?_); refine goesL_ (some 14) rfl rfl Try.func22 (by kernel_rfl) rfl #[.agg #[.slice Ao61 l0_0.length co61, .int .i64 a0_1, .int .i64 a0_2, .bool a0_3], .int .i64 a1] rfl (by (try simp only [List.map_toArray, List.map_cons, List.map_nil]); first | done | rfl | (simp only [List.length_drop, List.length_take]; rfl)) ?_; (with_reducible refine (baileeref08_Read.calls _ _ l0_0 a0_1 a0_2 a0_3 a1 t136 t137 _ ?side1 ?side2 A4.out).mono ?_); (case side1 => repeat (first | exact (Kd.R_reads' HO0_0.out).2.2 | (with_reducible refine Kd.C_alloc ?_ _) | (with_reducible refine Kd.C_drewN ?_ _) | (with_reducible refine Kd.C_drew ?_))); (case side2 => exact (Kd.R_reads' HO0_0.out).2.1); rintro e w66 ⟨rfl, hb⟩; refine ⟨_, rfl, ?_⟩; have n0_ := Aside0.mk (Kd.R_below (by (with_reducible repeat (first | apply Kd.R_alloc | apply Kd.R_drewN | apply Kd.R_drew)); exact HO0_0.out) hb); have n1_ := Aside0.mk (blk_below (g := gb134) (o := .cells #[.slice Ao61 l0_0.length co61, .int .i64 a0_1, .int .i64 a0_2, .bool a0_3] 30 (0, 0)) (by (with_reducible repeat (first | refine blk_drewN ?_ _ | refine blk_drew ?_ | refine blk_alloc ?_ _)); exact BK134.out) hb); have n2_ := Aside0.mk (blk_below (g := gb135) (o := .cells #[.slice none 0 0, .int .i64 0, .int .i64 0, .bool false] 30 (0, 0)) (by (with_reducible repeat (first | refine blk_drewN ?_ _ | refine blk_drew ?_ | refine blk_alloc ?_ _)); exact BK135.out) hb); have n3_ := Aside0.mk (Kept.below (S := (fun k_ => P0_0_ k_)) (by repeat (first | (with_reducible first | exact HK.out | apply Kept.alloc | apply Kept.drewN | apply Kept.drew | refine Kept.setCell ?_ (.inr GW134.out) _ | refine Kept.setCell ?_ (.inr GW135.out) _) | exact HK.out)) hb); have n4_ := Aside0.mk (below_step (by repeat (first | (with_reducible first | exact HB.out | apply below_alloc | apply pw_below_drewN | apply below_drew1 | refine below_set ?_ GE134.out | refine below_set ?_ GE135.out) | exact HB.out)) hb); clear HO0_0; clear BK134; clear BK135; clear HK; clear HB; have HO0_0 := n0_; have BK134 := n1_; have BK135 := n2_; have HK := n3_; have HB := n4_; clear n0_ n1_ n2_ n3_ n4_; (try clear hb); (try clear hb2); (try clear hk); (try clear hi); have hcz67_0 : w66.cell? ⟨gb134, 0, none⟩ = some (.slice Ao61 l0_0.length co61) := (blk_cell BK134.out 0).trans rfl; have hcz67_1 : w66.cell? ⟨gb134, 1, none⟩ = some (.int .i64 a0_1) := (blk_cell BK134.out 1).trans rfl; have hcz67_2 : w66.cell? ⟨gb134, 2, none⟩ = some (.int .i64 a0_2) := (blk_cell BK134.out 2).trans rfl; have hcz67_3 : w66.cell? ⟨gb134, 3, none⟩ = some (.bool a0_3) := (blk_cell BK134.out 3).trans rfl; have hfz67_0 := blk_frozen BK134.out 0; have hfz67_1 := blk_frozen BK134.out 1; have hfz67_2 := blk_frozen BK134.out 2; have hfz67_3 := blk_frozen BK134.out 3; have hcz68_0 : w66.cell? ⟨gb135, 0, none⟩ = some (.slice none 0 0) := (blk_cell BK135.out 0).trans rfl; have hcz68_1 : w66.cell? ⟨gb135, 1, none⟩ = some (.int .i64 0) := (blk_cell BK135.out 1).trans rfl; have hcz68_2 : w66.cell? ⟨gb135, 2, none⟩ = some (.int .i64 0) := (blk_cell BK135.out 2).trans rfl; have hcz68_3 : w66.cell? ⟨gb135, 3, none⟩ = some (.bool false) := (blk_cell BK135.out 3).trans rfl; have hfz68_0 := blk_frozen BK135.out 0; have hfz68_1 := blk_frozen BK135.out 1; have hfz68_2 := blk_frozen BK135.out 2; have hfz68_3 := blk_frozen BK135.out 3))
      refine bodyPost_ret (results_ct rfl _ _ gb135 30 #[.slice Ao61 l0_0.length co61, .int .i64 a0_1, .int .i64 a0_2, .bool a0_3] (0, 0) _ rfl (by (with_reducible repeat (first | refine blk_drewN ?_ _ | refine blk_drew ?_ | refine blk_alloc ?_ _)); refine blk_put (cs := #[.slice Ao61 l0_0.length co61, .int .i64 a0_1, .int .i64 a0_2, .bool false]) ?_ 3 _ rfl; (with_reducible repeat (first | refine blk_drewN ?_ _ | refine blk_drew ?_ | refine blk_alloc ?_ _)); refine blk_put (cs := #[.slice Ao61 l0_0.length co61, .int .i64 a0_1, .int .i64 0, .bool false]) ?_ 2 _ rfl; (with_reducible repeat (first | refine blk_drewN ?_ _ | refine blk_drew ?_ | refine blk_alloc ?_ _)); refine blk_put (cs := #[.slice Ao61 l0_0.length co61, .int .i64 0, .int .i64 0, .bool false]) ?_ 1 _ rfl; (with_reducible repeat (first | refine blk_drewN ?_ _ | refine blk_drew ?_ | refine blk_alloc ?_ _)); refine blk_put (cs := #[.slice none 0 0, .int .i64 0, .int .i64 0, .bool false]) ?_ 0 _ rfl; (with_reducible repeat (first | refine blk_drewN ?_ _ | refine blk_drew ?_ | refine blk_alloc ?_ _)); exact BK135.out) Try.underlying30 rfl (by kernel_rfl)) rfl ?_
      exact ⟨_, by first | rfl | (simp [errW_none, errW_some] <;> rfl) | (simp [*, errW_none, errW_some] <;> rfl), by (with_reducible repeat (first | apply Kd.R_alloc | apply Kd.R_drewN | apply Kd.R_drew)); exact Kd.R_mono (Kd.R_far (p := ⟨gb135, 3, none⟩) (Kd.R_far (p := ⟨gb135, 2, none⟩) (Kd.R_far (p := ⟨gb135, 1, none⟩) (Kd.R_far (p := ⟨gb135, 0, none⟩) (Kd.R_types HO0_0.out BK135.out (by decide)) (fun _ hk => hk.2) (.slice Ao61 l0_0.length co61)) (fun _ hk => hk.2) (.int .i64 a0_1)) (fun _ hk => hk.2) (.int .i64 a0_2)) (fun _ hk => hk.2) (.bool a0_3)) (fun _ hk => hk.1), by repeat (first | (with_reducible first | exact HB.out | apply below_alloc | apply pw_below_drewN | apply below_drew1 | refine below_set ?_ GE134.out | refine below_set ?_ GE135.out) | exact HB.out), by repeat (first | (with_reducible first | exact HK.out | apply Kept.alloc | apply Kept.drewN | apply Kept.drew | refine Kept.setCell ?_ (.inr GW134.out) _ | refine Kept.setCell ?_ (.inr GW135.out) _) | exact HK.out)⟩
  · rw [if_neg c5] at H
    have c5b0 : (t137 == 0) = false := beq_eq_false_iff_ne.mpr c5
    have c5b1 : (t137 != 0) = true := bne_iff_ne.mpr c5
    simp only [Option.some.injEq, Prod.mk.injEq] at H
    obtain ⟨rfl, rfl, rfl, rfl, rfl⟩ := H
    obtain ⟨Ao69, co69, eo69⟩ := Kd.R_slice HO0_0.out
    subst eo69
    go_enter Try.func18, Try.ntmps18
    go_wp2_with (first | ((with_reducible refine gate_dst (N := 3) rfl ?_); refine box_event ?hg (N := 3) ?hd (cs := #[.slice Ao69 l0_0.length co69, .int .i64 a0_1, .int .i64 a0_2, .bool a0_3]) (t := 30) ?hr ?_; (case hd => rfl); (case hg => rfl); (case hr => first | (go_simp; done) | (go_simp; rfl)); intro gb134 hg w70 hbox hb; have n0_ := Aside0.mk (Kd.R_below (by (with_reducible repeat (first | apply Kd.R_alloc | apply Kd.R_drewN | apply Kd.R_drew)); exact HO0_0.out) hb); have n1_ := Aside0.mk (Kept.below (S := (fun k_ => P0_0_ k_)) (by repeat (first | (with_reducible first | exact HK.out | apply Kept.alloc | apply Kept.drewN | apply Kept.drew) | exact HK.out)) hb); have n2_ := Aside0.mk (below_step (by repeat (first | (with_reducible first | exact HB.out | apply below_alloc | apply pw_below_drewN | apply below_drew1) | exact HB.out)) hb); have n3_ := Aside0.mk (hbox); have n4_ := Aside0.mk ((by rw [hg]; exact (by first | exact HK.out.1 | exact (show Kept w _ (fun k_ => P0_0_ k_) from by repeat (first | (with_reducible first | exact HK.out | apply Kept.alloc | apply Kept.drewN | apply Kept.drew) | exact HK.out)).1) : w.heap.size ≤ gb134)); have n5_ := Aside0.mk ((by rw [hg]; exact (below_size (by repeat (first | (with_reducible first | exact HB.out | apply below_alloc | apply pw_below_drewN | apply below_drew1) | exact HB.out))) : w0.heap.size ≤ gb134)); clear HO0_0; clear HK; clear HB; have HO0_0 := n0_; have HK := n1_; have HB := n2_; have BK134 := n3_; have GW134 := n4_; have GE134 := n5_; clear n0_ n1_ n2_ n3_ n4_ n5_; clear hb hbox hg) | ((with_reducible refine gate_dst (N := 6) rfl ?_); refine box_event ?hg (N := 6) ?hd (cs := #[.slice none 0 0, .int .i64 0, .int .i64 0, .bool false]) (t := 30) ?hr ?_; (case hd => rfl); (case hg => rfl); (case hr => first | (go_simp; done) | (go_simp; rfl)); intro gb135 hg w71 hbox hb; have n0_ := Aside0.mk (Kd.R_below (by (with_reducible repeat (first | apply Kd.R_alloc | apply Kd.R_drewN | apply Kd.R_drew)); exact HO0_0.out) hb); have n1_ := Aside0.mk (blk_below (g := gb134) (o := .cells #[.slice Ao69 l0_0.length co69, .int .i64 a0_1, .int .i64 a0_2, .bool a0_3] 30 (0, 0)) (by (with_reducible repeat (first | refine blk_drewN ?_ _ | refine blk_drew ?_ | refine blk_alloc ?_ _)); exact BK134.out) hb); have n2_ := Aside0.mk (Kept.below (S := (fun k_ => P0_0_ k_)) (by repeat (first | (with_reducible first | exact HK.out | apply Kept.alloc | apply Kept.drewN | apply Kept.drew | refine Kept.setCell ?_ (.inr GW134.out) _) | exact HK.out)) hb); have n3_ := Aside0.mk (below_step (by repeat (first | (with_reducible first | exact HB.out | apply below_alloc | apply pw_below_drewN | apply below_drew1 | refine below_set ?_ GE134.out) | exact HB.out)) hb); have n4_ := Aside0.mk (hbox); have n5_ := Aside0.mk ((by rw [hg]; exact (by first | exact HK.out.1 | exact (show Kept w _ (fun k_ => P0_0_ k_) from by repeat (first | (with_reducible first | exact HK.out | apply Kept.alloc | apply Kept.drewN | apply Kept.drew | refine Kept.setCell ?_ (.inr GW134.out) _) | exact HK.out)).1) : w.heap.size ≤ gb135)); have n6_ := Aside0.mk ((by rw [hg]; exact (below_size (by repeat (first | (with_reducible first | exact HB.out | apply below_alloc | apply pw_below_drewN | apply below_drew1 | refine below_set ?_ GE134.out) | exact HB.out))) : w0.heap.size ≤ gb135)); have n7_ := Aside0.mk ((by rw [hg]; exact Nat.ne_of_lt (blk_lt (g := gb134) (o := .cells #[.slice Ao69 l0_0.length co69, .int .i64 a0_1, .int .i64 a0_2, .bool a0_3] 30 (0, 0)) (by (with_reducible repeat (first | refine blk_drewN ?_ _ | refine blk_drew ?_ | refine blk_alloc ?_ _)); exact BK134.out)) : gb134 ≠ gb135)); have n8_ := Aside0.mk ((by rw [hg]; exact Nat.ne_of_gt (blk_lt (g := gb134) (o := .cells #[.slice Ao69 l0_0.length co69, .int .i64 a0_1, .int .i64 a0_2, .bool a0_3] 30 (0, 0)) (by (with_reducible repeat (first | refine blk_drewN ?_ _ | refine blk_drew ?_ | refine blk_alloc ?_ _)); exact BK134.out)) : gb135 ≠ gb134)); clear HO0_0; clear BK134; clear HK; clear HB; have HO0_0 := n0_; have BK134 := n1_; have HK := n2_; have HB := n3_; have BK135 := n4_; have GW135 := n5_; have GE135 := n6_; have NB134_135 := n7_; have NB135_134 := n8_; clear n0_ n1_ n2_ n3_ n4_ n5_ n6_ n7_ n8_; clear hb hbox hg; have hnb72 := NB134_135.out; have hnc72 := NB135_134.out; have hcz73_0 : w71.cell? ⟨gb134, 0, none⟩ = some (.slice Ao69 l0_0.length co69) := (blk_cell BK134.out 0).trans rfl; have hcz73_1 : w71.cell? ⟨gb134, 1, none⟩ = some (.int .i64 a0_1) := (blk_cell BK134.out 1).trans rfl; have hcz73_2 : w71.cell? ⟨gb134, 2, none⟩ = some (.int .i64 a0_2) := (blk_cell BK134.out 2).trans rfl; have hcz73_3 : w71.cell? ⟨gb134, 3, none⟩ = some (.bool a0_3) := (blk_cell BK134.out 3).trans rfl; have hfz73_0 := blk_frozen BK134.out 0; have hfz73_1 := blk_frozen BK134.out 1; have hfz73_2 := blk_frozen BK134.out 2; have hfz73_3 := blk_frozen BK134.out 3) | ((with_reducible refine gate_callee (f := 22) rfl ?_); refine goesL_ (some 14) rfl rfl Try.func22 (by kernel_rfl) rfl #[.agg #[.slice Ao69 l0_0.length co69, .int .i64 a0_1, .int .i64 a0_2, .bool a0_3], .int .i64 a1] rfl (by (try simp only [List.map_toArray, List.map_cons, List.map_nil]); first | done | rfl | (simp only [List.length_drop, List.length_take]; rfl)) ?_; (with_reducible refine (baileeref08_Read.calls _ _ l0_0 a0_1 a0_2 a0_3 a1 t136 t137 _ ?side1 ?side2 A4.out).mono ?_); (case side1 => repeat (first | exact (Kd.R_reads' HO0_0.out).2.2 | (with_reducible refine Kd.C_alloc ?_ _) | (with_reducible refine Kd.C_drewN ?_ _) | (with_reducible refine Kd.C_drew ?_))); (case side2 => exact (Kd.R_reads' HO0_0.out).2.1); rintro e w74 ⟨rfl, hb⟩; refine ⟨_, rfl, ?_⟩; have n0_ := Aside0.mk (Kd.R_below (by (with_reducible repeat (first | apply Kd.R_alloc | apply Kd.R_drewN | apply Kd.R_drew)); exact HO0_0.out) hb); have n1_ := Aside0.mk (blk_below (g := gb134) (o := .cells #[.slice Ao69 l0_0.length co69, .int .i64 a0_1, .int .i64 a0_2, .bool a0_3] 30 (0, 0)) (by (with_reducible repeat (first | refine blk_drewN ?_ _ | refine blk_drew ?_ | refine blk_alloc ?_ _)); exact BK134.out) hb); have n2_ := Aside0.mk (blk_below (g := gb135) (o := .cells #[.slice none 0 0, .int .i64 0, .int .i64 0, .bool false] 30 (0, 0)) (by (with_reducible repeat (first | refine blk_drewN ?_ _ | refine blk_drew ?_ | refine blk_alloc ?_ _)); exact BK135.out) hb); have n3_ := Aside0.mk (Kept.below (S := (fun k_ => P0_0_ k_)) (by repeat (first | (with_reducible first | exact HK.out | apply Kept.alloc | apply Kept.drewN | apply Kept.drew | refine Kept.setCell ?_ (.inr GW134.out) _ | refine Kept.setCell ?_ (.inr GW135.out) _) | exact HK.out)) hb); have n4_ := Aside0.mk (below_step (by repeat (first | (with_reducible first | exact HB.out | apply below_alloc | apply pw_below_drewN | apply below_drew1 | refine below_set ?_ GE134.out | refine below_set ?_ GE135.out) | exact HB.out)) hb); clear HO0_0; clear BK134; clear BK135; clear HK; clear HB; have HO0_0 := n0_; have BK134 := n1_; have BK135 := n2_; have HK := n3_; have HB := n4_; clear n0_ n1_ n2_ n3_ n4_; (try clear hb); (try clear hb2); (try clear hk); (try clear hi); have hcz75_0 : w74.cell? ⟨gb134, 0, none⟩ = some (.slice Ao69 l0_0.length co69) := (blk_cell BK134.out 0).trans rfl; have hcz75_1 : w74.cell? ⟨gb134, 1, none⟩ = some (.int .i64 a0_1) := (blk_cell BK134.out 1).trans rfl; have hcz75_2 : w74.cell? ⟨gb134, 2, none⟩ = some (.int .i64 a0_2) := (blk_cell BK134.out 2).trans rfl; have hcz75_3 : w74.cell? ⟨gb134, 3, none⟩ = some (.bool a0_3) := (blk_cell BK134.out 3).trans rfl; have hfz75_0 := blk_frozen BK134.out 0; have hfz75_1 := blk_frozen BK134.out 1; have hfz75_2 := blk_frozen BK134.out 2; have hfz75_3 := blk_frozen BK134.out 3; have hcz76_0 : w74.cell? ⟨gb135, 0, none⟩ = some (.slice none 0 0) := (blk_cell BK135.out 0).trans rfl; have hcz76_1 : w74.cell? ⟨gb135, 1, none⟩ = some (.int .i64 0) := (blk_cell BK135.out 1).trans rfl; have hcz76_2 : w74.cell? ⟨gb135, 2, none⟩ = some (.int .i64 0) := (blk_cell BK135.out 2).trans rfl; have hcz76_3 : w74.cell? ⟨gb135, 3, none⟩ = some (.bool false) := (blk_cell BK135.out 3).trans rfl; have hfz76_0 := blk_frozen BK135.out 0; have hfz76_1 := blk_frozen BK135.out 1; have hfz76_2 := blk_frozen BK135.out 2; have hfz76_3 := blk_frozen BK135.out 3))
    refine bodyPost_ret (results_ct rfl _ _ gb135 30 #[.slice Ao69 l0_0.length co69, .int .i64 a0_1, .int .i64 a0_2, .bool a0_3] (0, 0) _ rfl (by (with_reducible repeat (first | refine blk_drewN ?_ _ | refine blk_drew ?_ | refine blk_alloc ?_ _)); refine blk_put (cs := #[.slice Ao69 l0_0.length co69, .int .i64 a0_1, .int .i64 a0_2, .bool false]) ?_ 3 _ rfl; (with_reducible repeat (first | refine blk_drewN ?_ _ | refine blk_drew ?_ | refine blk_alloc ?_ _)); refine blk_put (cs := #[.slice Ao69 l0_0.length co69, .int .i64 a0_1, .int .i64 0, .bool false]) ?_ 2 _ rfl; (with_reducible repeat (first | refine blk_drewN ?_ _ | refine blk_drew ?_ | refine blk_alloc ?_ _)); refine blk_put (cs := #[.slice Ao69 l0_0.length co69, .int .i64 0, .int .i64 0, .bool false]) ?_ 1 _ rfl; (with_reducible repeat (first | refine blk_drewN ?_ _ | refine blk_drew ?_ | refine blk_alloc ?_ _)); refine blk_put (cs := #[.slice none 0 0, .int .i64 0, .int .i64 0, .bool false]) ?_ 0 _ rfl; (with_reducible repeat (first | refine blk_drewN ?_ _ | refine blk_drew ?_ | refine blk_alloc ?_ _)); exact BK135.out) Try.underlying30 rfl (by kernel_rfl)) rfl ?_
    exact ⟨_, by first | rfl | (simp [errW_none, errW_some] <;> rfl) | (simp [*, errW_none, errW_some] <;> rfl), by (with_reducible repeat (first | apply Kd.R_alloc | apply Kd.R_drewN | apply Kd.R_drew)); exact Kd.R_mono (Kd.R_far (p := ⟨gb135, 3, none⟩) (Kd.R_far (p := ⟨gb135, 2, none⟩) (Kd.R_far (p := ⟨gb135, 1, none⟩) (Kd.R_far (p := ⟨gb135, 0, none⟩) (Kd.R_types HO0_0.out BK135.out (by decide)) (fun _ hk => hk.2) (.slice Ao69 l0_0.length co69)) (fun _ hk => hk.2) (.int .i64 a0_1)) (fun _ hk => hk.2) (.int .i64 a0_2)) (fun _ hk => hk.2) (.bool a0_3)) (fun _ hk => hk.1), by repeat (first | (with_reducible first | exact HB.out | apply below_alloc | apply pw_below_drewN | apply below_drew1 | refine below_set ?_ GE134.out | refine below_set ?_ GE135.out) | exact HB.out), by repeat (first | (with_reducible first | exact HK.out | apply Kept.alloc | apply Kept.drewN | apply Kept.drew | refine Kept.setCell ?_ (.inr GW134.out) _ | refine Kept.setCell ?_ (.inr GW135.out) _) | exact HK.out)⟩

/-! ### baileeref08_Stop: function 20 -/
def baileeref08_Stop.j0 : Nat → Int → List ByteArray → Int → Int → Bool → Option (List ByteArray × Int × Int × Bool)
  | 0, _, _, _, _, _ => none
  | k + 1, x2, x144000, x144001, x144002, x144003 => if x2 < 0 then (if x2 > 128 then (some (x144000, x144001, 128, x144003)) else (some (x144000, x144001, 0, x144003))) else (if x2 > 128 then (some (x144000, x144001, 128, x144003)) else (some (x144000, x144001, x2, x144003)))
def baileeref08_Stop.f (k : Nat) (l0_0 : List ByteArray) (a0_1 : Int) (a0_2 : Int) (a0_3 : Bool) (a1 : Int) (a2 : Int) : Option (List ByteArray × Int × Int × Bool) := if a1 < 0 then (baileeref08_Stop.j0 k a2 l0_0 (-1) a0_2 a0_3) else (baileeref08_Stop.j0 k a2 l0_0 a1 a0_2 a0_3)
theorem baileeref08_Stop.mono_l : ∀ k, (∀ y0 y1 y2 y3 y4, LeO (baileeref08_Stop.j0 k y0 y1 y2 y3 y4) (baileeref08_Stop.j0 (k + 1) y0 y1 y2 y3 y4))
  | 0 => fun _ _ _ _ _ r h => by simp [baileeref08_Stop.j0] at h
  | k + 1 => by
    have ih0 := baileeref08_Stop.mono_l k
    · intro y0 y1 y2 y3 y4
      unfold baileeref08_Stop.j0
      repeat' first
      | (with_reducible exact ih0 _ _ _ _ _)
      | (with_reducible exact LeO.refl _)
      | (with_reducible exact LeO.none _)
      | (with_reducible refine LeO.ite ?_ ?_)
      | (with_reducible refine LeO.bind ?_ (fun _ => ?_))
      | exact ih0 _ _ _ _ _
      | exact LeO.none _
      | refine LeO.ite ?_ ?_
      | refine LeO.bind ?_ (fun _ => ?_)
theorem baileeref08_Stop.mono : ∀ a0 a1 a2 a3 a4 a5 k, LeO (baileeref08_Stop.f k a0 a1 a2 a3 a4 a5) (baileeref08_Stop.f (k + 1) a0 a1 a2 a3 a4 a5) := by
  intro a0 a1 a2 a3 a4 a5 k
  have ih0 := baileeref08_Stop.mono_l k
  unfold baileeref08_Stop.f
  repeat' first
      | (with_reducible exact ih0 _ _ _ _ _)
      | (with_reducible exact LeO.refl _)
      | (with_reducible exact LeO.none _)
      | (with_reducible refine LeO.ite ?_ ?_)
      | (with_reducible refine LeO.bind ?_ (fun _ => ?_))
      | exact ih0 _ _ _ _ _
      | exact LeO.none _
      | refine LeO.ite ?_ ?_
      | refine LeO.bind ?_ (fun _ => ?_)
set_option maxHeartbeats 8000000 in
set_option maxRecDepth 100000 in
theorem baileeref08_Stop.calls (k : Nat) (P0_0_ : Nat → Prop) (u9000_ : Value) (l0_0 : List ByteArray) (a0_1 : Int) (a0_2 : Int) (a0_3 : Bool) (a1 : Int) (a2 : Int) (r1 : List ByteArray) (r2 : Int) (r3 : Int) (r4 : Bool) (w0 w : World) (hB : Below w0.heap.size w0 w) (ho0_0 : Kd.R Kd.string 9 w w0.heap.size P0_0_ u9000_ l0_0) (h : baileeref08_Stop.f k l0_0 a0_1 a0_2 a0_3 a1 a2 = some (r1, r2, r3, r4)) :
    Calls Try.prog 20 #[.agg #[u9000_, .int .i64 a0_1, .int .i64 a0_2, .bool a0_3], .int .i64 a1, .int .i64 a2] w fun e w' => ∃ v0_ : Value, e = .returned (.agg #[v0_, .int .i64 r2, .int .i64 r3, .bool r4]) ∧ Kd.R Kd.string 9 w' w0.heap.size (fun k_ => (P0_0_ k_ ∨ w.heap.size ≤ k_)) v0_ r1 ∧ Below w0.heap.size w0 w' ∧ Kept w w' (fun k_ => P0_0_ k_) := by
  have hu30 := Try.underlying30
  have HO0_0 := Aside0.mk (show Kd.R Kd.string 9 w w0.heap.size (fun k_ => (P0_0_ k_ ∨ w.heap.size ≤ k_)) u9000_ l0_0 from Kd.R_mono ho0_0 (fun k_ hk => (.inl hk)))
  have HK := Aside0.mk (Kept.refl w (fun k_ => P0_0_ k_))
  have HW0 := Aside0.mk hB.size
  have HB := Aside0.mk hB
  clear hB
  have H : (if a1 < 0 then (baileeref08_Stop.j0 k a2 l0_0 (-1) a0_2 a0_3) else (baileeref08_Stop.j0 k a2 l0_0 a1 a0_2 a0_3)) = some (r1, r2, r3, r4) := h
  clear h
  have HC4 := Aside0.mk H
  clear H
  obtain ⟨Ao5, co5, eo5⟩ := Kd.R_slice HO0_0.out
  subst eo5
  go_enter Try.func20, Try.ntmps20
  go_upto_if 10 with (first | ((with_reducible refine gate_dst (N := 3) rfl ?_); refine box_event ?hg (N := 3) ?hd (cs := #[.slice Ao5 l0_0.length co5, .int .i64 a0_1, .int .i64 a0_2, .bool a0_3]) (t := 30) ?hr ?_; (case hd => rfl); (case hg => rfl); (case hr => first | (go_simp; done) | (go_simp; rfl)); intro gb143 hg w6 hbox hb; have n0_ := Aside0.mk (Kd.R_below (by (with_reducible repeat (first | apply Kd.R_alloc | apply Kd.R_drewN | apply Kd.R_drew)); exact HO0_0.out) hb); have n1_ := Aside0.mk (Kept.below (S := (fun k_ => P0_0_ k_)) (by repeat (first | (with_reducible first | exact HK.out | apply Kept.alloc | apply Kept.drewN | apply Kept.drew) | exact HK.out)) hb); have n2_ := Aside0.mk (below_step (by repeat (first | (with_reducible first | exact HB.out | apply below_alloc | apply pw_below_drewN | apply below_drew1) | exact HB.out)) hb); have n3_ := Aside0.mk (hbox); have n4_ := Aside0.mk ((by rw [hg]; exact (by first | exact HK.out.1 | exact (show Kept w _ (fun k_ => P0_0_ k_) from by repeat (first | (with_reducible first | exact HK.out | apply Kept.alloc | apply Kept.drewN | apply Kept.drew) | exact HK.out)).1) : w.heap.size ≤ gb143)); have n5_ := Aside0.mk ((by rw [hg]; exact (below_size (by repeat (first | (with_reducible first | exact HB.out | apply below_alloc | apply pw_below_drewN | apply below_drew1) | exact HB.out))) : w0.heap.size ≤ gb143)); clear HO0_0; clear HK; clear HB; have HO0_0 := n0_; have HK := n1_; have HB := n2_; have BK143 := n3_; have GW143 := n4_; have GE143 := n5_; clear n0_ n1_ n2_ n3_ n4_ n5_; clear hb hbox hg) | ((with_reducible refine gate_dst (N := 6) rfl ?_); refine box_event ?hg (N := 6) ?hd (cs := #[.slice none 0 0, .int .i64 0, .int .i64 0, .bool false]) (t := 30) ?hr ?_; (case hd => rfl); (case hg => rfl); (case hr => first | (go_simp; done) | (go_simp; rfl)); intro gb144 hg w7 hbox hb; have n0_ := Aside0.mk (Kd.R_below (by (with_reducible repeat (first | apply Kd.R_alloc | apply Kd.R_drewN | apply Kd.R_drew)); exact HO0_0.out) hb); have n1_ := Aside0.mk (blk_below (g := gb143) (o := .cells #[.slice Ao5 l0_0.length co5, .int .i64 a0_1, .int .i64 a0_2, .bool a0_3] 30 (0, 0)) (by (with_reducible repeat (first | refine blk_drewN ?_ _ | refine blk_drew ?_ | refine blk_alloc ?_ _)); exact BK143.out) hb); have n2_ := Aside0.mk (Kept.below (S := (fun k_ => P0_0_ k_)) (by repeat (first | (with_reducible first | exact HK.out | apply Kept.alloc | apply Kept.drewN | apply Kept.drew | refine Kept.setCell ?_ (.inr GW143.out) _) | exact HK.out)) hb); have n3_ := Aside0.mk (below_step (by repeat (first | (with_reducible first | exact HB.out | apply below_alloc | apply pw_below_drewN | apply below_drew1 | refine below_set ?_ GE143.out) | exact HB.out)) hb); have n4_ := Aside0.mk (hbox); have n5_ := Aside0.mk ((by rw [hg]; exact (by first | exact HK.out.1 | exact (show Kept w _ (fun k_ => P0_0_ k_) from by repeat (first | (with_reducible first | exact HK.out | apply Kept.alloc | apply Kept.drewN | apply Kept.drew | refine Kept.setCell ?_ (.inr GW143.out) _) | exact HK.out)).1) : w.heap.size ≤ gb144)); have n6_ := Aside0.mk ((by rw [hg]; exact (below_size (by repeat (first | (with_reducible first | exact HB.out | apply below_alloc | apply pw_below_drewN | apply below_drew1 | refine below_set ?_ GE143.out) | exact HB.out))) : w0.heap.size ≤ gb144)); have n7_ := Aside0.mk ((by rw [hg]; exact Nat.ne_of_lt (blk_lt (g := gb143) (o := .cells #[.slice Ao5 l0_0.length co5, .int .i64 a0_1, .int .i64 a0_2, .bool a0_3] 30 (0, 0)) (by (with_reducible repeat (first | refine blk_drewN ?_ _ | refine blk_drew ?_ | refine blk_alloc ?_ _)); exact BK143.out)) : gb143 ≠ gb144)); have n8_ := Aside0.mk ((by rw [hg]; exact Nat.ne_of_gt (blk_lt (g := gb143) (o := .cells #[.slice Ao5 l0_0.length co5, .int .i64 a0_1, .int .i64 a0_2, .bool a0_3] 30 (0, 0)) (by (with_reducible repeat (first | refine blk_drewN ?_ _ | refine blk_drew ?_ | refine blk_alloc ?_ _)); exact BK143.out)) : gb144 ≠ gb143)); clear HO0_0; clear BK143; clear HK; clear HB; have HO0_0 := n0_; have BK143 := n1_; have HK := n2_; have HB := n3_; have BK144 := n4_; have GW144 := n5_; have GE144 := n6_; have NB143_144 := n7_; have NB144_143 := n8_; clear n0_ n1_ n2_ n3_ n4_ n5_ n6_ n7_ n8_; clear hb hbox hg; have hnb8 := NB143_144.out; have hnc8 := NB144_143.out; have hcz9_0 : w7.cell? ⟨gb143, 0, none⟩ = some (.slice Ao5 l0_0.length co5) := (blk_cell BK143.out 0).trans rfl; have hcz9_1 : w7.cell? ⟨gb143, 1, none⟩ = some (.int .i64 a0_1) := (blk_cell BK143.out 1).trans rfl; have hcz9_2 : w7.cell? ⟨gb143, 2, none⟩ = some (.int .i64 a0_2) := (blk_cell BK143.out 2).trans rfl; have hcz9_3 : w7.cell? ⟨gb143, 3, none⟩ = some (.bool a0_3) := (blk_cell BK143.out 3).trans rfl; have hfz9_0 := blk_frozen BK143.out 0; have hfz9_1 := blk_frozen BK143.out 1; have hfz9_2 := blk_frozen BK143.out 2; have hfz9_3 := blk_frozen BK143.out 3))
  (try simp only [Act.put, List.setIfInBounds_toArray, List.set_cons_zero, List.set_cons_succ])
  go_cut [] (fun wc => ∃ (kq : Nat) (x144001_3 : Int), Aside0 (baileeref08_Stop.j0 kq a2 l0_0 x144001_3 a0_2 a0_3 = some (r1, r2, r3, r4)) ∧ Aside0 (kq ≤ k) ∧ Aside0 (Kd.R Kd.string 9 wc w0.heap.size (fun k_ => (P0_0_ k_ ∨ w.heap.size ≤ k_)) (.slice Ao5 l0_0.length co5) l0_0) ∧ Aside0 (wc.heap[gb143]? = some (.cells #[(.slice Ao5 l0_0.length co5), .int .i64 x144001_3, .int .i64 a0_2, .bool a0_3] 30 (0, 0))) ∧ Aside0 (wc.heap[gb144]? = some (.cells #[(.slice none 0 0), .int .i64 0, .int .i64 0, .bool false] 30 (0, 0))) ∧ Aside0 (Kept w wc (fun k_ => P0_0_ k_)) ∧ Aside0 (Below w0.heap.size w0 wc))
  case first =>
    have H := HC4.out
    clear HC4
    by_cases c10 : a1 < 0
    · rw [if_pos c10] at H
      have c10b0 : decide (a1 < 0) = true := decide_eq_true c10
      clear c10
      (first | rw [c10b0] | (simp only [i64_w, i32_w]; rw [c10b0]) | skip)
      have H' := Aside0.mk H
      clear H
      have hnb11 := NB143_144.out
      have hnc11 := NB144_143.out
      have hcz12_0 : w7.cell? ⟨gb143, 0, none⟩ = some (.slice Ao5 l0_0.length co5) := (blk_cell BK143.out 0).trans rfl
      have hcz12_1 : w7.cell? ⟨gb143, 1, none⟩ = some (.int .i64 a0_1) := (blk_cell BK143.out 1).trans rfl
      have hcz12_2 : w7.cell? ⟨gb143, 2, none⟩ = some (.int .i64 a0_2) := (blk_cell BK143.out 2).trans rfl
      have hcz12_3 : w7.cell? ⟨gb143, 3, none⟩ = some (.bool a0_3) := (blk_cell BK143.out 3).trans rfl
      have hfz12_0 := blk_frozen BK143.out 0
      have hfz12_1 := blk_frozen BK143.out 1
      have hfz12_2 := blk_frozen BK143.out 2
      have hfz12_3 := blk_frozen BK143.out 3
      go_wp2
      go_meet
      case rel => exact ⟨_, ((-1)), H', ⟨by first | omega | exact Nat.le_refl _⟩, ⟨by (with_reducible repeat (first | apply Kd.R_alloc | apply Kd.R_drewN | apply Kd.R_drew)); exact Kd.R_mono (Kd.R_far (p := ⟨gb143, 1, none⟩) (Kd.R_far (p := ⟨gb143, 1, none⟩) (Kd.R_types HO0_0.out BK143.out (by decide)) (fun _ hk => hk.2) (.int .i64 a1)) (fun _ hk => hk.2) (.int .i64 (-1))) (fun _ hk => hk.1)⟩, ⟨by (with_reducible repeat (first | refine blk_drewN ?_ _ | refine blk_drew ?_ | refine blk_alloc ?_ _)); refine blk_put (cs := #[.slice Ao5 l0_0.length co5, .int .i64 a1, .int .i64 a0_2, .bool a0_3]) ?_ 1 _ rfl; (with_reducible repeat (first | refine blk_drewN ?_ _ | refine blk_drew ?_ | refine blk_alloc ?_ _)); refine blk_put (cs := #[.slice Ao5 l0_0.length co5, .int .i64 a0_1, .int .i64 a0_2, .bool a0_3]) ?_ 1 _ rfl; (with_reducible repeat (first | refine blk_drewN ?_ _ | refine blk_drew ?_ | refine blk_alloc ?_ _)); exact BK143.out⟩, ⟨by (with_reducible repeat (first | refine blk_drewN ?_ _ | refine blk_drew ?_ | refine blk_alloc ?_ _)); refine blk_far ?_ NB144_143.out _; (with_reducible repeat (first | refine blk_drewN ?_ _ | refine blk_drew ?_ | refine blk_alloc ?_ _)); refine blk_far ?_ NB144_143.out _; (with_reducible repeat (first | refine blk_drewN ?_ _ | refine blk_drew ?_ | refine blk_alloc ?_ _)); exact BK144.out⟩, ⟨by repeat (first | (with_reducible first | exact HK.out | apply Kept.alloc | apply Kept.drewN | apply Kept.drew | refine Kept.setCell ?_ (.inr GW143.out) _ | refine Kept.setCell ?_ (.inr GW144.out) _) | exact HK.out)⟩, ⟨by repeat (first | (with_reducible first | exact HB.out | apply below_alloc | apply pw_below_drewN | apply below_drew1 | refine below_set ?_ GE143.out | refine below_set ?_ GE144.out) | exact HB.out)⟩⟩
    · rw [if_neg c10] at H
      have c10b0 : decide (a1 < 0) = false := decide_eq_false c10
      clear c10
      (first | rw [c10b0] | (simp only [i64_w, i32_w]; rw [c10b0]) | skip)
      have H' := Aside0.mk H
      clear H
      go_wp2
      go_meet
      case rel => exact ⟨_, (a1), H', ⟨by first | omega | exact Nat.le_refl _⟩, ⟨by (with_reducible repeat (first | apply Kd.R_alloc | apply Kd.R_drewN | apply Kd.R_drew)); exact Kd.R_mono (Kd.R_far (p := ⟨gb143, 1, none⟩) (Kd.R_types HO0_0.out BK143.out (by decide)) (fun _ hk => hk.2) (.int .i64 a1)) (fun _ hk => hk.1)⟩, ⟨by (with_reducible repeat (first | refine blk_drewN ?_ _ | refine blk_drew ?_ | refine blk_alloc ?_ _)); refine blk_put (cs := #[.slice Ao5 l0_0.length co5, .int .i64 a0_1, .int .i64 a0_2, .bool a0_3]) ?_ 1 _ rfl; (with_reducible repeat (first | refine blk_drewN ?_ _ | refine blk_drew ?_ | refine blk_alloc ?_ _)); exact BK143.out⟩, ⟨by (with_reducible repeat (first | refine blk_drewN ?_ _ | refine blk_drew ?_ | refine blk_alloc ?_ _)); refine blk_far ?_ NB144_143.out _; (with_reducible repeat (first | refine blk_drewN ?_ _ | refine blk_drew ?_ | refine blk_alloc ?_ _)); exact BK144.out⟩, ⟨by repeat (first | (with_reducible first | exact HK.out | apply Kept.alloc | apply Kept.drewN | apply Kept.drew | refine Kept.setCell ?_ (.inr GW143.out) _ | refine Kept.setCell ?_ (.inr GW144.out) _) | exact HK.out)⟩, ⟨by repeat (first | (with_reducible first | exact HB.out | apply below_alloc | apply pw_below_drewN | apply below_drew1 | refine below_set ?_ GE143.out | refine below_set ?_ GE144.out) | exact HB.out)⟩⟩
  case rest =>
    clear HC4
    try clear c1
    try clear c2
    try clear p2
    try clear c8
    try clear c10
    try clear c10b0
    try clear c11
    try clear hcz12_0
    try clear hcz12_1
    try clear hcz12_2
    try clear hcz12_3
    try clear hcz9_0
    try clear hcz9_1
    try clear hcz9_2
    try clear hcz9_3
    try clear hfz12_0
    try clear hfz12_1
    try clear hfz12_2
    try clear hfz12_3
    try clear hfz9_0
    try clear hfz9_1
    try clear hfz9_2
    try clear hfz9_3
    obtain ⟨kq, x144001_3, HA, HJ3, HO_144000, BK143, BK144, HK, HB⟩ := hcut
    cases kq with
    | zero => exact absurd HA.out (by simp [baileeref08_Stop.j0])
    | succ kj3 =>
      have H := HA.out
      clear HA
      simp only [baileeref08_Stop.j0] at H
      by_cases c13 : a2 < 0
      · rw [if_pos c13] at H
        have c13b0 : decide (a2 < 0) = true := decide_eq_true c13
        clear c13
        by_cases c14 : a2 > 128
        · exact absurd c14 (by have h1 := of_decide_eq_true c13b0; omega)
        · rw [if_neg c14] at H
          have c14b0 : decide (128 < a2) = false := decide_eq_false c14
          clear c14
          simp only [Option.some.injEq, Prod.mk.injEq] at H
          obtain ⟨rfl, rfl, rfl, rfl⟩ := H
          have hnb18 := NB143_144.out
          have hnc18 := NB144_143.out
          have hcz19_0 : wc.cell? ⟨gb143, 0, none⟩ = some (.slice Ao5 l0_0.length co5) := (blk_cell BK143.out 0).trans rfl
          have hcz19_1 : wc.cell? ⟨gb143, 1, none⟩ = some (.int .i64 x144001_3) := (blk_cell BK143.out 1).trans rfl
          have hcz19_2 : wc.cell? ⟨gb143, 2, none⟩ = some (.int .i64 a0_2) := (blk_cell BK143.out 2).trans rfl
          have hcz19_3 : wc.cell? ⟨gb143, 3, none⟩ = some (.bool a0_3) := (blk_cell BK143.out 3).trans rfl
          have hfz19_0 := blk_frozen BK143.out 0
          have hfz19_1 := blk_frozen BK143.out 1
          have hfz19_2 := blk_frozen BK143.out 2
          have hfz19_3 := blk_frozen BK143.out 3
          have hcz20_0 : wc.cell? ⟨gb144, 0, none⟩ = some (.slice none 0 0) := (blk_cell BK144.out 0).trans rfl
          have hcz20_1 : wc.cell? ⟨gb144, 1, none⟩ = some (.int .i64 0) := (blk_cell BK144.out 1).trans rfl
          have hcz20_2 : wc.cell? ⟨gb144, 2, none⟩ = some (.int .i64 0) := (blk_cell BK144.out 2).trans rfl
          have hcz20_3 : wc.cell? ⟨gb144, 3, none⟩ = some (.bool false) := (blk_cell BK144.out 3).trans rfl
          have hfz20_0 := blk_frozen BK144.out 0
          have hfz20_1 := blk_frozen BK144.out 1
          have hfz20_2 := blk_frozen BK144.out 2
          have hfz20_3 := blk_frozen BK144.out 3
          go_wp2
          refine bodyPost_ret (results_cell_row rfl _ _ gb144 30 #[.slice Ao5 l0_0.length co5, .int .i64 x144001_3, .int .i64 0, .bool a0_3] (0, 0) _ rfl (by (with_reducible repeat (first | refine blk_drewN ?_ _ | refine blk_drew ?_ | refine blk_alloc ?_ _)); refine blk_put (cs := #[.slice Ao5 l0_0.length co5, .int .i64 x144001_3, .int .i64 0, .bool false]) ?_ 3 _ rfl; (with_reducible repeat (first | refine blk_drewN ?_ _ | refine blk_drew ?_ | refine blk_alloc ?_ _)); refine blk_put (cs := #[.slice Ao5 l0_0.length co5, .int .i64 x144001_3, .int .i64 0, .bool false]) ?_ 2 _ rfl; (with_reducible repeat (first | refine blk_drewN ?_ _ | refine blk_drew ?_ | refine blk_alloc ?_ _)); refine blk_put (cs := #[.slice Ao5 l0_0.length co5, .int .i64 0, .int .i64 0, .bool false]) ?_ 1 _ rfl; (with_reducible repeat (first | refine blk_drewN ?_ _ | refine blk_drew ?_ | refine blk_alloc ?_ _)); refine blk_put (cs := #[.slice none 0 0, .int .i64 0, .int .i64 0, .bool false]) ?_ 0 _ rfl; (with_reducible repeat (first | refine blk_drewN ?_ _ | refine blk_drew ?_ | refine blk_alloc ?_ _)); refine blk_far ?_ NB144_143.out _; (with_reducible repeat (first | refine blk_drewN ?_ _ | refine blk_drew ?_ | refine blk_alloc ?_ _)); refine blk_far ?_ NB144_143.out _; (with_reducible repeat (first | refine blk_drewN ?_ _ | refine blk_drew ?_ | refine blk_alloc ?_ _)); exact BK144.out) Try.underlying30 rfl (by kernel_rfl)) rfl ?_
          exact ⟨_, by first | rfl | (simp [errW_none, errW_some] <;> rfl) | (simp [*, errW_none, errW_some] <;> rfl), by (with_reducible repeat (first | apply Kd.R_alloc | apply Kd.R_drewN | apply Kd.R_drew)); exact Kd.R_mono (Kd.R_far (p := ⟨gb144, 3, none⟩) (Kd.R_far (p := ⟨gb144, 2, none⟩) (Kd.R_far (p := ⟨gb144, 1, none⟩) (Kd.R_far (p := ⟨gb144, 0, none⟩) (Kd.R_far (p := ⟨gb143, 2, none⟩) (Kd.R_far (p := ⟨gb143, 2, none⟩) (Kd.R_types (Kd.R_types HO_144000.out BK143.out (by decide)) BK144.out (by decide)) (fun _ hk => hk.1.2) (.int .i64 a2)) (fun _ hk => hk.1.2) (.int .i64 0)) (fun _ hk => hk.2) (.slice Ao5 l0_0.length co5)) (fun _ hk => hk.2) (.int .i64 x144001_3)) (fun _ hk => hk.2) (.int .i64 0)) (fun _ hk => hk.2) (.bool a0_3)) (fun _ hk => hk.1.1), by repeat (first | (with_reducible first | exact HB.out | apply below_alloc | apply pw_below_drewN | apply below_drew1 | refine below_set ?_ GE143.out | refine below_set ?_ GE144.out) | exact HB.out), by repeat (first | (with_reducible first | exact HK.out | apply Kept.alloc | apply Kept.drewN | apply Kept.drew | refine Kept.setCell ?_ (.inr GW143.out) _ | refine Kept.setCell ?_ (.inr GW144.out) _) | exact HK.out)⟩
      · rw [if_neg c13] at H
        have c13b0 : decide (a2 < 0) = false := decide_eq_false c13
        clear c13
        by_cases c21 : a2 > 128
        · rw [if_pos c21] at H
          have c21b0 : decide (128 < a2) = true := decide_eq_true c21
          clear c21
          simp only [Option.some.injEq, Prod.mk.injEq] at H
          obtain ⟨rfl, rfl, rfl, rfl⟩ := H
          have hnb22 := NB143_144.out
          have hnc22 := NB144_143.out
          have hcz23_0 : wc.cell? ⟨gb143, 0, none⟩ = some (.slice Ao5 l0_0.length co5) := (blk_cell BK143.out 0).trans rfl
          have hcz23_1 : wc.cell? ⟨gb143, 1, none⟩ = some (.int .i64 x144001_3) := (blk_cell BK143.out 1).trans rfl
          have hcz23_2 : wc.cell? ⟨gb143, 2, none⟩ = some (.int .i64 a0_2) := (blk_cell BK143.out 2).trans rfl
          have hcz23_3 : wc.cell? ⟨gb143, 3, none⟩ = some (.bool a0_3) := (blk_cell BK143.out 3).trans rfl
          have hfz23_0 := blk_frozen BK143.out 0
          have hfz23_1 := blk_frozen BK143.out 1
          have hfz23_2 := blk_frozen BK143.out 2
          have hfz23_3 := blk_frozen BK143.out 3
          have hcz24_0 : wc.cell? ⟨gb144, 0, none⟩ = some (.slice none 0 0) := (blk_cell BK144.out 0).trans rfl
          have hcz24_1 : wc.cell? ⟨gb144, 1, none⟩ = some (.int .i64 0) := (blk_cell BK144.out 1).trans rfl
          have hcz24_2 : wc.cell? ⟨gb144, 2, none⟩ = some (.int .i64 0) := (blk_cell BK144.out 2).trans rfl
          have hcz24_3 : wc.cell? ⟨gb144, 3, none⟩ = some (.bool false) := (blk_cell BK144.out 3).trans rfl
          have hfz24_0 := blk_frozen BK144.out 0
          have hfz24_1 := blk_frozen BK144.out 1
          have hfz24_2 := blk_frozen BK144.out 2
          have hfz24_3 := blk_frozen BK144.out 3
          go_wp2
          refine bodyPost_ret (results_cell_row rfl _ _ gb144 30 #[.slice Ao5 l0_0.length co5, .int .i64 x144001_3, .int .i64 128, .bool a0_3] (0, 0) _ rfl (by (with_reducible repeat (first | refine blk_drewN ?_ _ | refine blk_drew ?_ | refine blk_alloc ?_ _)); refine blk_put (cs := #[.slice Ao5 l0_0.length co5, .int .i64 x144001_3, .int .i64 128, .bool false]) ?_ 3 _ rfl; (with_reducible repeat (first | refine blk_drewN ?_ _ | refine blk_drew ?_ | refine blk_alloc ?_ _)); refine blk_put (cs := #[.slice Ao5 l0_0.length co5, .int .i64 x144001_3, .int .i64 0, .bool false]) ?_ 2 _ rfl; (with_reducible repeat (first | refine blk_drewN ?_ _ | refine blk_drew ?_ | refine blk_alloc ?_ _)); refine blk_put (cs := #[.slice Ao5 l0_0.length co5, .int .i64 0, .int .i64 0, .bool false]) ?_ 1 _ rfl; (with_reducible repeat (first | refine blk_drewN ?_ _ | refine blk_drew ?_ | refine blk_alloc ?_ _)); refine blk_put (cs := #[.slice none 0 0, .int .i64 0, .int .i64 0, .bool false]) ?_ 0 _ rfl; (with_reducible repeat (first | refine blk_drewN ?_ _ | refine blk_drew ?_ | refine blk_alloc ?_ _)); refine blk_far ?_ NB144_143.out _; (with_reducible repeat (first | refine blk_drewN ?_ _ | refine blk_drew ?_ | refine blk_alloc ?_ _)); refine blk_far ?_ NB144_143.out _; (with_reducible repeat (first | refine blk_drewN ?_ _ | refine blk_drew ?_ | refine blk_alloc ?_ _)); exact BK144.out) Try.underlying30 rfl (by kernel_rfl)) rfl ?_
          exact ⟨_, by first | rfl | (simp [errW_none, errW_some] <;> rfl) | (simp [*, errW_none, errW_some] <;> rfl), by (with_reducible repeat (first | apply Kd.R_alloc | apply Kd.R_drewN | apply Kd.R_drew)); exact Kd.R_mono (Kd.R_far (p := ⟨gb144, 3, none⟩) (Kd.R_far (p := ⟨gb144, 2, none⟩) (Kd.R_far (p := ⟨gb144, 1, none⟩) (Kd.R_far (p := ⟨gb144, 0, none⟩) (Kd.R_far (p := ⟨gb143, 2, none⟩) (Kd.R_far (p := ⟨gb143, 2, none⟩) (Kd.R_types (Kd.R_types HO_144000.out BK143.out (by decide)) BK144.out (by decide)) (fun _ hk => hk.1.2) (.int .i64 a2)) (fun _ hk => hk.1.2) (.int .i64 128)) (fun _ hk => hk.2) (.slice Ao5 l0_0.length co5)) (fun _ hk => hk.2) (.int .i64 x144001_3)) (fun _ hk => hk.2) (.int .i64 128)) (fun _ hk => hk.2) (.bool a0_3)) (fun _ hk => hk.1.1), by repeat (first | (with_reducible first | exact HB.out | apply below_alloc | apply pw_below_drewN | apply below_drew1 | refine below_set ?_ GE143.out | refine below_set ?_ GE144.out) | exact HB.out), by repeat (first | (with_reducible first | exact HK.out | apply Kept.alloc | apply Kept.drewN | apply Kept.drew | refine Kept.setCell ?_ (.inr GW143.out) _ | refine Kept.setCell ?_ (.inr GW144.out) _) | exact HK.out)⟩
        · rw [if_neg c21] at H
          have c21b0 : decide (128 < a2) = false := decide_eq_false c21
          clear c21
          simp only [Option.some.injEq, Prod.mk.injEq] at H
          obtain ⟨rfl, rfl, rfl, rfl⟩ := H
          have hnb25 := NB143_144.out
          have hnc25 := NB144_143.out
          have hcz26_0 : wc.cell? ⟨gb143, 0, none⟩ = some (.slice Ao5 l0_0.length co5) := (blk_cell BK143.out 0).trans rfl
          have hcz26_1 : wc.cell? ⟨gb143, 1, none⟩ = some (.int .i64 x144001_3) := (blk_cell BK143.out 1).trans rfl
          have hcz26_2 : wc.cell? ⟨gb143, 2, none⟩ = some (.int .i64 a0_2) := (blk_cell BK143.out 2).trans rfl
          have hcz26_3 : wc.cell? ⟨gb143, 3, none⟩ = some (.bool a0_3) := (blk_cell BK143.out 3).trans rfl
          have hfz26_0 := blk_frozen BK143.out 0
          have hfz26_1 := blk_frozen BK143.out 1
          have hfz26_2 := blk_frozen BK143.out 2
          have hfz26_3 := blk_frozen BK143.out 3
          have hcz27_0 : wc.cell? ⟨gb144, 0, none⟩ = some (.slice none 0 0) := (blk_cell BK144.out 0).trans rfl
          have hcz27_1 : wc.cell? ⟨gb144, 1, none⟩ = some (.int .i64 0) := (blk_cell BK144.out 1).trans rfl
          have hcz27_2 : wc.cell? ⟨gb144, 2, none⟩ = some (.int .i64 0) := (blk_cell BK144.out 2).trans rfl
          have hcz27_3 : wc.cell? ⟨gb144, 3, none⟩ = some (.bool false) := (blk_cell BK144.out 3).trans rfl
          have hfz27_0 := blk_frozen BK144.out 0
          have hfz27_1 := blk_frozen BK144.out 1
          have hfz27_2 := blk_frozen BK144.out 2
          have hfz27_3 := blk_frozen BK144.out 3
          go_wp2
          refine bodyPost_ret (results_cell_row rfl _ _ gb144 30 #[.slice Ao5 l0_0.length co5, .int .i64 x144001_3, .int .i64 a2, .bool a0_3] (0, 0) _ rfl (by (with_reducible repeat (first | refine blk_drewN ?_ _ | refine blk_drew ?_ | refine blk_alloc ?_ _)); refine blk_put (cs := #[.slice Ao5 l0_0.length co5, .int .i64 x144001_3, .int .i64 a2, .bool false]) ?_ 3 _ rfl; (with_reducible repeat (first | refine blk_drewN ?_ _ | refine blk_drew ?_ | refine blk_alloc ?_ _)); refine blk_put (cs := #[.slice Ao5 l0_0.length co5, .int .i64 x144001_3, .int .i64 0, .bool false]) ?_ 2 _ rfl; (with_reducible repeat (first | refine blk_drewN ?_ _ | refine blk_drew ?_ | refine blk_alloc ?_ _)); refine blk_put (cs := #[.slice Ao5 l0_0.length co5, .int .i64 0, .int .i64 0, .bool false]) ?_ 1 _ rfl; (with_reducible repeat (first | refine blk_drewN ?_ _ | refine blk_drew ?_ | refine blk_alloc ?_ _)); refine blk_put (cs := #[.slice none 0 0, .int .i64 0, .int .i64 0, .bool false]) ?_ 0 _ rfl; (with_reducible repeat (first | refine blk_drewN ?_ _ | refine blk_drew ?_ | refine blk_alloc ?_ _)); refine blk_far ?_ NB144_143.out _; (with_reducible repeat (first | refine blk_drewN ?_ _ | refine blk_drew ?_ | refine blk_alloc ?_ _)); exact BK144.out) Try.underlying30 rfl (by kernel_rfl)) rfl ?_
          exact ⟨_, by first | rfl | (simp [errW_none, errW_some] <;> rfl) | (simp [*, errW_none, errW_some] <;> rfl), by (with_reducible repeat (first | apply Kd.R_alloc | apply Kd.R_drewN | apply Kd.R_drew)); exact Kd.R_mono (Kd.R_far (p := ⟨gb144, 3, none⟩) (Kd.R_far (p := ⟨gb144, 2, none⟩) (Kd.R_far (p := ⟨gb144, 1, none⟩) (Kd.R_far (p := ⟨gb144, 0, none⟩) (Kd.R_far (p := ⟨gb143, 2, none⟩) (Kd.R_types (Kd.R_types HO_144000.out BK143.out (by decide)) BK144.out (by decide)) (fun _ hk => hk.1.2) (.int .i64 a2)) (fun _ hk => hk.2) (.slice Ao5 l0_0.length co5)) (fun _ hk => hk.2) (.int .i64 x144001_3)) (fun _ hk => hk.2) (.int .i64 a2)) (fun _ hk => hk.2) (.bool a0_3)) (fun _ hk => hk.1.1), by repeat (first | (with_reducible first | exact HB.out | apply below_alloc | apply pw_below_drewN | apply below_drew1 | refine below_set ?_ GE143.out | refine below_set ?_ GE144.out) | exact HB.out), by repeat (first | (with_reducible first | exact HK.out | apply Kept.alloc | apply Kept.drewN | apply Kept.drew | refine Kept.setCell ?_ (.inr GW143.out) _ | refine Kept.setCell ?_ (.inr GW144.out) _) | exact HK.out)⟩

/-! ### baileeref08_Restart: function 24 -/
def baileeref08_Restart.f (l0_0 : List ByteArray) (a0_1 : Int) (a0_2 : Int) (a0_3 : Bool) : Option (List ByteArray × Int × Int × Bool) := some (l0_0, (-1), a0_2, false)
set_option maxHeartbeats 8000000 in
set_option maxRecDepth 100000 in
theorem baileeref08_Restart.calls (P0_0_ : Nat → Prop) (u9000_ : Value) (l0_0 : List ByteArray) (a0_1 : Int) (a0_2 : Int) (a0_3 : Bool) (r1 : List ByteArray) (r2 : Int) (r3 : Int) (r4 : Bool) (w0 w : World) (hB : Below w0.heap.size w0 w) (ho0_0 : Kd.R Kd.string 9 w w0.heap.size P0_0_ u9000_ l0_0) (h : baileeref08_Restart.f l0_0 a0_1 a0_2 a0_3 = some (r1, r2, r3, r4)) :
    Calls Try.prog 24 #[.agg #[u9000_, .int .i64 a0_1, .int .i64 a0_2, .bool a0_3]] w fun e w' => ∃ v0_ : Value, e = .returned (.agg #[v0_, .int .i64 r2, .int .i64 r3, .bool r4]) ∧ Kd.R Kd.string 9 w' w0.heap.size (fun k_ => (P0_0_ k_ ∨ w.heap.size ≤ k_)) v0_ r1 ∧ Below w0.heap.size w0 w' ∧ Kept w w' (fun k_ => P0_0_ k_) := by
  have hu30 := Try.underlying30
  have HO0_0 := Aside0.mk (show Kd.R Kd.string 9 w w0.heap.size (fun k_ => (P0_0_ k_ ∨ w.heap.size ≤ k_)) u9000_ l0_0 from Kd.R_mono ho0_0 (fun k_ hk => (.inl hk)))
  have HK := Aside0.mk (Kept.refl w (fun k_ => P0_0_ k_))
  have HW0 := Aside0.mk hB.size
  have HB := Aside0.mk hB
  clear hB
  have H : (some (l0_0, (-1), a0_2, false)) = some (r1, r2, r3, r4) := h
  clear h
  simp only [Option.some.injEq, Prod.mk.injEq] at H
  obtain ⟨rfl, rfl, rfl, rfl⟩ := H
  obtain ⟨Ao2, co2, eo2⟩ := Kd.R_slice HO0_0.out
  subst eo2
  go_enter Try.func24, Try.ntmps24
  go_wp2_with (first | ((with_reducible refine gate_dst (N := 1) rfl ?_); refine box_event ?hg (N := 1) ?hd (cs := #[.slice Ao2 l0_0.length co2, .int .i64 a0_1, .int .i64 a0_2, .bool a0_3]) (t := 30) ?hr ?_; (case hd => rfl); (case hg => rfl); (case hr => first | (go_simp; done) | (go_simp; rfl)); intro gb145 hg w3 hbox hb; have n0_ := Aside0.mk (Kd.R_below (by (with_reducible repeat (first | apply Kd.R_alloc | apply Kd.R_drewN | apply Kd.R_drew)); exact HO0_0.out) hb); have n1_ := Aside0.mk (Kept.below (S := (fun k_ => P0_0_ k_)) (by repeat (first | (with_reducible first | exact HK.out | apply Kept.alloc | apply Kept.drewN | apply Kept.drew) | exact HK.out)) hb); have n2_ := Aside0.mk (below_step (by repeat (first | (with_reducible first | exact HB.out | apply below_alloc | apply pw_below_drewN | apply below_drew1) | exact HB.out)) hb); have n3_ := Aside0.mk (hbox); have n4_ := Aside0.mk ((by rw [hg]; exact (by first | exact HK.out.1 | exact (show Kept w _ (fun k_ => P0_0_ k_) from by repeat (first | (with_reducible first | exact HK.out | apply Kept.alloc | apply Kept.drewN | apply Kept.drew) | exact HK.out)).1) : w.heap.size ≤ gb145)); have n5_ := Aside0.mk ((by rw [hg]; exact (below_size (by repeat (first | (with_reducible first | exact HB.out | apply below_alloc | apply pw_below_drewN | apply below_drew1) | exact HB.out))) : w0.heap.size ≤ gb145)); clear HO0_0; clear HK; clear HB; have HO0_0 := n0_; have HK := n1_; have HB := n2_; have BK145 := n3_; have GW145 := n4_; have GE145 := n5_; clear n0_ n1_ n2_ n3_ n4_ n5_; clear hb hbox hg) | ((with_reducible refine gate_dst (N := 2) rfl ?_); refine box_event ?hg (N := 2) ?hd (cs := #[.slice none 0 0, .int .i64 0, .int .i64 0, .bool false]) (t := 30) ?hr ?_; (case hd => rfl); (case hg => rfl); (case hr => first | (go_simp; done) | (go_simp; rfl)); intro gb146 hg w4 hbox hb; have n0_ := Aside0.mk (Kd.R_below (by (with_reducible repeat (first | apply Kd.R_alloc | apply Kd.R_drewN | apply Kd.R_drew)); exact HO0_0.out) hb); have n1_ := Aside0.mk (blk_below (g := gb145) (o := .cells #[.slice Ao2 l0_0.length co2, .int .i64 a0_1, .int .i64 a0_2, .bool a0_3] 30 (0, 0)) (by (with_reducible repeat (first | refine blk_drewN ?_ _ | refine blk_drew ?_ | refine blk_alloc ?_ _)); exact BK145.out) hb); have n2_ := Aside0.mk (Kept.below (S := (fun k_ => P0_0_ k_)) (by repeat (first | (with_reducible first | exact HK.out | apply Kept.alloc | apply Kept.drewN | apply Kept.drew | refine Kept.setCell ?_ (.inr GW145.out) _) | exact HK.out)) hb); have n3_ := Aside0.mk (below_step (by repeat (first | (with_reducible first | exact HB.out | apply below_alloc | apply pw_below_drewN | apply below_drew1 | refine below_set ?_ GE145.out) | exact HB.out)) hb); have n4_ := Aside0.mk (hbox); have n5_ := Aside0.mk ((by rw [hg]; exact (by first | exact HK.out.1 | exact (show Kept w _ (fun k_ => P0_0_ k_) from by repeat (first | (with_reducible first | exact HK.out | apply Kept.alloc | apply Kept.drewN | apply Kept.drew | refine Kept.setCell ?_ (.inr GW145.out) _) | exact HK.out)).1) : w.heap.size ≤ gb146)); have n6_ := Aside0.mk ((by rw [hg]; exact (below_size (by repeat (first | (with_reducible first | exact HB.out | apply below_alloc | apply pw_below_drewN | apply below_drew1 | refine below_set ?_ GE145.out) | exact HB.out))) : w0.heap.size ≤ gb146)); have n7_ := Aside0.mk ((by rw [hg]; exact Nat.ne_of_lt (blk_lt (g := gb145) (o := .cells #[.slice Ao2 l0_0.length co2, .int .i64 a0_1, .int .i64 a0_2, .bool a0_3] 30 (0, 0)) (by (with_reducible repeat (first | refine blk_drewN ?_ _ | refine blk_drew ?_ | refine blk_alloc ?_ _)); exact BK145.out)) : gb145 ≠ gb146)); have n8_ := Aside0.mk ((by rw [hg]; exact Nat.ne_of_gt (blk_lt (g := gb145) (o := .cells #[.slice Ao2 l0_0.length co2, .int .i64 a0_1, .int .i64 a0_2, .bool a0_3] 30 (0, 0)) (by (with_reducible repeat (first | refine blk_drewN ?_ _ | refine blk_drew ?_ | refine blk_alloc ?_ _)); exact BK145.out)) : gb146 ≠ gb145)); clear HO0_0; clear BK145; clear HK; clear HB; have HO0_0 := n0_; have BK145 := n1_; have HK := n2_; have HB := n3_; have BK146 := n4_; have GW146 := n5_; have GE146 := n6_; have NB145_146 := n7_; have NB146_145 := n8_; clear n0_ n1_ n2_ n3_ n4_ n5_ n6_ n7_ n8_; clear hb hbox hg; have hnb5 := NB145_146.out; have hnc5 := NB146_145.out; have hcz6_0 : w4.cell? ⟨gb145, 0, none⟩ = some (.slice Ao2 l0_0.length co2) := (blk_cell BK145.out 0).trans rfl; have hcz6_1 : w4.cell? ⟨gb145, 1, none⟩ = some (.int .i64 a0_1) := (blk_cell BK145.out 1).trans rfl; have hcz6_2 : w4.cell? ⟨gb145, 2, none⟩ = some (.int .i64 a0_2) := (blk_cell BK145.out 2).trans rfl; have hcz6_3 : w4.cell? ⟨gb145, 3, none⟩ = some (.bool a0_3) := (blk_cell BK145.out 3).trans rfl; have hfz6_0 := blk_frozen BK145.out 0; have hfz6_1 := blk_frozen BK145.out 1; have hfz6_2 := blk_frozen BK145.out 2; have hfz6_3 := blk_frozen BK145.out 3; have hcz7_0 : w4.cell? ⟨gb146, 0, none⟩ = some (.slice none 0 0) := (blk_cell BK146.out 0).trans rfl; have hcz7_1 : w4.cell? ⟨gb146, 1, none⟩ = some (.int .i64 0) := (blk_cell BK146.out 1).trans rfl; have hcz7_2 : w4.cell? ⟨gb146, 2, none⟩ = some (.int .i64 0) := (blk_cell BK146.out 2).trans rfl; have hcz7_3 : w4.cell? ⟨gb146, 3, none⟩ = some (.bool false) := (blk_cell BK146.out 3).trans rfl; have hfz7_0 := blk_frozen BK146.out 0; have hfz7_1 := blk_frozen BK146.out 1; have hfz7_2 := blk_frozen BK146.out 2; have hfz7_3 := blk_frozen BK146.out 3))
  refine bodyPost_ret (results_cell_row rfl _ _ gb146 30 #[.slice Ao2 l0_0.length co2, .int .i64 (-1), .int .i64 a0_2, .bool false] (0, 0) _ rfl (by (with_reducible repeat (first | refine blk_drewN ?_ _ | refine blk_drew ?_ | refine blk_alloc ?_ _)); refine blk_put (cs := #[.slice Ao2 l0_0.length co2, .int .i64 (-1), .int .i64 a0_2, .bool false]) ?_ 3 _ rfl; (with_reducible repeat (first | refine blk_drewN ?_ _ | refine blk_drew ?_ | refine blk_alloc ?_ _)); refine blk_put (cs := #[.slice Ao2 l0_0.length co2, .int .i64 (-1), .int .i64 0, .bool false]) ?_ 2 _ rfl; (with_reducible repeat (first | refine blk_drewN ?_ _ | refine blk_drew ?_ | refine blk_alloc ?_ _)); refine blk_put (cs := #[.slice Ao2 l0_0.length co2, .int .i64 0, .int .i64 0, .bool false]) ?_ 1 _ rfl; (with_reducible repeat (first | refine blk_drewN ?_ _ | refine blk_drew ?_ | refine blk_alloc ?_ _)); refine blk_put (cs := #[.slice none 0 0, .int .i64 0, .int .i64 0, .bool false]) ?_ 0 _ rfl; (with_reducible repeat (first | refine blk_drewN ?_ _ | refine blk_drew ?_ | refine blk_alloc ?_ _)); refine blk_far ?_ NB146_145.out _; (with_reducible repeat (first | refine blk_drewN ?_ _ | refine blk_drew ?_ | refine blk_alloc ?_ _)); refine blk_far ?_ NB146_145.out _; (with_reducible repeat (first | refine blk_drewN ?_ _ | refine blk_drew ?_ | refine blk_alloc ?_ _)); exact BK146.out) Try.underlying30 rfl (by kernel_rfl)) rfl ?_
  exact ⟨_, by first | rfl | (simp [errW_none, errW_some] <;> rfl) | (simp [*, errW_none, errW_some] <;> rfl), by (with_reducible repeat (first | apply Kd.R_alloc | apply Kd.R_drewN | apply Kd.R_drew)); exact Kd.R_mono (Kd.R_far (p := ⟨gb146, 3, none⟩) (Kd.R_far (p := ⟨gb146, 2, none⟩) (Kd.R_far (p := ⟨gb146, 1, none⟩) (Kd.R_far (p := ⟨gb146, 0, none⟩) (Kd.R_far (p := ⟨gb145, 3, none⟩) (Kd.R_far (p := ⟨gb145, 1, none⟩) (Kd.R_types (Kd.R_types HO0_0.out BK145.out (by decide)) BK146.out (by decide)) (fun _ hk => hk.1.2) (.int .i64 (-1))) (fun _ hk => hk.1.2) (.bool false)) (fun _ hk => hk.2) (.slice Ao2 l0_0.length co2)) (fun _ hk => hk.2) (.int .i64 (-1))) (fun _ hk => hk.2) (.int .i64 a0_2)) (fun _ hk => hk.2) (.bool false)) (fun _ hk => hk.1.1), by repeat (first | (with_reducible first | exact HB.out | apply below_alloc | apply pw_below_drewN | apply below_drew1 | refine below_set ?_ GE145.out | refine below_set ?_ GE146.out) | exact HB.out), by repeat (first | (with_reducible first | exact HK.out | apply Kept.alloc | apply Kept.drewN | apply Kept.drew | refine Kept.setCell ?_ (.inr GW145.out) _ | refine Kept.setCell ?_ (.inr GW146.out) _) | exact HK.out)⟩

end Go.Proofs.Ytnajdnhgoakgaaa.PWal
