/- Texts joined. -/
import Derived.Test.YtnajdnhgoakgaaaPWalx0
import Derived.Test.YtnajdnhgoakgaaaPWalx2
-- PRINTED anew over substituted functions by hook.py
namespace Go.Proofs.Ytnajdnhgoakgaaa.PWal
open Go.RowKit Go.Proofs.YtnajdnhgoakgaaaW.PrintWords Go.Proofs.YtnajdnhgoakgaaaW.PrintLast Go.Proofs.YtnajdnhgoakgaaaW.PrintMore
attribute [local go_sem] max2_int min2_int max_two min_two max_three min_three max_four min_four   -- for this text's walks alone
set_option linter.unusedVariables false
set_option linter.unusedSimpArgs false

/-! ### baileeref09_Open: function 42 -/
mutual
def baileeref09_Open.j0 : Nat → Int → Int → Bool → List ByteArray → Int → Int → Bool → Option (Int × Int × Int × Int × Int × List ByteArray × Int × Int)
  | 0, _, _, _, _, _, _, _ => none
  | k + 1, x1, x2, x42, x148000, x148001, x148002, x148003 => if x42 = true then (some (0, 0, 0, 0, 0, ([] : List ByteArray), 0, 1)) else (if x148003 = true then (some (0, 0, 0, 0, 0, ([] : List ByteArray), 0, 30)) else (baileeref09_Open.l0 k x1 x2 0 x1 x148000 x148001 x148002 x148003 x1 x2 0 0 0 0))
def baileeref09_Open.l0 : Nat → Int → Int → Int → Int → List ByteArray → Int → Int → Bool → Int → Int → Int → Int → Int → Int → Option (Int × Int × Int × Int × Int × List ByteArray × Int × Int)
  | 0, _, _, _, _, _, _, _, _, _, _, _, _, _, _ => none
  | k + 1, x1, x2, x9, x10, x148000, x148001, x148002, x148003, x150000, x150001, x150002, x150003, x150004, x150006 => if x10 < (wrap64 (x1 + x2)) then (if 0 ≤ x10 then (if x10 < (x148000.length : Int) then (if 0 ≤ 8 then (if 8 ≤ ((rdOf ByteArray.empty x148000 x10).size : Int) then ((baileeref09_Value.f k ((rdOf ByteArray.empty x148000 x10).extract 0 8)).bind fun t151 => (if 120 ≤ ((rdOf ByteArray.empty x148000 x10).size : Int) then ((baileeref09_Value.f k ((rdOf ByteArray.empty x148000 x10).extract 120 (rdOf ByteArray.empty x148000 x10).size)).bind fun t153 => (if t151 > x9 then (if t153 > t151 then (baileeref09_Open.l0 k x1 x2 t153 (wrap64 (x10 + 1)) x148000 x148001 x148002 x148003 x150000 x150001 x150002 x150003 x150004 x150006) else (baileeref09_Open.l0 k x1 x2 t151 (wrap64 (x10 + 1)) x148000 x148001 x148002 x148003 x150000 x150001 x150002 x150003 x150004 x150006)) else (if t153 > x9 then (baileeref09_Open.l0 k x1 x2 t153 (wrap64 (x10 + 1)) x148000 x148001 x148002 x148003 x150000 x150001 x150002 x150003 x150004 x150006) else (baileeref09_Open.l0 k x1 x2 x9 (wrap64 (x10 + 1)) x148000 x148001 x148002 x148003 x150000 x150001 x150002 x150003 x150004 x150006)))) else (none))) else (none)) else (none)) else (none)) else (none)) else (baileeref09_Open.l1 k x1 x2 (⟨#[]⟩ : ByteArray) false 0 0 0 x148000 x148001 x148002 x148003 x150000 x150001 x150002 (IntKind.u64.wrap (x9 + 1)) x150004 ([] : List ByteArray) x150006)
def baileeref09_Open.l1 : Nat → Int → Int → ByteArray → Bool → Int → Int → Int → List ByteArray → Int → Int → Bool → Int → Int → Int → Int → Int → List ByteArray → Int → Option (Int × Int × Int × Int × Int × List ByteArray × Int × Int)
  | 0, _, _, _, _, _, _, _, _, _, _, _, _, _, _, _, _, _, _ => none
  | k + 1, x1, x2, x13, x14, x15, x16, x17, x148000, x148001, x148002, x148003, x150000, x150001, x150002, x150003, x150004, x150005, x150006 => if x17 < x2 then (if 0 ≤ (wrap64 (x1 + x17)) then (if (wrap64 (x1 + x17)) < (x148000.length : Int) then ((baileeref09_Read.f k (rdOf ByteArray.empty x148000 (wrap64 (x1 + x17)))).bind fun bt155 => (if bt155.1 = 0 then (baileeref09_Open.j3 k x1 x2 x13 x16 x17 bt155.1 bt155.2.1 bt155.2.2 true x148000 x148001 x148002 x148003 x150000 x150001 x150002 x150003 x150004 x150005 x150006) else (if bt155.1 ≤ x15 then (baileeref09_Open.j3 k x1 x2 x13 x16 x17 bt155.1 bt155.2.1 bt155.2.2 true x148000 x148001 x148002 x148003 x150000 x150001 x150002 x150003 x150004 x150005 x150006) else (if x14 = true then (baileeref09_Open.j3 k x1 x2 x13 x16 x17 bt155.1 bt155.2.1 bt155.2.2 ((IntKind.u64.wrap (bt155.1 - x15)) != 1) x148000 x148001 x148002 x148003 x150000 x150001 x150002 x150003 x150004 x150005 x150006) else (baileeref09_Open.j3 k x1 x2 x13 x16 x17 bt155.1 bt155.2.1 bt155.2.2 false x148000 x148001 x148002 x148003 x150000 x150001 x150002 x150003 x150004 x150005 x150006))))) else (none)) else (none)) else (some (x150000, x150001, x150002, x150003, x150004, x150005, x150006, 0))
def baileeref09_Open.j3 : Nat → Int → Int → ByteArray → Int → Int → Int → ByteArray → Bool → Bool → List ByteArray → Int → Int → Bool → Int → Int → Int → Int → Int → List ByteArray → Int → Option (Int × Int × Int × Int × Int × List ByteArray × Int × Int)
  | 0, _, _, _, _, _, _, _, _, _, _, _, _, _, _, _, _, _, _, _, _ => none
  | k + 1, x1, x2, x13, x16, x17, x18, x19, x20, x115, x148000, x148001, x148002, x148003, x150000, x150001, x150002, x150003, x150004, x150005, x150006 => if x115 = true then (some (x150000, x150001, x150002, x150003, x150004, x150005, x150006, 0)) else (if x17 = 0 then (if x13.size + x19.size ≤ 9223372036854775807 then (if x20 = true then (if x150005.length < 8796093022208 then (baileeref09_Open.l1 k x1 x2 (⟨#[]⟩ : ByteArray) (!x20) x18 x18 (wrap64 (x17 + 1)) x148000 x148001 x148002 x148003 x150000 x150001 x18 x150003 (wrap64 (x17 + 1)) (x150005 ++ [x13 ++ x19]) x150006) else (none)) else (baileeref09_Open.l1 k x1 x2 (x13 ++ x19) (!x20) x18 x18 (wrap64 (x17 + 1)) x148000 x148001 x148002 x148003 x150000 x150001 x150002 x150003 x150004 x150005 x150006)) else (none)) else (if x13.size + x19.size ≤ 9223372036854775807 then (if x20 = true then (if x150005.length < 8796093022208 then (baileeref09_Open.l1 k x1 x2 (⟨#[]⟩ : ByteArray) (!x20) x18 x16 (wrap64 (x17 + 1)) x148000 x148001 x148002 x148003 x150000 x150001 x16 x150003 (wrap64 (x17 + 1)) (x150005 ++ [x13 ++ x19]) x150006) else (none)) else (baileeref09_Open.l1 k x1 x2 (x13 ++ x19) (!x20) x18 x16 (wrap64 (x17 + 1)) x148000 x148001 x148002 x148003 x150000 x150001 x150002 x150003 x150004 x150005 x150006)) else (none)))
end
def baileeref09_Open.f (k : Nat) (l0_0 : List ByteArray) (a0_1 : Int) (a0_2 : Int) (a0_3 : Bool) (a1 : Int) (a2 : Int) : Option (Int × Int × Int × Int × Int × List ByteArray × Int × Int) := if a1 < 0 then (baileeref09_Open.j0 k a1 a2 true l0_0 a0_1 a0_2 a0_3) else (if a2 < 1 then (baileeref09_Open.j0 k a1 a2 true l0_0 a0_1 a0_2 a0_3) else (if a1 > (l0_0.length : Int) then (baileeref09_Open.j0 k a1 a2 true l0_0 a0_1 a0_2 a0_3) else (baileeref09_Open.j0 k a1 a2 (decide (a2 > (wrap64 ((l0_0.length : Int) - a1)))) l0_0 a0_1 a0_2 a0_3)))
theorem baileeref09_Open.mono_l : ∀ k, (∀ y0 y1 y2 y3 y4 y5 y6, LeO (baileeref09_Open.j0 k y0 y1 y2 y3 y4 y5 y6) (baileeref09_Open.j0 (k + 1) y0 y1 y2 y3 y4 y5 y6)) ∧ (∀ y0 y1 y2 y3 y4 y5 y6 y7 y8 y9 y10 y11 y12 y13, LeO (baileeref09_Open.l0 k y0 y1 y2 y3 y4 y5 y6 y7 y8 y9 y10 y11 y12 y13) (baileeref09_Open.l0 (k + 1) y0 y1 y2 y3 y4 y5 y6 y7 y8 y9 y10 y11 y12 y13)) ∧ (∀ y0 y1 y2 y3 y4 y5 y6 y7 y8 y9 y10 y11 y12 y13 y14 y15 y16 y17, LeO (baileeref09_Open.l1 k y0 y1 y2 y3 y4 y5 y6 y7 y8 y9 y10 y11 y12 y13 y14 y15 y16 y17) (baileeref09_Open.l1 (k + 1) y0 y1 y2 y3 y4 y5 y6 y7 y8 y9 y10 y11 y12 y13 y14 y15 y16 y17)) ∧ (∀ y0 y1 y2 y3 y4 y5 y6 y7 y8 y9 y10 y11 y12 y13 y14 y15 y16 y17 y18 y19, LeO (baileeref09_Open.j3 k y0 y1 y2 y3 y4 y5 y6 y7 y8 y9 y10 y11 y12 y13 y14 y15 y16 y17 y18 y19) (baileeref09_Open.j3 (k + 1) y0 y1 y2 y3 y4 y5 y6 y7 y8 y9 y10 y11 y12 y13 y14 y15 y16 y17 y18 y19))
  | 0 => ⟨fun _ _ _ _ _ _ _ r h => by simp [baileeref09_Open.j0] at h, fun _ _ _ _ _ _ _ _ _ _ _ _ _ _ r h => by simp [baileeref09_Open.l0] at h, fun _ _ _ _ _ _ _ _ _ _ _ _ _ _ _ _ _ _ r h => by simp [baileeref09_Open.l1] at h, fun _ _ _ _ _ _ _ _ _ _ _ _ _ _ _ _ _ _ _ _ r h => by simp [baileeref09_Open.j3] at h⟩
  | k + 1 => by
    obtain ⟨ih0, ih1, ih2, ih3⟩ := baileeref09_Open.mono_l k
    refine ⟨?_, ?_, ?_, ?_⟩
    · intro y0 y1 y2 y3 y4 y5 y6
      unfold baileeref09_Open.j0
      repeat' first
      | (with_reducible exact ih0 _ _ _ _ _ _ _)
      | (with_reducible exact ih1 _ _ _ _ _ _ _ _ _ _ _ _ _ _)
      | (with_reducible exact ih2 _ _ _ _ _ _ _ _ _ _ _ _ _ _ _ _ _ _)
      | (with_reducible exact ih3 _ _ _ _ _ _ _ _ _ _ _ _ _ _ _ _ _ _ _ _)
      | (with_reducible exact baileeref09_Read.mono _ _)
      | (with_reducible exact baileeref09_Value.mono _ _)
      | (with_reducible exact LeO.refl _)
      | (with_reducible exact LeO.none _)
      | (with_reducible refine LeO.ite ?_ ?_)
      | (with_reducible refine LeO.bind ?_ (fun _ => ?_))
      | exact ih0 _ _ _ _ _ _ _
      | exact ih1 _ _ _ _ _ _ _ _ _ _ _ _ _ _
      | exact ih2 _ _ _ _ _ _ _ _ _ _ _ _ _ _ _ _ _ _
      | exact ih3 _ _ _ _ _ _ _ _ _ _ _ _ _ _ _ _ _ _ _ _
      | exact baileeref09_Read.mono _ _
      | exact baileeref09_Value.mono _ _
      | exact LeO.none _
      | refine LeO.ite ?_ ?_
      | refine LeO.bind ?_ (fun _ => ?_)
    · intro y0 y1 y2 y3 y4 y5 y6 y7 y8 y9 y10 y11 y12 y13
      unfold baileeref09_Open.l0
      repeat' first
      | (with_reducible exact ih0 _ _ _ _ _ _ _)
      | (with_reducible exact ih1 _ _ _ _ _ _ _ _ _ _ _ _ _ _)
      | (with_reducible exact ih2 _ _ _ _ _ _ _ _ _ _ _ _ _ _ _ _ _ _)
      | (with_reducible exact ih3 _ _ _ _ _ _ _ _ _ _ _ _ _ _ _ _ _ _ _ _)
      | (with_reducible exact baileeref09_Read.mono _ _)
      | (with_reducible exact baileeref09_Value.mono _ _)
      | (with_reducible exact LeO.refl _)
      | (with_reducible exact LeO.none _)
      | (with_reducible refine LeO.ite ?_ ?_)
      | (with_reducible refine LeO.bind ?_ (fun _ => ?_))
      | exact ih0 _ _ _ _ _ _ _
      | exact ih1 _ _ _ _ _ _ _ _ _ _ _ _ _ _
      | exact ih2 _ _ _ _ _ _ _ _ _ _ _ _ _ _ _ _ _ _
      | exact ih3 _ _ _ _ _ _ _ _ _ _ _ _ _ _ _ _ _ _ _ _
      | exact baileeref09_Read.mono _ _
      | exact baileeref09_Value.mono _ _
      | exact LeO.none _
      | refine LeO.ite ?_ ?_
      | refine LeO.bind ?_ (fun _ => ?_)
    · intro y0 y1 y2 y3 y4 y5 y6 y7 y8 y9 y10 y11 y12 y13 y14 y15 y16 y17
      unfold baileeref09_Open.l1
      repeat' first
      | (with_reducible exact ih0 _ _ _ _ _ _ _)
      | (with_reducible exact ih1 _ _ _ _ _ _ _ _ _ _ _ _ _ _)
      | (with_reducible exact ih2 _ _ _ _ _ _ _ _ _ _ _ _ _ _ _ _ _ _)
      | (with_reducible exact ih3 _ _ _ _ _ _ _ _ _ _ _ _ _ _ _ _ _ _ _ _)
      | (with_reducible exact baileeref09_Read.mono _ _)
      | (with_reducible exact baileeref09_Value.mono _ _)
      | (with_reducible exact LeO.refl _)
      | (with_reducible exact LeO.none _)
      | (with_reducible refine LeO.ite ?_ ?_)
      | (with_reducible refine LeO.bind ?_ (fun _ => ?_))
      | exact ih0 _ _ _ _ _ _ _
      | exact ih1 _ _ _ _ _ _ _ _ _ _ _ _ _ _
      | exact ih2 _ _ _ _ _ _ _ _ _ _ _ _ _ _ _ _ _ _
      | exact ih3 _ _ _ _ _ _ _ _ _ _ _ _ _ _ _ _ _ _ _ _
      | exact baileeref09_Read.mono _ _
      | exact baileeref09_Value.mono _ _
      | exact LeO.none _
      | refine LeO.ite ?_ ?_
      | refine LeO.bind ?_ (fun _ => ?_)
    · intro y0 y1 y2 y3 y4 y5 y6 y7 y8 y9 y10 y11 y12 y13 y14 y15 y16 y17 y18 y19
      unfold baileeref09_Open.j3
      repeat' first
      | (with_reducible exact ih0 _ _ _ _ _ _ _)
      | (with_reducible exact ih1 _ _ _ _ _ _ _ _ _ _ _ _ _ _)
      | (with_reducible exact ih2 _ _ _ _ _ _ _ _ _ _ _ _ _ _ _ _ _ _)
      | (with_reducible exact ih3 _ _ _ _ _ _ _ _ _ _ _ _ _ _ _ _ _ _ _ _)
      | (with_reducible exact baileeref09_Read.mono _ _)
      | (with_reducible exact baileeref09_Value.mono _ _)
      | (with_reducible exact LeO.refl _)
      | (with_reducible exact LeO.none _)
      | (with_reducible refine LeO.ite ?_ ?_)
      | (with_reducible refine LeO.bind ?_ (fun _ => ?_))
      | exact ih0 _ _ _ _ _ _ _
      | exact ih1 _ _ _ _ _ _ _ _ _ _ _ _ _ _
      | exact ih2 _ _ _ _ _ _ _ _ _ _ _ _ _ _ _ _ _ _
      | exact ih3 _ _ _ _ _ _ _ _ _ _ _ _ _ _ _ _ _ _ _ _
      | exact baileeref09_Read.mono _ _
      | exact baileeref09_Value.mono _ _
      | exact LeO.none _
      | refine LeO.ite ?_ ?_
      | refine LeO.bind ?_ (fun _ => ?_)
theorem baileeref09_Open.mono : ∀ a0 a1 a2 a3 a4 a5 k, LeO (baileeref09_Open.f k a0 a1 a2 a3 a4 a5) (baileeref09_Open.f (k + 1) a0 a1 a2 a3 a4 a5) := by
  intro a0 a1 a2 a3 a4 a5 k
  obtain ⟨ih0, ih1, ih2, ih3⟩ := baileeref09_Open.mono_l k
  unfold baileeref09_Open.f
  repeat' first
      | (with_reducible exact ih0 _ _ _ _ _ _ _)
      | (with_reducible exact ih1 _ _ _ _ _ _ _ _ _ _ _ _ _ _)
      | (with_reducible exact ih2 _ _ _ _ _ _ _ _ _ _ _ _ _ _ _ _ _ _)
      | (with_reducible exact ih3 _ _ _ _ _ _ _ _ _ _ _ _ _ _ _ _ _ _ _ _)
      | (with_reducible exact baileeref09_Read.mono _ _)
      | (with_reducible exact baileeref09_Value.mono _ _)
      | (with_reducible exact LeO.refl _)
      | (with_reducible exact LeO.none _)
      | (with_reducible refine LeO.ite ?_ ?_)
      | (with_reducible refine LeO.bind ?_ (fun _ => ?_))
      | exact ih0 _ _ _ _ _ _ _
      | exact ih1 _ _ _ _ _ _ _ _ _ _ _ _ _ _
      | exact ih2 _ _ _ _ _ _ _ _ _ _ _ _ _ _ _ _ _ _
      | exact ih3 _ _ _ _ _ _ _ _ _ _ _ _ _ _ _ _ _ _ _ _
      | exact baileeref09_Read.mono _ _
      | exact baileeref09_Value.mono _ _
      | exact LeO.none _
      | refine LeO.ite ?_ ?_
      | refine LeO.bind ?_ (fun _ => ?_)
set_option maxHeartbeats 8000000 in
set_option maxRecDepth 100000 in
theorem baileeref09_Open.calls (k : Nat) (A0_0 : Option Addr) (c0_0 : Nat) (l0_0 : List ByteArray) (a0_1 : Int) (a0_2 : Int) (a0_3 : Bool) (a1 : Int) (a2 : Int) (r1 : Int) (r2 : Int) (r3 : Int) (r4 : Int) (r5 : Int) (r6 : List ByteArray) (r7 : Int) (r8 : Int) (w : World) (hr0_0 : Kd.C Kd.string w A0_0 l0_0.length l0_0) (hc0_0 : l0_0.length ≤ c0_0) (h : baileeref09_Open.f k l0_0 a0_1 a0_2 a0_3 a1 a2 = some (r1, r2, r3, r4, r5, r6, r7, r8)) :
    Calls Try.prog 42 #[.agg #[.slice A0_0 l0_0.length c0_0, .int .i64 a0_1, .int .i64 a0_2, .bool a0_3], .int .i64 a1, .int .i64 a2] w fun e w' => ∃ v5_ : Value, e = .returned (.tuple #[.agg #[.int .i64 r1, .int .i64 r2, .int .u64 r3, .int .u64 r4, .int .i64 r5, v5_, .int .i64 r7], .int .i64 r8]) ∧ Kd.R Kd.string 9 w' w.heap.size (fun _ => True) v5_ r6 ∧ Below w.heap.size w w' := by
  have hu30 := Try.underlying30
  have hu75 := Try.underlying75
  have HR0_0 := Aside0.mk hr0_0
  have HC0_0 := Aside0.mk hc0_0
  clear hr0_0 hc0_0
  have HB := Aside0.mk (Below.refl w.heap.size w)
  have H : (if a1 < 0 then (baileeref09_Open.j0 k a1 a2 true l0_0 a0_1 a0_2 a0_3) else (if a2 < 1 then (baileeref09_Open.j0 k a1 a2 true l0_0 a0_1 a0_2 a0_3) else (if a1 > (l0_0.length : Int) then (baileeref09_Open.j0 k a1 a2 true l0_0 a0_1 a0_2 a0_3) else (baileeref09_Open.j0 k a1 a2 (decide (a2 > (wrap64 ((l0_0.length : Int) - a1)))) l0_0 a0_1 a0_2 a0_3)))) = some (r1, r2, r3, r4, r5, r6, r7, r8) := h
  clear h
  have HC4 := Aside0.mk H
  clear H
  go_enter Try.func42, Try.ntmps42
  go_upto_region 1 with (first | ((with_reducible refine gate_dst (N := 3) rfl ?_); (try (refine gate_guard (by rfl) ?_; dsimp only)); refine box_event ?hg (N := 3) ?hd (cs := #[.slice A0_0 l0_0.length c0_0, .int .i64 a0_1, .int .i64 a0_2, .bool a0_3]) (t := 30) ?hr ?_; (case hd => rfl); (case hg => rfl); (case hr => first | (go_simp; done) | (go_simp; rfl)); intro gb147 hg w5 hbox hb; have n0_ := Aside0.mk (below_step (by repeat (first | (with_reducible first | exact HB.out | apply below_alloc | apply pw_below_drewN | apply below_drew1) | exact HB.out)) hb); have n1_ := Aside0.mk (hbox); have n2_ := Aside0.mk ((by rw [hg]; exact (below_size (by repeat (first | (with_reducible first | exact HB.out | apply below_alloc | apply pw_below_drewN | apply below_drew1) | exact HB.out))) : w.heap.size ≤ gb147)); have n3_ := Aside0.mk ((by rw [hg]; exact (below_size (by repeat (first | (with_reducible first | exact HB.out | apply below_alloc | apply pw_below_drewN | apply below_drew1) | exact HB.out))) : w.heap.size ≤ gb147)); clear HB; have HB := n0_; have BK147 := n1_; have GW147 := n2_; have GE147 := n3_; clear n0_ n1_ n2_ n3_; clear hb hbox hg) | ((with_reducible refine gate_dst (N := 6) rfl ?_); (try (refine gate_guard (by rfl) ?_; dsimp only)); refine box_event ?hg (N := 6) ?hd (cs := #[.int .i64 0, .int .i64 0, .int .u64 0, .int .u64 0, .int .i64 0, .slice none 0 0, .int .i64 0]) (t := 75) ?hr ?_; (case hd => rfl); (case hg => rfl); (case hr => first | (go_simp; done) | (go_simp; rfl)); intro gb148 hg w6 hbox hb; have n0_ := Aside0.mk (blk_below (g := gb147) (o := .cells #[.slice A0_0 l0_0.length c0_0, .int .i64 a0_1, .int .i64 a0_2, .bool a0_3] 30 (0, 0)) (by (with_reducible repeat (first | refine blk_drewN ?_ _ | refine blk_drew ?_ | refine blk_alloc ?_ _)); exact BK147.out) hb); have n1_ := Aside0.mk (below_step (by repeat (first | (with_reducible first | exact HB.out | apply below_alloc | apply pw_below_drewN | apply below_drew1 | refine below_set ?_ GE147.out) | exact HB.out)) hb); have n2_ := Aside0.mk (hbox); have n3_ := Aside0.mk ((by rw [hg]; exact (below_size (by repeat (first | (with_reducible first | exact HB.out | apply below_alloc | apply pw_below_drewN | apply below_drew1 | refine below_set ?_ GE147.out) | exact HB.out))) : w.heap.size ≤ gb148)); have n4_ := Aside0.mk ((by rw [hg]; exact (below_size (by repeat (first | (with_reducible first | exact HB.out | apply below_alloc | apply pw_below_drewN | apply below_drew1 | refine below_set ?_ GE147.out) | exact HB.out))) : w.heap.size ≤ gb148)); have n5_ := Aside0.mk ((by rw [hg]; exact Nat.ne_of_lt (blk_lt (g := gb147) (o := .cells #[.slice A0_0 l0_0.length c0_0, .int .i64 a0_1, .int .i64 a0_2, .bool a0_3] 30 (0, 0)) (by (with_reducible repeat (first | refine blk_drewN ?_ _ | refine blk_drew ?_ | refine blk_alloc ?_ _)); exact BK147.out)) : gb147 ≠ gb148)); have n6_ := Aside0.mk ((by rw [hg]; exact Nat.ne_of_gt (blk_lt (g := gb147) (o := .cells #[.slice A0_0 l0_0.length c0_0, .int .i64 a0_1, .int .i64 a0_2, .bool a0_3] 30 (0, 0)) (by (with_reducible repeat (first | refine blk_drewN ?_ _ | refine blk_drew ?_ | refine blk_alloc ?_ _)); exact BK147.out)) : gb148 ≠ gb147)); clear BK147; clear HB; have BK147 := n0_; have HB := n1_; have BK148 := n2_; have GW148 := n3_; have GE148 := n4_; have NB147_148 := n5_; have NB148_147 := n6_; clear n0_ n1_ n2_ n3_ n4_ n5_ n6_; clear hb hbox hg))
  (try simp only [Act.put, List.setIfInBounds_toArray, List.set_cons_zero, List.set_cons_succ])
  go_cut [42] (fun v42 wc => ∃ (kq : Nat) (x42_3 : Bool), v42 = .bool x42_3 ∧ Aside0 (baileeref09_Open.j0 kq a1 a2 x42_3 l0_0 a0_1 a0_2 a0_3 = some (r1, r2, r3, r4, r5, r6, r7, r8)) ∧ Aside0 (kq ≤ k) ∧ Aside0 (wc.heap[gb147]? = some (.cells #[(.slice A0_0 l0_0.length c0_0), .int .i64 a0_1, .int .i64 a0_2, .bool a0_3] 30 (0, 0))) ∧ Aside0 (wc.heap[gb148]? = some (.cells #[.int .i64 0, .int .i64 0, .int .u64 0, .int .u64 0, .int .i64 0, (.slice none 0 0), .int .i64 0] 75 (0, 0))) ∧ Aside0 (Below w.heap.size w wc))
  case first =>
    have H := HC4.out
    clear HC4
    by_cases c7 : a1 < 0
    · rw [if_pos c7] at H
      have c7b0 : decide (a1 < 0) = true := decide_eq_true c7
      clear c7
      (first | rw [c7b0] | (simp only [i64_w, i32_w]; rw [c7b0]) | skip)
      have H' := Aside0.mk H
      clear H
      go_wp2
      go_meet
      case rel => exact ⟨_, (true), (by first | rfl | (simp; done) | (simp [*]; done)), H', ⟨by first | omega | exact Nat.le_refl _⟩, ⟨by (with_reducible repeat (first | refine blk_drewN ?_ _ | refine blk_drew ?_ | refine blk_alloc ?_ _)); exact BK147.out⟩, ⟨by (with_reducible repeat (first | refine blk_drewN ?_ _ | refine blk_drew ?_ | refine blk_alloc ?_ _)); exact BK148.out⟩, ⟨by repeat (first | (with_reducible first | exact HB.out | apply below_alloc | apply pw_below_drewN | apply below_drew1 | refine below_set ?_ GE147.out | refine below_set ?_ GE148.out) | exact HB.out)⟩⟩
    · rw [if_neg c7] at H
      have c7b0 : decide (a1 < 0) = false := decide_eq_false c7
      clear c7
      (first | rw [c7b0] | (simp only [i64_w, i32_w]; rw [c7b0]) | skip)
      by_cases c8 : a2 < 1
      · rw [if_pos c8] at H
        have c8b0 : decide (a2 < 1) = true := decide_eq_true c8
        clear c8
        have H' := Aside0.mk H
        clear H
        go_wp2
        go_meet
        case rel => exact ⟨_, (true), (by first | rfl | (simp; done) | (simp [*]; done)), H', ⟨by first | omega | exact Nat.le_refl _⟩, ⟨by (with_reducible repeat (first | refine blk_drewN ?_ _ | refine blk_drew ?_ | refine blk_alloc ?_ _)); exact BK147.out⟩, ⟨by (with_reducible repeat (first | refine blk_drewN ?_ _ | refine blk_drew ?_ | refine blk_alloc ?_ _)); exact BK148.out⟩, ⟨by repeat (first | (with_reducible first | exact HB.out | apply below_alloc | apply pw_below_drewN | apply below_drew1 | refine below_set ?_ GE147.out | refine below_set ?_ GE148.out) | exact HB.out)⟩⟩
      · rw [if_neg c8] at H
        have c8b0 : decide (a2 < 1) = false := decide_eq_false c8
        clear c8
        by_cases c9 : a1 > (l0_0.length : Int)
        · rw [if_pos c9] at H
          have c9b0 : decide ((l0_0.length : Int) < a1) = true := decide_eq_true c9
          clear c9
          have H' := Aside0.mk H
          clear H
          have hnb10 := NB147_148.out
          have hnc10 := NB148_147.out
          have hcz11_0 : w6.cell? ⟨gb147, 0, none⟩ = some (.slice A0_0 l0_0.length c0_0) := (blk_cell BK147.out 0).trans rfl
          have hcz11_1 : w6.cell? ⟨gb147, 1, none⟩ = some (.int .i64 a0_1) := (blk_cell BK147.out 1).trans rfl
          have hcz11_2 : w6.cell? ⟨gb147, 2, none⟩ = some (.int .i64 a0_2) := (blk_cell BK147.out 2).trans rfl
          have hcz11_3 : w6.cell? ⟨gb147, 3, none⟩ = some (.bool a0_3) := (blk_cell BK147.out 3).trans rfl
          have hfz11_0 := blk_frozen BK147.out 0
          have hfz11_1 := blk_frozen BK147.out 1
          have hfz11_2 := blk_frozen BK147.out 2
          have hfz11_3 := blk_frozen BK147.out 3
          go_wp2
          go_meet
          case rel => exact ⟨_, (true), (by first | rfl | (simp; done) | (simp [*]; done)), H', ⟨by first | omega | exact Nat.le_refl _⟩, ⟨by (with_reducible repeat (first | refine blk_drewN ?_ _ | refine blk_drew ?_ | refine blk_alloc ?_ _)); exact BK147.out⟩, ⟨by (with_reducible repeat (first | refine blk_drewN ?_ _ | refine blk_drew ?_ | refine blk_alloc ?_ _)); exact BK148.out⟩, ⟨by repeat (first | (with_reducible first | exact HB.out | apply below_alloc | apply pw_below_drewN | apply below_drew1 | refine below_set ?_ GE147.out | refine below_set ?_ GE148.out) | exact HB.out)⟩⟩
        · rw [if_neg c9] at H
          have c9b0 : decide ((l0_0.length : Int) < a1) = false := decide_eq_false c9
          clear c9
          have H' := Aside0.mk H
          clear H
          have hnb12 := NB147_148.out
          have hnc12 := NB148_147.out
          have hcz13_0 : w6.cell? ⟨gb147, 0, none⟩ = some (.slice A0_0 l0_0.length c0_0) := (blk_cell BK147.out 0).trans rfl
          have hcz13_1 : w6.cell? ⟨gb147, 1, none⟩ = some (.int .i64 a0_1) := (blk_cell BK147.out 1).trans rfl
          have hcz13_2 : w6.cell? ⟨gb147, 2, none⟩ = some (.int .i64 a0_2) := (blk_cell BK147.out 2).trans rfl
          have hcz13_3 : w6.cell? ⟨gb147, 3, none⟩ = some (.bool a0_3) := (blk_cell BK147.out 3).trans rfl
          have hfz13_0 := blk_frozen BK147.out 0
          have hfz13_1 := blk_frozen BK147.out 1
          have hfz13_2 := blk_frozen BK147.out 2
          have hfz13_3 := blk_frozen BK147.out 3
          go_wp2
          go_meet
          case rel => exact ⟨_, (decide (a2 > (wrap64 ((l0_0.length : Int) - a1)))), (by first | rfl | (simp; done) | (simp [*]; done)), H', ⟨by first | omega | exact Nat.le_refl _⟩, ⟨by (with_reducible repeat (first | refine blk_drewN ?_ _ | refine blk_drew ?_ | refine blk_alloc ?_ _)); exact BK147.out⟩, ⟨by (with_reducible repeat (first | refine blk_drewN ?_ _ | refine blk_drew ?_ | refine blk_alloc ?_ _)); exact BK148.out⟩, ⟨by repeat (first | (with_reducible first | exact HB.out | apply below_alloc | apply pw_below_drewN | apply below_drew1 | refine below_set ?_ GE147.out | refine below_set ?_ GE148.out) | exact HB.out)⟩⟩
  case rest =>
    clear HC4
    try clear c1
    try clear p2
    try clear c4
    try clear p6
    try clear c7
    try clear c7b0
    try clear c8
    try clear c8b0
    try clear c9
    try clear c9b0
    try clear c10
    try clear c12
    try clear hcz11_0
    try clear hcz11_1
    try clear hcz11_2
    try clear hcz11_3
    try clear hcz13_0
    try clear hcz13_1
    try clear hcz13_2
    try clear hcz13_3
    try clear hfz11_0
    try clear hfz11_1
    try clear hfz11_2
    try clear hfz11_3
    try clear hfz13_0
    try clear hfz13_1
    try clear hfz13_2
    try clear hfz13_3
    obtain ⟨kq, x42_3, rfl, HA, HJ3, BK147, BK148, HB⟩ := hcut
    cases kq with
    | zero => exact absurd HA.out (by simp [baileeref09_Open.j0])
    | succ kj3 =>
      have H := HA.out
      clear HA
      simp only [baileeref09_Open.j0] at H
      by_cases c14 : x42_3 = true
      · subst c14
        have H1 : (some (0, 0, 0, 0, 0, ([] : List ByteArray), 0, 1)) = some (r1, r2, r3, r4, r5, r6, r7, r8) := by rw [if_pos rfl] at H; exact H
        clear H
        have H := H1
        clear H1
        simp only [Option.some.injEq, Prod.mk.injEq] at H
        obtain ⟨rfl, rfl, rfl, rfl, rfl, rfl, rfl, rfl⟩ := H
        have hnb15 := NB148_147.out
        have hnc15 := NB147_148.out
        have hcz16_0 : wc.cell? ⟨gb148, 0, none⟩ = some (.int .i64 0) := (blk_cell BK148.out 0).trans rfl
        have hcz16_1 : wc.cell? ⟨gb148, 1, none⟩ = some (.int .i64 0) := (blk_cell BK148.out 1).trans rfl
        have hcz16_2 : wc.cell? ⟨gb148, 2, none⟩ = some (.int .u64 0) := (blk_cell BK148.out 2).trans rfl
        have hcz16_3 : wc.cell? ⟨gb148, 3, none⟩ = some (.int .u64 0) := (blk_cell BK148.out 3).trans rfl
        have hcz16_4 : wc.cell? ⟨gb148, 4, none⟩ = some (.int .i64 0) := (blk_cell BK148.out 4).trans rfl
        have hcz16_5 : wc.cell? ⟨gb148, 5, none⟩ = some (.slice none 0 0) := (blk_cell BK148.out 5).trans rfl
        have hcz16_6 : wc.cell? ⟨gb148, 6, none⟩ = some (.int .i64 0) := (blk_cell BK148.out 6).trans rfl
        have hfz16_0 := blk_frozen BK148.out 0
        have hfz16_1 := blk_frozen BK148.out 1
        have hfz16_2 := blk_frozen BK148.out 2
        have hfz16_3 := blk_frozen BK148.out 3
        have hfz16_4 := blk_frozen BK148.out 4
        have hfz16_5 := blk_frozen BK148.out 5
        have hfz16_6 := blk_frozen BK148.out 6
        go_wp2
        refine bodyPost_ret (results_ct rfl _ _ gb148 75 #[.int .i64 0, .int .i64 0, .int .u64 0, .int .u64 0, .int .i64 0, .slice none 0 0, .int .i64 0] (0, 0) _ rfl (by (with_reducible repeat (first | refine blk_drewN ?_ _ | refine blk_drew ?_ | refine blk_alloc ?_ _)); refine blk_put (cs := #[.int .i64 0, .int .i64 0, .int .u64 0, .int .u64 0, .int .i64 0, .slice none 0 0, .int .i64 0]) ?_ 6 _ rfl; (with_reducible repeat (first | refine blk_drewN ?_ _ | refine blk_drew ?_ | refine blk_alloc ?_ _)); refine blk_put (cs := #[.int .i64 0, .int .i64 0, .int .u64 0, .int .u64 0, .int .i64 0, .slice none 0 0, .int .i64 0]) ?_ 5 _ rfl; (with_reducible repeat (first | refine blk_drewN ?_ _ | refine blk_drew ?_ | refine blk_alloc ?_ _)); refine blk_put (cs := #[.int .i64 0, .int .i64 0, .int .u64 0, .int .u64 0, .int .i64 0, .slice none 0 0, .int .i64 0]) ?_ 4 _ rfl; (with_reducible repeat (first | refine blk_drewN ?_ _ | refine blk_drew ?_ | refine blk_alloc ?_ _)); refine blk_put (cs := #[.int .i64 0, .int .i64 0, .int .u64 0, .int .u64 0, .int .i64 0, .slice none 0 0, .int .i64 0]) ?_ 3 _ rfl; (with_reducible repeat (first | refine blk_drewN ?_ _ | refine blk_drew ?_ | refine blk_alloc ?_ _)); refine blk_put (cs := #[.int .i64 0, .int .i64 0, .int .u64 0, .int .u64 0, .int .i64 0, .slice none 0 0, .int .i64 0]) ?_ 2 _ rfl; (with_reducible repeat (first | refine blk_drewN ?_ _ | refine blk_drew ?_ | refine blk_alloc ?_ _)); refine blk_put (cs := #[.int .i64 0, .int .i64 0, .int .u64 0, .int .u64 0, .int .i64 0, .slice none 0 0, .int .i64 0]) ?_ 1 _ rfl; (with_reducible repeat (first | refine blk_drewN ?_ _ | refine blk_drew ?_ | refine blk_alloc ?_ _)); refine blk_put (cs := #[.int .i64 0, .int .i64 0, .int .u64 0, .int .u64 0, .int .i64 0, .slice none 0 0, .int .i64 0]) ?_ 0 _ rfl; (with_reducible repeat (first | refine blk_drewN ?_ _ | refine blk_drew ?_ | refine blk_alloc ?_ _)); exact BK148.out) Try.underlying75 rfl (by kernel_rfl)) rfl ?_
        exact ⟨_, by first | rfl | (simp [errW_none, errW_some] <;> rfl) | (simp [*, errW_none, errW_some] <;> rfl), by first | exact Kd.R_nil _ _ _ _ _ | exact Kd.N_nil _ _ _ _ _ | exact Kd.V_nil _ _ _ _ _ | exact Kd.Q_nil _ _ _ _ _ | exact Kd.S_nil _ _ _ _ _, by repeat (first | (with_reducible first | exact HB.out | apply below_alloc | apply pw_below_drewN | apply below_drew1 | refine below_set ?_ GE147.out | refine below_set ?_ GE148.out) | exact HB.out)⟩
      · replace c14 := Bool.eq_false_iff.mpr c14
        subst c14
        have H1 : (if a0_3 = true then (some (0, 0, 0, 0, 0, ([] : List ByteArray), 0, 30)) else (baileeref09_Open.l0 kj3 a1 a2 0 a1 l0_0 a0_1 a0_2 a0_3 a1 a2 0 0 0 0)) = some (r1, r2, r3, r4, r5, r6, r7, r8) := by rw [if_neg (show ¬ (false = true) by decide)] at H; exact H
        clear H
        have H := H1
        clear H1
        by_cases c17 : a0_3 = true
        · subst c17
          have H1 : (some (0, 0, 0, 0, 0, ([] : List ByteArray), 0, 30)) = some (r1, r2, r3, r4, r5, r6, r7, r8) := by rw [if_pos rfl] at H; exact H
          clear H
          have H := H1
          clear H1
          simp only [Option.some.injEq, Prod.mk.injEq] at H
          obtain ⟨rfl, rfl, rfl, rfl, rfl, rfl, rfl, rfl⟩ := H
          have hnb18 := NB147_148.out
          have hnc18 := NB148_147.out
          have hcz19_0 : wc.cell? ⟨gb147, 0, none⟩ = some (.slice A0_0 l0_0.length c0_0) := (blk_cell BK147.out 0).trans rfl
          have hcz19_1 : wc.cell? ⟨gb147, 1, none⟩ = some (.int .i64 a0_1) := (blk_cell BK147.out 1).trans rfl
          have hcz19_2 : wc.cell? ⟨gb147, 2, none⟩ = some (.int .i64 a0_2) := (blk_cell BK147.out 2).trans rfl
          have hcz19_3 : wc.cell? ⟨gb147, 3, none⟩ = some (.bool true) := (blk_cell BK147.out 3).trans rfl
          have hfz19_0 := blk_frozen BK147.out 0
          have hfz19_1 := blk_frozen BK147.out 1
          have hfz19_2 := blk_frozen BK147.out 2
          have hfz19_3 := blk_frozen BK147.out 3
          have hcz20_0 : wc.cell? ⟨gb148, 0, none⟩ = some (.int .i64 0) := (blk_cell BK148.out 0).trans rfl
          have hcz20_1 : wc.cell? ⟨gb148, 1, none⟩ = some (.int .i64 0) := (blk_cell BK148.out 1).trans rfl
          have hcz20_2 : wc.cell? ⟨gb148, 2, none⟩ = some (.int .u64 0) := (blk_cell BK148.out 2).trans rfl
          have hcz20_3 : wc.cell? ⟨gb148, 3, none⟩ = some (.int .u64 0) := (blk_cell BK148.out 3).trans rfl
          have hcz20_4 : wc.cell? ⟨gb148, 4, none⟩ = some (.int .i64 0) := (blk_cell BK148.out 4).trans rfl
          have hcz20_5 : wc.cell? ⟨gb148, 5, none⟩ = some (.slice none 0 0) := (blk_cell BK148.out 5).trans rfl
          have hcz20_6 : wc.cell? ⟨gb148, 6, none⟩ = some (.int .i64 0) := (blk_cell BK148.out 6).trans rfl
          have hfz20_0 := blk_frozen BK148.out 0
          have hfz20_1 := blk_frozen BK148.out 1
          have hfz20_2 := blk_frozen BK148.out 2
          have hfz20_3 := blk_frozen BK148.out 3
          have hfz20_4 := blk_frozen BK148.out 4
          have hfz20_5 := blk_frozen BK148.out 5
          have hfz20_6 := blk_frozen BK148.out 6
          go_wp2
          refine bodyPost_ret (results_ct rfl _ _ gb148 75 #[.int .i64 0, .int .i64 0, .int .u64 0, .int .u64 0, .int .i64 0, .slice none 0 0, .int .i64 0] (0, 0) _ rfl (by (with_reducible repeat (first | refine blk_drewN ?_ _ | refine blk_drew ?_ | refine blk_alloc ?_ _)); refine blk_put (cs := #[.int .i64 0, .int .i64 0, .int .u64 0, .int .u64 0, .int .i64 0, .slice none 0 0, .int .i64 0]) ?_ 6 _ rfl; (with_reducible repeat (first | refine blk_drewN ?_ _ | refine blk_drew ?_ | refine blk_alloc ?_ _)); refine blk_put (cs := #[.int .i64 0, .int .i64 0, .int .u64 0, .int .u64 0, .int .i64 0, .slice none 0 0, .int .i64 0]) ?_ 5 _ rfl; (with_reducible repeat (first | refine blk_drewN ?_ _ | refine blk_drew ?_ | refine blk_alloc ?_ _)); refine blk_put (cs := #[.int .i64 0, .int .i64 0, .int .u64 0, .int .u64 0, .int .i64 0, .slice none 0 0, .int .i64 0]) ?_ 4 _ rfl; (with_reducible repeat (first | refine blk_drewN ?_ _ | refine blk_drew ?_ | refine blk_alloc ?_ _)); refine blk_put (cs := #[.int .i64 0, .int .i64 0, .int .u64 0, .int .u64 0, .int .i64 0, .slice none 0 0, .int .i64 0]) ?_ 3 _ rfl; (with_reducible repeat (first | refine blk_drewN ?_ _ | refine blk_drew ?_ | refine blk_alloc ?_ _)); refine blk_put (cs := #[.int .i64 0, .int .i64 0, .int .u64 0, .int .u64 0, .int .i64 0, .slice none 0 0, .int .i64 0]) ?_ 2 _ rfl; (with_reducible repeat (first | refine blk_drewN ?_ _ | refine blk_drew ?_ | refine blk_alloc ?_ _)); refine blk_put (cs := #[.int .i64 0, .int .i64 0, .int .u64 0, .int .u64 0, .int .i64 0, .slice none 0 0, .int .i64 0]) ?_ 1 _ rfl; (with_reducible repeat (first | refine blk_drewN ?_ _ | refine blk_drew ?_ | refine blk_alloc ?_ _)); refine blk_put (cs := #[.int .i64 0, .int .i64 0, .int .u64 0, .int .u64 0, .int .i64 0, .slice none 0 0, .int .i64 0]) ?_ 0 _ rfl; (with_reducible repeat (first | refine blk_drewN ?_ _ | refine blk_drew ?_ | refine blk_alloc ?_ _)); exact BK148.out) Try.underlying75 rfl (by kernel_rfl)) rfl ?_
          exact ⟨_, by first | rfl | (simp [errW_none, errW_some] <;> rfl) | (simp [*, errW_none, errW_some] <;> rfl), by first | exact Kd.R_nil _ _ _ _ _ | exact Kd.N_nil _ _ _ _ _ | exact Kd.V_nil _ _ _ _ _ | exact Kd.Q_nil _ _ _ _ _ | exact Kd.S_nil _ _ _ _ _, by repeat (first | (with_reducible first | exact HB.out | apply below_alloc | apply pw_below_drewN | apply below_drew1 | refine below_set ?_ GE147.out | refine below_set ?_ GE148.out) | exact HB.out)⟩
        · replace c17 := Bool.eq_false_iff.mpr c17
          subst c17
          have H1 : (baileeref09_Open.l0 kj3 a1 a2 0 a1 l0_0 a0_1 a0_2 false a1 a2 0 0 0 0) = some (r1, r2, r3, r4, r5, r6, r7, r8) := by rw [if_neg (show ¬ (false = true) by decide)] at H; exact H
          clear H
          have H := H1
          clear H1
          have H' := Aside0.mk H
          clear H
          have hnb21 := NB147_148.out
          have hnc21 := NB148_147.out
          have hcz22_0 : wc.cell? ⟨gb147, 0, none⟩ = some (.slice A0_0 l0_0.length c0_0) := (blk_cell BK147.out 0).trans rfl
          have hcz22_1 : wc.cell? ⟨gb147, 1, none⟩ = some (.int .i64 a0_1) := (blk_cell BK147.out 1).trans rfl
          have hcz22_2 : wc.cell? ⟨gb147, 2, none⟩ = some (.int .i64 a0_2) := (blk_cell BK147.out 2).trans rfl
          have hcz22_3 : wc.cell? ⟨gb147, 3, none⟩ = some (.bool false) := (blk_cell BK147.out 3).trans rfl
          have hfz22_0 := blk_frozen BK147.out 0
          have hfz22_1 := blk_frozen BK147.out 1
          have hfz22_2 := blk_frozen BK147.out 2
          have hfz22_3 := blk_frozen BK147.out 3
          go_wp2_with (first | ((with_reducible refine gate_dst (N := 8) rfl ?_); (try (refine gate_guard (by rfl) ?_; dsimp only)); refine box_event ?hg (N := 8) ?hd (cs := #[.int .i64 0, .int .i64 0, .int .u64 0, .int .u64 0, .int .i64 0, .slice none 0 0, .int .i64 0]) (t := 75) ?hr ?_; (case hd => rfl); (case hg => rfl); (case hr => first | (go_simp; done) | (go_simp; rfl)); intro gb149 hg w23 hbox hb; have n0_ := Aside0.mk (blk_below (g := gb147) (o := .cells #[.slice A0_0 l0_0.length c0_0, .int .i64 a0_1, .int .i64 a0_2, .bool false] 30 (0, 0)) (by (with_reducible repeat (first | refine blk_drewN ?_ _ | refine blk_drew ?_ | refine blk_alloc ?_ _)); exact BK147.out) hb); have n1_ := Aside0.mk (blk_below (g := gb148) (o := .cells #[.int .i64 0, .int .i64 0, .int .u64 0, .int .u64 0, .int .i64 0, .slice none 0 0, .int .i64 0] 75 (0, 0)) (by (with_reducible repeat (first | refine blk_drewN ?_ _ | refine blk_drew ?_ | refine blk_alloc ?_ _)); exact BK148.out) hb); have n2_ := Aside0.mk (below_step (by repeat (first | (with_reducible first | exact HB.out | apply below_alloc | apply pw_below_drewN | apply below_drew1 | refine below_set ?_ GE147.out | refine below_set ?_ GE148.out) | exact HB.out)) hb); have n3_ := Aside0.mk (hbox); have n4_ := Aside0.mk ((by rw [hg]; exact (below_size (by repeat (first | (with_reducible first | exact HB.out | apply below_alloc | apply pw_below_drewN | apply below_drew1 | refine below_set ?_ GE147.out | refine below_set ?_ GE148.out) | exact HB.out))) : w.heap.size ≤ gb149)); have n5_ := Aside0.mk ((by rw [hg]; exact (below_size (by repeat (first | (with_reducible first | exact HB.out | apply below_alloc | apply pw_below_drewN | apply below_drew1 | refine below_set ?_ GE147.out | refine below_set ?_ GE148.out) | exact HB.out))) : w.heap.size ≤ gb149)); have n6_ := Aside0.mk ((by rw [hg]; exact Nat.ne_of_lt (blk_lt (g := gb147) (o := .cells #[.slice A0_0 l0_0.length c0_0, .int .i64 a0_1, .int .i64 a0_2, .bool false] 30 (0, 0)) (by (with_reducible repeat (first | refine blk_drewN ?_ _ | refine blk_drew ?_ | refine blk_alloc ?_ _)); exact BK147.out)) : gb147 ≠ gb149)); have n7_ := Aside0.mk ((by rw [hg]; exact Nat.ne_of_gt (blk_lt (g := gb147) (o := .cells #[.slice A0_0 l0_0.length c0_0, .int .i64 a0_1, .int .i64 a0_2, .bool false] 30 (0, 0)) (by (with_reducible repeat (first | refine blk_drewN ?_ _ | refine blk_drew ?_ | refine blk_alloc ?_ _)); exact BK147.out)) : gb149 ≠ gb147)); have n8_ := Aside0.mk ((by rw [hg]; exact Nat.ne_of_lt (blk_lt (g := gb148) (o := .cells #[.int .i64 0, .int .i64 0, .int .u64 0, .int .u64 0, .int .i64 0, .slice none 0 0, .int .i64 0] 75 (0, 0)) (by (with_reducible repeat (first | refine blk_drewN ?_ _ | refine blk_drew ?_ | refine blk_alloc ?_ _)); exact BK148.out)) : gb148 ≠ gb149)); have n9_ := Aside0.mk ((by rw [hg]; exact Nat.ne_of_gt (blk_lt (g := gb148) (o := .cells #[.int .i64 0, .int .i64 0, .int .u64 0, .int .u64 0, .int .i64 0, .slice none 0 0, .int .i64 0] 75 (0, 0)) (by (with_reducible repeat (first | refine blk_drewN ?_ _ | refine blk_drew ?_ | refine blk_alloc ?_ _)); exact BK148.out)) : gb149 ≠ gb148)); clear BK147; clear BK148; clear HB; have BK147 := n0_; have BK148 := n1_; have HB := n2_; have BK149 := n3_; have GW149 := n4_; have GE149 := n5_; have NB147_149 := n6_; have NB149_147 := n7_; have NB148_149 := n8_; have NB149_148 := n9_; clear n0_ n1_ n2_ n3_ n4_ n5_ n6_ n7_ n8_ n9_; clear hb hbox hg; have hnb24 := NB149_147.out; have hnc24 := NB147_149.out; have hnb25 := NB149_148.out; have hnc25 := NB148_149.out; have hcz26_0 : w23.cell? ⟨gb149, 0, none⟩ = some (.int .i64 0) := (blk_cell BK149.out 0).trans rfl; have hcz26_1 : w23.cell? ⟨gb149, 1, none⟩ = some (.int .i64 0) := (blk_cell BK149.out 1).trans rfl; have hcz26_2 : w23.cell? ⟨gb149, 2, none⟩ = some (.int .u64 0) := (blk_cell BK149.out 2).trans rfl; have hcz26_3 : w23.cell? ⟨gb149, 3, none⟩ = some (.int .u64 0) := (blk_cell BK149.out 3).trans rfl; have hcz26_4 : w23.cell? ⟨gb149, 4, none⟩ = some (.int .i64 0) := (blk_cell BK149.out 4).trans rfl; have hcz26_5 : w23.cell? ⟨gb149, 5, none⟩ = some (.slice none 0 0) := (blk_cell BK149.out 5).trans rfl; have hcz26_6 : w23.cell? ⟨gb149, 6, none⟩ = some (.int .i64 0) := (blk_cell BK149.out 6).trans rfl; have hfz26_0 := blk_frozen BK149.out 0; have hfz26_1 := blk_frozen BK149.out 1; have hfz26_2 := blk_frozen BK149.out 2; have hfz26_3 := blk_frozen BK149.out 3; have hfz26_4 := blk_frozen BK149.out 4; have hfz26_5 := blk_frozen BK149.out 5; have hfz26_6 := blk_frozen BK149.out 6))
          go_loopg [9, 10] kj3 (fun kq v9 v10 w' => ∃ (x9_2 : Int) (x10_2 : Int), v9 = .int .u64 x9_2 ∧ v10 = .int .i64 x10_2 ∧ Aside0 (baileeref09_Open.l0 kq a1 a2 x9_2 x10_2 l0_0 a0_1 a0_2 false a1 a2 0 0 0 0 = some (r1, r2, r3, r4, r5, r6, r7, r8)) ∧ Aside0 (kq ≤ kj3) ∧ Aside0 (w'.heap[gb147]? = some (.cells #[(.slice A0_0 l0_0.length c0_0), .int .i64 a0_1, .int .i64 a0_2, .bool false] 30 (0, 0))) ∧ Aside0 (w'.heap[gb148]? = some (.cells #[.int .i64 0, .int .i64 0, .int .u64 0, .int .u64 0, .int .i64 0, (.slice none 0 0), .int .i64 0] 75 (0, 0))) ∧ Aside0 (w'.heap[gb149]? = some (.cells #[.int .i64 a1, .int .i64 a2, .int .u64 0, .int .u64 0, .int .i64 0, (.slice none 0 0), .int .i64 0] 75 (0, 0))) ∧ Aside0 (Below w.heap.size w w'))
          case atStart => exact ⟨(0), (a1), (by first | rfl | (simp; done) | (simp [*]; done)), (by first | rfl | (simp; done) | (simp [*]; done)), H', ⟨Nat.le_refl _⟩, ⟨by (with_reducible repeat (first | refine blk_drewN ?_ _ | refine blk_drew ?_ | refine blk_alloc ?_ _)); refine blk_far ?_ NB147_149.out _; (with_reducible repeat (first | refine blk_drewN ?_ _ | refine blk_drew ?_ | refine blk_alloc ?_ _)); refine blk_far ?_ NB147_149.out _; (with_reducible repeat (first | refine blk_drewN ?_ _ | refine blk_drew ?_ | refine blk_alloc ?_ _)); refine blk_far ?_ NB147_149.out _; (with_reducible repeat (first | refine blk_drewN ?_ _ | refine blk_drew ?_ | refine blk_alloc ?_ _)); refine blk_far ?_ NB147_149.out _; (with_reducible repeat (first | refine blk_drewN ?_ _ | refine blk_drew ?_ | refine blk_alloc ?_ _)); refine blk_far ?_ NB147_149.out _; (with_reducible repeat (first | refine blk_drewN ?_ _ | refine blk_drew ?_ | refine blk_alloc ?_ _)); refine blk_far ?_ NB147_149.out _; (with_reducible repeat (first | refine blk_drewN ?_ _ | refine blk_drew ?_ | refine blk_alloc ?_ _)); refine blk_far ?_ NB147_149.out _; (with_reducible repeat (first | refine blk_drewN ?_ _ | refine blk_drew ?_ | refine blk_alloc ?_ _)); exact BK147.out⟩, ⟨by (with_reducible repeat (first | refine blk_drewN ?_ _ | refine blk_drew ?_ | refine blk_alloc ?_ _)); refine blk_far ?_ NB148_149.out _; (with_reducible repeat (first | refine blk_drewN ?_ _ | refine blk_drew ?_ | refine blk_alloc ?_ _)); refine blk_far ?_ NB148_149.out _; (with_reducible repeat (first | refine blk_drewN ?_ _ | refine blk_drew ?_ | refine blk_alloc ?_ _)); refine blk_far ?_ NB148_149.out _; (with_reducible repeat (first | refine blk_drewN ?_ _ | refine blk_drew ?_ | refine blk_alloc ?_ _)); refine blk_far ?_ NB148_149.out _; (with_reducible repeat (first | refine blk_drewN ?_ _ | refine blk_drew ?_ | refine blk_alloc ?_ _)); refine blk_far ?_ NB148_149.out _; (with_reducible repeat (first | refine blk_drewN ?_ _ | refine blk_drew ?_ | refine blk_alloc ?_ _)); refine blk_far ?_ NB148_149.out _; (with_reducible repeat (first | refine blk_drewN ?_ _ | refine blk_drew ?_ | refine blk_alloc ?_ _)); refine blk_far ?_ NB148_149.out _; (with_reducible repeat (first | refine blk_drewN ?_ _ | refine blk_drew ?_ | refine blk_alloc ?_ _)); exact BK148.out⟩, ⟨by (with_reducible repeat (first | refine blk_drewN ?_ _ | refine blk_drew ?_ | refine blk_alloc ?_ _)); refine blk_put (cs := #[.int .i64 a1, .int .i64 a2, .int .u64 0, .int .u64 0, .int .i64 0, .slice none 0 0, .int .i64 0]) ?_ 6 _ rfl; (with_reducible repeat (first | refine blk_drewN ?_ _ | refine blk_drew ?_ | refine blk_alloc ?_ _)); refine blk_put (cs := #[.int .i64 a1, .int .i64 a2, .int .u64 0, .int .u64 0, .int .i64 0, .slice none 0 0, .int .i64 0]) ?_ 5 _ rfl; (with_reducible repeat (first | refine blk_drewN ?_ _ | refine blk_drew ?_ | refine blk_alloc ?_ _)); refine blk_put (cs := #[.int .i64 a1, .int .i64 a2, .int .u64 0, .int .u64 0, .int .i64 0, .slice none 0 0, .int .i64 0]) ?_ 4 _ rfl; (with_reducible repeat (first | refine blk_drewN ?_ _ | refine blk_drew ?_ | refine blk_alloc ?_ _)); refine blk_put (cs := #[.int .i64 a1, .int .i64 a2, .int .u64 0, .int .u64 0, .int .i64 0, .slice none 0 0, .int .i64 0]) ?_ 3 _ rfl; (with_reducible repeat (first | refine blk_drewN ?_ _ | refine blk_drew ?_ | refine blk_alloc ?_ _)); refine blk_put (cs := #[.int .i64 a1, .int .i64 a2, .int .u64 0, .int .u64 0, .int .i64 0, .slice none 0 0, .int .i64 0]) ?_ 2 _ rfl; (with_reducible repeat (first | refine blk_drewN ?_ _ | refine blk_drew ?_ | refine blk_alloc ?_ _)); refine blk_put (cs := #[.int .i64 a1, .int .i64 0, .int .u64 0, .int .u64 0, .int .i64 0, .slice none 0 0, .int .i64 0]) ?_ 1 _ rfl; (with_reducible repeat (first | refine blk_drewN ?_ _ | refine blk_drew ?_ | refine blk_alloc ?_ _)); refine blk_put (cs := #[.int .i64 0, .int .i64 0, .int .u64 0, .int .u64 0, .int .i64 0, .slice none 0 0, .int .i64 0]) ?_ 0 _ rfl; (with_reducible repeat (first | refine blk_drewN ?_ _ | refine blk_drew ?_ | refine blk_alloc ?_ _)); exact BK149.out⟩, ⟨by repeat (first | (with_reducible first | exact HB.out | apply below_alloc | apply pw_below_drewN | apply below_drew1 | refine below_set ?_ GE147.out | refine below_set ?_ GE148.out | refine below_set ?_ GE149.out) | exact HB.out)⟩⟩
          case round =>
            clear H'
            try clear c1
            try clear c2
            try clear p2
            try clear c4
            try clear p6
            try clear c7
            try clear c7b0
            try clear c8
            try clear c8b0
            try clear c9
            try clear c9b0
            try clear c10
            try clear c12
            try clear c14
            try clear c15
            try clear c17
            try clear c18
            try clear c21
            try clear c24
            try clear c25
            try clear hcz11_0
            try clear hcz11_1
            try clear hcz11_2
            try clear hcz11_3
            try clear hcz13_0
            try clear hcz13_1
            try clear hcz13_2
            try clear hcz13_3
            try clear hcz16_0
            try clear hcz16_1
            try clear hcz16_2
            try clear hcz16_3
            try clear hcz16_4
            try clear hcz16_5
            try clear hcz16_6
            try clear hcz19_0
            try clear hcz19_1
            try clear hcz19_2
            try clear hcz19_3
            try clear hcz20_0
            try clear hcz20_1
            try clear hcz20_2
            try clear hcz20_3
            try clear hcz20_4
            try clear hcz20_5
            try clear hcz20_6
            try clear hcz22_0
            try clear hcz22_1
            try clear hcz22_2
            try clear hcz22_3
            try clear hcz26_0
            try clear hcz26_1
            try clear hcz26_2
            try clear hcz26_3
            try clear hcz26_4
            try clear hcz26_5
            try clear hcz26_6
            try clear hfz11_0
            try clear hfz11_1
            try clear hfz11_2
            try clear hfz11_3
            try clear hfz13_0
            try clear hfz13_1
            try clear hfz13_2
            try clear hfz13_3
            try clear hfz16_0
            try clear hfz16_1
            try clear hfz16_2
            try clear hfz16_3
            try clear hfz16_4
            try clear hfz16_5
            try clear hfz16_6
            try clear hfz19_0
            try clear hfz19_1
            try clear hfz19_2
            try clear hfz19_3
            try clear hfz20_0
            try clear hfz20_1
            try clear hfz20_2
            try clear hfz20_3
            try clear hfz20_4
            try clear hfz20_5
            try clear hfz20_6
            try clear hfz22_0
            try clear hfz22_1
            try clear hfz22_2
            try clear hfz22_3
            try clear hfz26_0
            try clear hfz26_1
            try clear hfz26_2
            try clear hfz26_3
            try clear hfz26_4
            try clear hfz26_5
            try clear hfz26_6
            try clear p2
            try clear p6
            obtain ⟨x9_2, x10_2, rfl, rfl, HA, HK2, BK147, BK148, BK149, HB⟩ := hrel
            cases gk with
            | zero => exact absurd HA.out (by simp [baileeref09_Open.l0])
            | succ k2 =>
              have H := HA.out
              clear HA
              simp only [baileeref09_Open.l0] at H
              by_cases c27 : x10_2 < (wrap64 (a1 + a2))
              · rw [if_pos c27] at H
                have c27b0 : decide (x10_2 < (wrap64 (a1 + a2))) = true := decide_eq_true c27
                clear c27
                by_cases c28 : 0 ≤ x10_2
                · rw [if_pos c28] at H
                  have c28b0 : decide (0 ≤ x10_2) = true := decide_eq_true c28
                  clear c28
                  by_cases c29 : x10_2 < (l0_0.length : Int)
                  · rw [if_pos c29] at H
                    have c29b0 : decide (x10_2 < (l0_0.length : Int)) = true := decide_eq_true c29
                    clear c29
                    by_cases c30 : 0 ≤ 8
                    · rw [if_pos c30] at H
                      have c30b0 := eq_true c30
                      have c30b1 : decide (0 ≤ 8) = true := decide_eq_true c30
                      clear c30
                      by_cases c31 : 8 ≤ ((rdOf ByteArray.empty l0_0 x10_2).size : Int)
                      · rw [if_pos c31] at H
                        have c31b0 := eq_true c31
                        have c31b1 : decide (8 ≤ ((rdOf ByteArray.empty l0_0 x10_2).size : Int)) = true := decide_eq_true c31
                        clear c31
                        replace H := Option.bind_eq_some_iff.mp H
                        obtain ⟨t151, A320, H⟩ := H
                        replace H : (if 120 ≤ ((rdOf ByteArray.empty l0_0 x10_2).size : Int) then ((baileeref09_Value.f k2 ((rdOf ByteArray.empty l0_0 x10_2).extract 120 (rdOf ByteArray.empty l0_0 x10_2).size)).bind fun t153 => (if t151 > x9_2 then (if t153 > t151 then (baileeref09_Open.l0 k2 a1 a2 t153 (wrap64 (x10_2 + 1)) l0_0 a0_1 a0_2 false a1 a2 0 0 0 0) else (baileeref09_Open.l0 k2 a1 a2 t151 (wrap64 (x10_2 + 1)) l0_0 a0_1 a0_2 false a1 a2 0 0 0 0)) else (if t153 > x9_2 then (baileeref09_Open.l0 k2 a1 a2 t153 (wrap64 (x10_2 + 1)) l0_0 a0_1 a0_2 false a1 a2 0 0 0 0) else (baileeref09_Open.l0 k2 a1 a2 x9_2 (wrap64 (x10_2 + 1)) l0_0 a0_1 a0_2 false a1 a2 0 0 0 0)))) else (none)) = some (r1, r2, r3, r4, r5, r6, r7, r8) := H
                        have A32 := Aside0.mk A320
                        clear A320
                        by_cases c33 : 120 ≤ ((rdOf ByteArray.empty l0_0 x10_2).size : Int)
                        · rw [if_pos c33] at H
                          have c33b0 := eq_true c33
                          have c33b1 : decide (120 ≤ ((rdOf ByteArray.empty l0_0 x10_2).size : Int)) = true := decide_eq_true c33
                          clear c33
                          replace H := Option.bind_eq_some_iff.mp H
                          obtain ⟨t153, A340, H⟩ := H
                          replace H : (if t151 > x9_2 then (if t153 > t151 then (baileeref09_Open.l0 k2 a1 a2 t153 (wrap64 (x10_2 + 1)) l0_0 a0_1 a0_2 false a1 a2 0 0 0 0) else (baileeref09_Open.l0 k2 a1 a2 t151 (wrap64 (x10_2 + 1)) l0_0 a0_1 a0_2 false a1 a2 0 0 0 0)) else (if t153 > x9_2 then (baileeref09_Open.l0 k2 a1 a2 t153 (wrap64 (x10_2 + 1)) l0_0 a0_1 a0_2 false a1 a2 0 0 0 0) else (baileeref09_Open.l0 k2 a1 a2 x9_2 (wrap64 (x10_2 + 1)) l0_0 a0_1 a0_2 false a1 a2 0 0 0 0))) = some (r1, r2, r3, r4, r5, r6, r7, r8) := H
                          have A34 := Aside0.mk A340
                          clear A340
                          by_cases c35 : t151 > x9_2
                          · rw [if_pos c35] at H
                            have c35b0 : decide (x9_2 < t151) = true := decide_eq_true c35
                            clear c35
                            by_cases c36 : t153 > t151
                            · rw [if_pos c36] at H
                              have c36b0 : decide (t151 < t153) = true := decide_eq_true c36
                              clear c36
                              have H' := Aside0.mk H
                              clear H
                              have hnb37 := NB147_148.out
                              have hnc37 := NB148_147.out
                              have hnb38 := NB147_149.out
                              have hnc38 := NB149_147.out
                              have hcz39_0 : wr.cell? ⟨gb147, 0, none⟩ = some (.slice A0_0 l0_0.length c0_0) := (blk_cell BK147.out 0).trans rfl
                              have hcz39_1 : wr.cell? ⟨gb147, 1, none⟩ = some (.int .i64 a0_1) := (blk_cell BK147.out 1).trans rfl
                              have hcz39_2 : wr.cell? ⟨gb147, 2, none⟩ = some (.int .i64 a0_2) := (blk_cell BK147.out 2).trans rfl
                              have hcz39_3 : wr.cell? ⟨gb147, 3, none⟩ = some (.bool false) := (blk_cell BK147.out 3).trans rfl
                              have hfz39_0 := blk_frozen BK147.out 0
                              have hfz39_1 := blk_frozen BK147.out 1
                              have hfz39_2 := blk_frozen BK147.out 2
                              have hfz39_3 := blk_frozen BK147.out 3
                              have p150 : 0 ≤ (x10_2 : Int) := of_decide_eq_true (by first | (with_reducible assumption) | assumption)
                              have q150 : x10_2 < (l0_0.length : Int) := of_decide_eq_true (by first | (with_reducible assumption) | assumption)
                              obtain ⟨ad150, e150, hx150_0⟩ := Kd.at_string HR0_0.out x10_2 p150 q150
                              cases e150
                              replace hx150_0 := (HB.out.cell (World.block_lt_of_cell? w _ hx150_0)).trans hx150_0
                              replace p150 := eq_true p150
                              replace q150 := eq_true q150
                              go_wp2_with (first | ((with_reducible refine gate_callee (f := 55) rfl ?_); refine goesL_ (some 64) rfl rfl Try.func55 (by kernel_rfl) rfl #[.string ((rdOf ByteArray.empty l0_0 x10_2).extract 0 8)] rfl (by (try simp only [List.map_toArray, List.map_cons, List.map_nil]); first | done | rfl | (simp only [List.length_drop, List.length_take]; rfl)) ?_; (with_reducible refine (baileeref09_Value.calls k2 ((rdOf ByteArray.empty l0_0 x10_2).extract 0 8) t151 _ A32.out).mono ?_); rintro e w' ⟨rfl, ⟨nd, rfl⟩⟩; refine ⟨_, rfl, ?_⟩; have p152 : 0 ≤ (x10_2 : Int) := of_decide_eq_true (by first | (with_reducible assumption) | assumption); have q152 : x10_2 < (l0_0.length : Int) := of_decide_eq_true (by first | (with_reducible assumption) | assumption); obtain ⟨ad152, e152, hx152_0⟩ := Kd.at_string HR0_0.out x10_2 p152 q152; obtain rfl : ad150 = ad152 := (by injection e152); replace hx152_0 := (HB.out.cell (World.block_lt_of_cell? w _ hx152_0)).trans hx152_0; replace p152 := eq_true p152; replace q152 := eq_true q152) | ((with_reducible refine gate_callee (f := 55) rfl ?_); refine goesL_ (some 71) rfl rfl Try.func55 (by kernel_rfl) rfl #[.string ((rdOf ByteArray.empty l0_0 x10_2).extract 120 (rdOf ByteArray.empty l0_0 x10_2).size)] rfl (by (try simp only [List.map_toArray, List.map_cons, List.map_nil]); first | done | rfl | (simp only [List.length_drop, List.length_take]; rfl)) ?_; (with_reducible refine (baileeref09_Value.calls k2 ((rdOf ByteArray.empty l0_0 x10_2).extract 120 (rdOf ByteArray.empty l0_0 x10_2).size) t153 _ A34.out).mono ?_); rintro e w' ⟨rfl, ⟨nd, rfl⟩⟩; refine ⟨_, rfl, ?_⟩))
                              go_roundg k2
                              case measure => have := HJ3.out; have := HK2.out; omega
                              case rel => exact ⟨(t153), (wrap64 (x10_2 + 1)), (by first | rfl | (simp; done) | (simp [*]; done)), (by first | rfl | (simp; done) | (simp [*]; done)), H', ⟨by have := HJ3.out; have := HK2.out; omega⟩, ⟨by (with_reducible repeat (first | refine blk_drewN ?_ _ | refine blk_drew ?_ | refine blk_alloc ?_ _)); exact BK147.out⟩, ⟨by (with_reducible repeat (first | refine blk_drewN ?_ _ | refine blk_drew ?_ | refine blk_alloc ?_ _)); exact BK148.out⟩, ⟨by (with_reducible repeat (first | refine blk_drewN ?_ _ | refine blk_drew ?_ | refine blk_alloc ?_ _)); exact BK149.out⟩, ⟨by repeat (first | (with_reducible first | exact HB.out | apply below_alloc | apply pw_below_drewN | apply below_drew1 | refine below_set ?_ GE147.out | refine below_set ?_ GE148.out | refine below_set ?_ GE149.out) | exact HB.out)⟩⟩
                            · rw [if_neg c36] at H
                              have c36b0 : decide (t151 < t153) = false := decide_eq_false c36
                              clear c36
                              have H' := Aside0.mk H
                              clear H
                              have hnb40 := NB147_148.out
                              have hnc40 := NB148_147.out
                              have hnb41 := NB147_149.out
                              have hnc41 := NB149_147.out
                              have hcz42_0 : wr.cell? ⟨gb147, 0, none⟩ = some (.slice A0_0 l0_0.length c0_0) := (blk_cell BK147.out 0).trans rfl
                              have hcz42_1 : wr.cell? ⟨gb147, 1, none⟩ = some (.int .i64 a0_1) := (blk_cell BK147.out 1).trans rfl
                              have hcz42_2 : wr.cell? ⟨gb147, 2, none⟩ = some (.int .i64 a0_2) := (blk_cell BK147.out 2).trans rfl
                              have hcz42_3 : wr.cell? ⟨gb147, 3, none⟩ = some (.bool false) := (blk_cell BK147.out 3).trans rfl
                              have hfz42_0 := blk_frozen BK147.out 0
                              have hfz42_1 := blk_frozen BK147.out 1
                              have hfz42_2 := blk_frozen BK147.out 2
                              have hfz42_3 := blk_frozen BK147.out 3
                              have p150 : 0 ≤ (x10_2 : Int) := of_decide_eq_true (by first | (with_reducible assumption) | assumption)
                              have q150 : x10_2 < (l0_0.length : Int) := of_decide_eq_true (by first | (with_reducible assumption) | assumption)
                              obtain ⟨ad150, e150, hx150_0⟩ := Kd.at_string HR0_0.out x10_2 p150 q150
                              cases e150
                              replace hx150_0 := (HB.out.cell (World.block_lt_of_cell? w _ hx150_0)).trans hx150_0
                              replace p150 := eq_true p150
                              replace q150 := eq_true q150
                              go_wp2_with (first | ((with_reducible refine gate_callee (f := 55) rfl ?_); refine goesL_ (some 64) rfl rfl Try.func55 (by kernel_rfl) rfl #[.string ((rdOf ByteArray.empty l0_0 x10_2).extract 0 8)] rfl (by (try simp only [List.map_toArray, List.map_cons, List.map_nil]); first | done | rfl | (simp only [List.length_drop, List.length_take]; rfl)) ?_; (with_reducible refine (baileeref09_Value.calls k2 ((rdOf ByteArray.empty l0_0 x10_2).extract 0 8) t151 _ A32.out).mono ?_); rintro e w' ⟨rfl, ⟨nd, rfl⟩⟩; refine ⟨_, rfl, ?_⟩; have p152 : 0 ≤ (x10_2 : Int) := of_decide_eq_true (by first | (with_reducible assumption) | assumption); have q152 : x10_2 < (l0_0.length : Int) := of_decide_eq_true (by first | (with_reducible assumption) | assumption); obtain ⟨ad152, e152, hx152_0⟩ := Kd.at_string HR0_0.out x10_2 p152 q152; obtain rfl : ad150 = ad152 := (by injection e152); replace hx152_0 := (HB.out.cell (World.block_lt_of_cell? w _ hx152_0)).trans hx152_0; replace p152 := eq_true p152; replace q152 := eq_true q152) | ((with_reducible refine gate_callee (f := 55) rfl ?_); refine goesL_ (some 71) rfl rfl Try.func55 (by kernel_rfl) rfl #[.string ((rdOf ByteArray.empty l0_0 x10_2).extract 120 (rdOf ByteArray.empty l0_0 x10_2).size)] rfl (by (try simp only [List.map_toArray, List.map_cons, List.map_nil]); first | done | rfl | (simp only [List.length_drop, List.length_take]; rfl)) ?_; (with_reducible refine (baileeref09_Value.calls k2 ((rdOf ByteArray.empty l0_0 x10_2).extract 120 (rdOf ByteArray.empty l0_0 x10_2).size) t153 _ A34.out).mono ?_); rintro e w' ⟨rfl, ⟨nd, rfl⟩⟩; refine ⟨_, rfl, ?_⟩))
                              go_roundg k2
                              case measure => have := HJ3.out; have := HK2.out; omega
                              case rel => exact ⟨(t151), (wrap64 (x10_2 + 1)), (by first | rfl | (simp; done) | (simp [*]; done)), (by first | rfl | (simp; done) | (simp [*]; done)), H', ⟨by have := HJ3.out; have := HK2.out; omega⟩, ⟨by (with_reducible repeat (first | refine blk_drewN ?_ _ | refine blk_drew ?_ | refine blk_alloc ?_ _)); exact BK147.out⟩, ⟨by (with_reducible repeat (first | refine blk_drewN ?_ _ | refine blk_drew ?_ | refine blk_alloc ?_ _)); exact BK148.out⟩, ⟨by (with_reducible repeat (first | refine blk_drewN ?_ _ | refine blk_drew ?_ | refine blk_alloc ?_ _)); exact BK149.out⟩, ⟨by repeat (first | (with_reducible first | exact HB.out | apply below_alloc | apply pw_below_drewN | apply below_drew1 | refine below_set ?_ GE147.out | refine below_set ?_ GE148.out | refine below_set ?_ GE149.out) | exact HB.out)⟩⟩
                          · rw [if_neg c35] at H
                            have c35b0 : decide (x9_2 < t151) = false := decide_eq_false c35
                            clear c35
                            by_cases c43 : t153 > x9_2
                            · rw [if_pos c43] at H
                              have c43b0 : decide (x9_2 < t153) = true := decide_eq_true c43
                              clear c43
                              have H' := Aside0.mk H
                              clear H
                              have hnb44 := NB147_148.out
                              have hnc44 := NB148_147.out
                              have hnb45 := NB147_149.out
                              have hnc45 := NB149_147.out
                              have hcz46_0 : wr.cell? ⟨gb147, 0, none⟩ = some (.slice A0_0 l0_0.length c0_0) := (blk_cell BK147.out 0).trans rfl
                              have hcz46_1 : wr.cell? ⟨gb147, 1, none⟩ = some (.int .i64 a0_1) := (blk_cell BK147.out 1).trans rfl
                              have hcz46_2 : wr.cell? ⟨gb147, 2, none⟩ = some (.int .i64 a0_2) := (blk_cell BK147.out 2).trans rfl
                              have hcz46_3 : wr.cell? ⟨gb147, 3, none⟩ = some (.bool false) := (blk_cell BK147.out 3).trans rfl
                              have hfz46_0 := blk_frozen BK147.out 0
                              have hfz46_1 := blk_frozen BK147.out 1
                              have hfz46_2 := blk_frozen BK147.out 2
                              have hfz46_3 := blk_frozen BK147.out 3
                              have p150 : 0 ≤ (x10_2 : Int) := of_decide_eq_true (by first | (with_reducible assumption) | assumption)
                              have q150 : x10_2 < (l0_0.length : Int) := of_decide_eq_true (by first | (with_reducible assumption) | assumption)
                              obtain ⟨ad150, e150, hx150_0⟩ := Kd.at_string HR0_0.out x10_2 p150 q150
                              cases e150
                              replace hx150_0 := (HB.out.cell (World.block_lt_of_cell? w _ hx150_0)).trans hx150_0
                              replace p150 := eq_true p150
                              replace q150 := eq_true q150
                              go_wp2_with (first | ((with_reducible refine gate_callee (f := 55) rfl ?_); refine goesL_ (some 64) rfl rfl Try.func55 (by kernel_rfl) rfl #[.string ((rdOf ByteArray.empty l0_0 x10_2).extract 0 8)] rfl (by (try simp only [List.map_toArray, List.map_cons, List.map_nil]); first | done | rfl | (simp only [List.length_drop, List.length_take]; rfl)) ?_; (with_reducible refine (baileeref09_Value.calls k2 ((rdOf ByteArray.empty l0_0 x10_2).extract 0 8) t151 _ A32.out).mono ?_); rintro e w' ⟨rfl, ⟨nd, rfl⟩⟩; refine ⟨_, rfl, ?_⟩; have p152 : 0 ≤ (x10_2 : Int) := of_decide_eq_true (by first | (with_reducible assumption) | assumption); have q152 : x10_2 < (l0_0.length : Int) := of_decide_eq_true (by first | (with_reducible assumption) | assumption); obtain ⟨ad152, e152, hx152_0⟩ := Kd.at_string HR0_0.out x10_2 p152 q152; obtain rfl : ad150 = ad152 := (by injection e152); replace hx152_0 := (HB.out.cell (World.block_lt_of_cell? w _ hx152_0)).trans hx152_0; replace p152 := eq_true p152; replace q152 := eq_true q152) | ((with_reducible refine gate_callee (f := 55) rfl ?_); refine goesL_ (some 71) rfl rfl Try.func55 (by kernel_rfl) rfl #[.string ((rdOf ByteArray.empty l0_0 x10_2).extract 120 (rdOf ByteArray.empty l0_0 x10_2).size)] rfl (by (try simp only [List.map_toArray, List.map_cons, List.map_nil]); first | done | rfl | (simp only [List.length_drop, List.length_take]; rfl)) ?_; (with_reducible refine (baileeref09_Value.calls k2 ((rdOf ByteArray.empty l0_0 x10_2).extract 120 (rdOf ByteArray.empty l0_0 x10_2).size) t153 _ A34.out).mono ?_); rintro e w' ⟨rfl, ⟨nd, rfl⟩⟩; refine ⟨_, rfl, ?_⟩))
                              go_roundg k2
                              case measure => have := HJ3.out; have := HK2.out; omega
                              case rel => exact ⟨(t153), (wrap64 (x10_2 + 1)), (by first | rfl | (simp; done) | (simp [*]; done)), (by first | rfl | (simp; done) | (simp [*]; done)), H', ⟨by have := HJ3.out; have := HK2.out; omega⟩, ⟨by (with_reducible repeat (first | refine blk_drewN ?_ _ | refine blk_drew ?_ | refine blk_alloc ?_ _)); exact BK147.out⟩, ⟨by (with_reducible repeat (first | refine blk_drewN ?_ _ | refine blk_drew ?_ | refine blk_alloc ?_ _)); exact BK148.out⟩, ⟨by (with_reducible repeat (first | refine blk_drewN ?_ _ | refine blk_drew ?_ | refine blk_alloc ?_ _)); exact BK149.out⟩, ⟨by repeat (first | (with_reducible first | exact HB.out | apply below_alloc | apply pw_below_drewN | apply below_drew1 | refine below_set ?_ GE147.out | refine below_set ?_ GE148.out | refine below_set ?_ GE149.out) | exact HB.out)⟩⟩
                            · rw [if_neg c43] at H
                              have c43b0 : decide (x9_2 < t153) = false := decide_eq_false c43
                              clear c43
                              have H' := Aside0.mk H
                              clear H
                              have hnb47 := NB147_148.out
                              have hnc47 := NB148_147.out
                              have hnb48 := NB147_149.out
                              have hnc48 := NB149_147.out
                              have hcz49_0 : wr.cell? ⟨gb147, 0, none⟩ = some (.slice A0_0 l0_0.length c0_0) := (blk_cell BK147.out 0).trans rfl
                              have hcz49_1 : wr.cell? ⟨gb147, 1, none⟩ = some (.int .i64 a0_1) := (blk_cell BK147.out 1).trans rfl
                              have hcz49_2 : wr.cell? ⟨gb147, 2, none⟩ = some (.int .i64 a0_2) := (blk_cell BK147.out 2).trans rfl
                              have hcz49_3 : wr.cell? ⟨gb147, 3, none⟩ = some (.bool false) := (blk_cell BK147.out 3).trans rfl
                              have hfz49_0 := blk_frozen BK147.out 0
                              have hfz49_1 := blk_frozen BK147.out 1
                              have hfz49_2 := blk_frozen BK147.out 2
                              have hfz49_3 := blk_frozen BK147.out 3
                              have p150 : 0 ≤ (x10_2 : Int) := of_decide_eq_true (by first | (with_reducible assumption) | assumption)
                              have q150 : x10_2 < (l0_0.length : Int) := of_decide_eq_true (by first | (with_reducible assumption) | assumption)
                              obtain ⟨ad150, e150, hx150_0⟩ := Kd.at_string HR0_0.out x10_2 p150 q150
                              cases e150
                              replace hx150_0 := (HB.out.cell (World.block_lt_of_cell? w _ hx150_0)).trans hx150_0
                              replace p150 := eq_true p150
                              replace q150 := eq_true q150
                              go_wp2_with (first | ((with_reducible refine gate_callee (f := 55) rfl ?_); refine goesL_ (some 64) rfl rfl Try.func55 (by kernel_rfl) rfl #[.string ((rdOf ByteArray.empty l0_0 x10_2).extract 0 8)] rfl (by (try simp only [List.map_toArray, List.map_cons, List.map_nil]); first | done | rfl | (simp only [List.length_drop, List.length_take]; rfl)) ?_; (with_reducible refine (baileeref09_Value.calls k2 ((rdOf ByteArray.empty l0_0 x10_2).extract 0 8) t151 _ A32.out).mono ?_); rintro e w' ⟨rfl, ⟨nd, rfl⟩⟩; refine ⟨_, rfl, ?_⟩; have p152 : 0 ≤ (x10_2 : Int) := of_decide_eq_true (by first | (with_reducible assumption) | assumption); have q152 : x10_2 < (l0_0.length : Int) := of_decide_eq_true (by first | (with_reducible assumption) | assumption); obtain ⟨ad152, e152, hx152_0⟩ := Kd.at_string HR0_0.out x10_2 p152 q152; obtain rfl : ad150 = ad152 := (by injection e152); replace hx152_0 := (HB.out.cell (World.block_lt_of_cell? w _ hx152_0)).trans hx152_0; replace p152 := eq_true p152; replace q152 := eq_true q152) | ((with_reducible refine gate_callee (f := 55) rfl ?_); refine goesL_ (some 71) rfl rfl Try.func55 (by kernel_rfl) rfl #[.string ((rdOf ByteArray.empty l0_0 x10_2).extract 120 (rdOf ByteArray.empty l0_0 x10_2).size)] rfl (by (try simp only [List.map_toArray, List.map_cons, List.map_nil]); first | done | rfl | (simp only [List.length_drop, List.length_take]; rfl)) ?_; (with_reducible refine (baileeref09_Value.calls k2 ((rdOf ByteArray.empty l0_0 x10_2).extract 120 (rdOf ByteArray.empty l0_0 x10_2).size) t153 _ A34.out).mono ?_); rintro e w' ⟨rfl, ⟨nd, rfl⟩⟩; refine ⟨_, rfl, ?_⟩))
                              go_roundg k2
                              case measure => have := HJ3.out; have := HK2.out; omega
                              case rel => exact ⟨(x9_2), (wrap64 (x10_2 + 1)), (by first | rfl | (simp; done) | (simp [*]; done)), (by first | rfl | (simp; done) | (simp [*]; done)), H', ⟨by have := HJ3.out; have := HK2.out; omega⟩, ⟨by (with_reducible repeat (first | refine blk_drewN ?_ _ | refine blk_drew ?_ | refine blk_alloc ?_ _)); exact BK147.out⟩, ⟨by (with_reducible repeat (first | refine blk_drewN ?_ _ | refine blk_drew ?_ | refine blk_alloc ?_ _)); exact BK148.out⟩, ⟨by (with_reducible repeat (first | refine blk_drewN ?_ _ | refine blk_drew ?_ | refine blk_alloc ?_ _)); exact BK149.out⟩, ⟨by repeat (first | (with_reducible first | exact HB.out | apply below_alloc | apply pw_below_drewN | apply below_drew1 | refine below_set ?_ GE147.out | refine below_set ?_ GE148.out | refine below_set ?_ GE149.out) | exact HB.out)⟩⟩
                        · rw [if_neg c33] at H
                          exact absurd H (by simp)
                      · rw [if_neg c31] at H
                        exact absurd H (by simp)
                    · rw [if_neg c30] at H
                      exact absurd H (by simp)
                  · rw [if_neg c29] at H
                    exact absurd H (by simp)
                · rw [if_neg c28] at H
                  exact absurd H (by simp)
              · rw [if_neg c27] at H
                have c27b0 : decide (x10_2 < (wrap64 (a1 + a2))) = false := decide_eq_false c27
                clear c27
                have H' := Aside0.mk H
                clear H
                have hnb50 := NB149_147.out
                have hnc50 := NB147_149.out
                have hnb51 := NB149_148.out
                have hnc51 := NB148_149.out
                have hcz52_0 : wr.cell? ⟨gb149, 0, none⟩ = some (.int .i64 a1) := (blk_cell BK149.out 0).trans rfl
                have hcz52_1 : wr.cell? ⟨gb149, 1, none⟩ = some (.int .i64 a2) := (blk_cell BK149.out 1).trans rfl
                have hcz52_2 : wr.cell? ⟨gb149, 2, none⟩ = some (.int .u64 0) := (blk_cell BK149.out 2).trans rfl
                have hcz52_3 : wr.cell? ⟨gb149, 3, none⟩ = some (.int .u64 0) := (blk_cell BK149.out 3).trans rfl
                have hcz52_4 : wr.cell? ⟨gb149, 4, none⟩ = some (.int .i64 0) := (blk_cell BK149.out 4).trans rfl
                have hcz52_5 : wr.cell? ⟨gb149, 5, none⟩ = some (.slice none 0 0) := (blk_cell BK149.out 5).trans rfl
                have hcz52_6 : wr.cell? ⟨gb149, 6, none⟩ = some (.int .i64 0) := (blk_cell BK149.out 6).trans rfl
                have hfz52_0 := blk_frozen BK149.out 0
                have hfz52_1 := blk_frozen BK149.out 1
                have hfz52_2 := blk_frozen BK149.out 2
                have hfz52_3 := blk_frozen BK149.out 3
                have hfz52_4 := blk_frozen BK149.out 4
                have hfz52_5 := blk_frozen BK149.out 5
                have hfz52_6 := blk_frozen BK149.out 6
                go_wp2
                go_loopg [13, 14, 15, 16, 17] k2 (fun kq v13 v14 v15 v16 v17 w' => ∃ (x13_3 : ByteArray) (x14_3 : Bool) (x15_3 : Int) (x16_3 : Int) (x17_3 : Int) (x149000_3 : Int) (x149001_3 : Int) (x149002_3 : Int) (x149003_3 : Int) (x149004_3 : Int) (x149006_3 : Int) (x150002_3 : Int) (x150004_3 : Int) (x150005_3 : List ByteArray) (u150005 : Value), v13 = .string x13_3 ∧ v14 = .bool x14_3 ∧ v15 = .int .u64 x15_3 ∧ v16 = .int .u64 x16_3 ∧ v17 = .int .i64 x17_3 ∧ Aside0 (baileeref09_Open.l1 kq a1 a2 x13_3 x14_3 x15_3 x16_3 x17_3 l0_0 a0_1 a0_2 false a1 a2 x150002_3 (IntKind.u64.wrap (x9_2 + 1)) x150004_3 x150005_3 0 = some (r1, r2, r3, r4, r5, r6, r7, r8)) ∧ Aside0 (kq ≤ k2) ∧ Aside0 (Kd.R Kd.string 9 w' w.heap.size (fun _ => True) u150005 x150005_3) ∧ Aside0 (w'.heap[gb147]? = some (.cells #[(.slice A0_0 l0_0.length c0_0), .int .i64 a0_1, .int .i64 a0_2, .bool false] 30 (0, 0))) ∧ Aside0 (w'.heap[gb148]? = some (.cells #[.int .i64 x149000_3, .int .i64 x149001_3, .int .u64 x149002_3, .int .u64 x149003_3, .int .i64 x149004_3, (.slice none 0 0), .int .i64 x149006_3] 75 (0, 0))) ∧ Aside0 (w'.heap[gb149]? = some (.cells #[.int .i64 a1, .int .i64 a2, .int .u64 x150002_3, .int .u64 (IntKind.u64.wrap (x9_2 + 1)), .int .i64 x150004_3, u150005, .int .i64 0] 75 (0, 0))) ∧ Aside0 (Below w.heap.size w w'))
                case atStart => exact ⟨((⟨#[]⟩ : ByteArray)), (false), (0), (0), (0), (0), (0), (0), (0), (0), (0), (0), (0), (([] : List ByteArray)), (.slice none 0 0), (by first | rfl | (simp; done) | (simp [*]; done)), (by first | rfl | (simp; done) | (simp [*]; done)), (by first | rfl | (simp; done) | (simp [*]; done)), (by first | rfl | (simp; done) | (simp [*]; done)), (by first | rfl | (simp; done) | (simp [*]; done)), H', ⟨Nat.le_refl _⟩, ⟨by first | exact Kd.R_nil _ _ _ _ _ | exact Kd.N_nil _ _ _ _ _ | exact Kd.V_nil _ _ _ _ _ | exact Kd.Q_nil _ _ _ _ _ | exact Kd.S_nil _ _ _ _ _⟩, ⟨by (with_reducible repeat (first | refine blk_drewN ?_ _ | refine blk_drew ?_ | refine blk_alloc ?_ _)); refine blk_far ?_ NB147_149.out _; (with_reducible repeat (first | refine blk_drewN ?_ _ | refine blk_drew ?_ | refine blk_alloc ?_ _)); exact BK147.out⟩, ⟨by (with_reducible repeat (first | refine blk_drewN ?_ _ | refine blk_drew ?_ | refine blk_alloc ?_ _)); refine blk_far ?_ NB148_149.out _; (with_reducible repeat (first | refine blk_drewN ?_ _ | refine blk_drew ?_ | refine blk_alloc ?_ _)); exact BK148.out⟩, ⟨by (with_reducible repeat (first | refine blk_drewN ?_ _ | refine blk_drew ?_ | refine blk_alloc ?_ _)); refine blk_put (cs := #[.int .i64 a1, .int .i64 a2, .int .u64 0, .int .u64 0, .int .i64 0, .slice none 0 0, .int .i64 0]) ?_ 3 _ rfl; (with_reducible repeat (first | refine blk_drewN ?_ _ | refine blk_drew ?_ | refine blk_alloc ?_ _)); exact BK149.out⟩, ⟨by repeat (first | (with_reducible first | exact HB.out | apply below_alloc | apply pw_below_drewN | apply below_drew1 | refine below_set ?_ GE147.out | refine below_set ?_ GE148.out | refine below_set ?_ GE149.out) | exact HB.out)⟩⟩
                case round =>
                  clear H'
                  try clear c1
                  try clear p1
                  try clear q1
                  try clear hx1
                  try clear c2
                  try clear p2
                  try clear c3
                  try clear c4
                  try clear c5
                  try clear p6
                  try clear c7
                  try clear c7b0
                  try clear c8
                  try clear c8b0
                  try clear c9
                  try clear c9b0
                  try clear c10
                  try clear c12
                  try clear c14
                  try clear c15
                  try clear p15
                  try clear q15
                  try clear hx15
                  try clear c17
                  try clear c18
                  try clear c21
                  try clear c24
                  try clear c25
                  try clear c27
                  try clear c27b0
                  try clear c28
                  try clear c28b0
                  try clear c29
                  try clear c29b0
                  try clear c30
                  try clear c30b0
                  try clear c30b1
                  try clear c31
                  try clear c31b0
                  try clear c31b1
                  try clear c33
                  try clear c33b0
                  try clear c33b1
                  try clear c35
                  try clear c35b0
                  try clear c36
                  try clear c36b0
                  try clear c37
                  try clear c38
                  try clear c40
                  try clear c41
                  try clear c42
                  try clear c43
                  try clear c43b0
                  try clear c44
                  try clear c45
                  try clear c47
                  try clear c48
                  try clear c50
                  try clear c51
                  try clear hcz11_0
                  try clear hcz11_1
                  try clear hcz11_2
                  try clear hcz11_3
                  try clear hcz13_0
                  try clear hcz13_1
                  try clear hcz13_2
                  try clear hcz13_3
                  try clear hcz16_0
                  try clear hcz16_1
                  try clear hcz16_2
                  try clear hcz16_3
                  try clear hcz16_4
                  try clear hcz16_5
                  try clear hcz16_6
                  try clear hcz19_0
                  try clear hcz19_1
                  try clear hcz19_2
                  try clear hcz19_3
                  try clear hcz20_0
                  try clear hcz20_1
                  try clear hcz20_2
                  try clear hcz20_3
                  try clear hcz20_4
                  try clear hcz20_5
                  try clear hcz20_6
                  try clear hcz22_0
                  try clear hcz22_1
                  try clear hcz22_2
                  try clear hcz22_3
                  try clear hcz26_0
                  try clear hcz26_1
                  try clear hcz26_2
                  try clear hcz26_3
                  try clear hcz26_4
                  try clear hcz26_5
                  try clear hcz26_6
                  try clear hcz39_0
                  try clear hcz39_1
                  try clear hcz39_2
                  try clear hcz39_3
                  try clear hcz42_0
                  try clear hcz42_1
                  try clear hcz42_2
                  try clear hcz42_3
                  try clear hcz46_0
                  try clear hcz46_1
                  try clear hcz46_2
                  try clear hcz46_3
                  try clear hcz49_0
                  try clear hcz49_1
                  try clear hcz49_2
                  try clear hcz49_3
                  try clear hcz52_0
                  try clear hcz52_1
                  try clear hcz52_2
                  try clear hcz52_3
                  try clear hcz52_4
                  try clear hcz52_5
                  try clear hcz52_6
                  try clear hfz11_0
                  try clear hfz11_1
                  try clear hfz11_2
                  try clear hfz11_3
                  try clear hfz13_0
                  try clear hfz13_1
                  try clear hfz13_2
                  try clear hfz13_3
                  try clear hfz16_0
                  try clear hfz16_1
                  try clear hfz16_2
                  try clear hfz16_3
                  try clear hfz16_4
                  try clear hfz16_5
                  try clear hfz16_6
                  try clear hfz19_0
                  try clear hfz19_1
                  try clear hfz19_2
                  try clear hfz19_3
                  try clear hfz20_0
                  try clear hfz20_1
                  try clear hfz20_2
                  try clear hfz20_3
                  try clear hfz20_4
                  try clear hfz20_5
                  try clear hfz20_6
                  try clear hfz22_0
                  try clear hfz22_1
                  try clear hfz22_2
                  try clear hfz22_3
                  try clear hfz26_0
                  try clear hfz26_1
                  try clear hfz26_2
                  try clear hfz26_3
                  try clear hfz26_4
                  try clear hfz26_5
                  try clear hfz26_6
                  try clear hfz39_0
                  try clear hfz39_1
                  try clear hfz39_2
                  try clear hfz39_3
                  try clear hfz42_0
                  try clear hfz42_1
                  try clear hfz42_2
                  try clear hfz42_3
                  try clear hfz46_0
                  try clear hfz46_1
                  try clear hfz46_2
                  try clear hfz46_3
                  try clear hfz49_0
                  try clear hfz49_1
                  try clear hfz49_2
                  try clear hfz49_3
                  try clear hfz52_0
                  try clear hfz52_1
                  try clear hfz52_2
                  try clear hfz52_3
                  try clear hfz52_4
                  try clear hfz52_5
                  try clear hfz52_6
                  try clear hx150_0
                  try clear hx152_0
                  try clear p150
                  try clear p152
                  try clear p2
                  try clear p6
                  try clear q150
                  try clear q152
                  obtain ⟨x13_3, x14_3, x15_3, x16_3, x17_3, x149000_3, x149001_3, x149002_3, x149003_3, x149004_3, x149006_3, x150002_3, x150004_3, x150005_3, u150005, rfl, rfl, rfl, rfl, rfl, HA, HK3, HO_150005, BK147, BK148, BK149, HB⟩ := hrel
                  cases gk with
                  | zero => exact absurd HA.out (by simp [baileeref09_Open.l1])
                  | succ k3 =>
                    have H := HA.out
                    clear HA
                    simp only [baileeref09_Open.l1] at H
                    by_cases c53 : x17_3 < a2
                    · rw [if_pos c53] at H
                      have c53b0 : decide (x17_3 < a2) = true := decide_eq_true c53
                      clear c53
                      obtain ⟨ji54, hji54⟩ : ∃ j_ : Int, (wrap64 (a1 + x17_3)) = j_ := ⟨_, rfl⟩
                      replace H : (if 0 ≤ (ji54) then (if (ji54) < (l0_0.length : Int) then ((baileeref09_Read.f k3 (rdOf ByteArray.empty l0_0 (ji54))).bind fun bt155 => (if bt155.1 = 0 then (baileeref09_Open.j3 k3 a1 a2 x13_3 x16_3 x17_3 bt155.1 bt155.2.1 bt155.2.2 true l0_0 a0_1 a0_2 false a1 a2 x150002_3 (IntKind.u64.wrap (x9_2 + 1)) x150004_3 x150005_3 0) else (if bt155.1 ≤ x15_3 then (baileeref09_Open.j3 k3 a1 a2 x13_3 x16_3 x17_3 bt155.1 bt155.2.1 bt155.2.2 true l0_0 a0_1 a0_2 false a1 a2 x150002_3 (IntKind.u64.wrap (x9_2 + 1)) x150004_3 x150005_3 0) else (if x14_3 = true then (baileeref09_Open.j3 k3 a1 a2 x13_3 x16_3 x17_3 bt155.1 bt155.2.1 bt155.2.2 ((IntKind.u64.wrap (bt155.1 - x15_3)) != 1) l0_0 a0_1 a0_2 false a1 a2 x150002_3 (IntKind.u64.wrap (x9_2 + 1)) x150004_3 x150005_3 0) else (baileeref09_Open.j3 k3 a1 a2 x13_3 x16_3 x17_3 bt155.1 bt155.2.1 bt155.2.2 false l0_0 a0_1 a0_2 false a1 a2 x150002_3 (IntKind.u64.wrap (x9_2 + 1)) x150004_3 x150005_3 0))))) else (none)) else (none)) = some (r1, r2, r3, r4, r5, r6, r7, r8) := by first | (rw [hji54] at H; exact H) | (simp only [hji54] at H ⊢; exact H)
                      have hji54w : (IntKind.i64.wrap (a1 + x17_3)) = ji54 := (i64_w _).trans hji54
                      by_cases c55 : 0 ≤ (ji54)
                      · rw [if_pos c55] at H
                        have c55b0 : decide (0 ≤ (ji54)) = true := decide_eq_true c55
                        clear c55
                        by_cases c56 : (ji54) < (l0_0.length : Int)
                        · rw [if_pos c56] at H
                          have c56b0 : decide ((ji54) < (l0_0.length : Int)) = true := decide_eq_true c56
                          clear c56
                          replace H := Option.bind_eq_some_iff.mp H
                          obtain ⟨⟨t155, t156, t157⟩, A570, H⟩ := H
                          replace H : (if t155 = 0 then (baileeref09_Open.j3 k3 a1 a2 x13_3 x16_3 x17_3 t155 t156 t157 true l0_0 a0_1 a0_2 false a1 a2 x150002_3 (IntKind.u64.wrap (x9_2 + 1)) x150004_3 x150005_3 0) else (if t155 ≤ x15_3 then (baileeref09_Open.j3 k3 a1 a2 x13_3 x16_3 x17_3 t155 t156 t157 true l0_0 a0_1 a0_2 false a1 a2 x150002_3 (IntKind.u64.wrap (x9_2 + 1)) x150004_3 x150005_3 0) else (if x14_3 = true then (baileeref09_Open.j3 k3 a1 a2 x13_3 x16_3 x17_3 t155 t156 t157 ((IntKind.u64.wrap (t155 - x15_3)) != 1) l0_0 a0_1 a0_2 false a1 a2 x150002_3 (IntKind.u64.wrap (x9_2 + 1)) x150004_3 x150005_3 0) else (baileeref09_Open.j3 k3 a1 a2 x13_3 x16_3 x17_3 t155 t156 t157 false l0_0 a0_1 a0_2 false a1 a2 x150002_3 (IntKind.u64.wrap (x9_2 + 1)) x150004_3 x150005_3 0)))) = some (r1, r2, r3, r4, r5, r6, r7, r8) := H
                          have A57 := Aside0.mk A570
                          clear A570
                          have HC58 := Aside0.mk H
                          clear H
                          have hnb59 := NB147_148.out
                          have hnc59 := NB148_147.out
                          have hnb60 := NB147_149.out
                          have hnc60 := NB149_147.out
                          have hcz61_0 : wr.cell? ⟨gb147, 0, none⟩ = some (.slice A0_0 l0_0.length c0_0) := (blk_cell BK147.out 0).trans rfl
                          have hcz61_1 : wr.cell? ⟨gb147, 1, none⟩ = some (.int .i64 a0_1) := (blk_cell BK147.out 1).trans rfl
                          have hcz61_2 : wr.cell? ⟨gb147, 2, none⟩ = some (.int .i64 a0_2) := (blk_cell BK147.out 2).trans rfl
                          have hcz61_3 : wr.cell? ⟨gb147, 3, none⟩ = some (.bool false) := (blk_cell BK147.out 3).trans rfl
                          have hfz61_0 := blk_frozen BK147.out 0
                          have hfz61_1 := blk_frozen BK147.out 1
                          have hfz61_2 := blk_frozen BK147.out 2
                          have hfz61_3 := blk_frozen BK147.out 3
                          have p154 : 0 ≤ ((ji54) : Int) := of_decide_eq_true (by first | (with_reducible assumption) | assumption)
                          have q154 : (ji54) < (l0_0.length : Int) := of_decide_eq_true (by first | (with_reducible assumption) | assumption)
                          obtain ⟨ad154, e154, hx154_0⟩ := Kd.at_string HR0_0.out (ji54) p154 q154
                          cases e154
                          replace hx154_0 := (HB.out.cell (World.block_lt_of_cell? w _ hx154_0)).trans hx154_0
                          replace p154 := eq_true p154
                          replace q154 := eq_true q154
                          go_upto_region 25 with (first | ((with_reducible refine gate_callee (f := 40) rfl ?_); refine goesL_ (some 96) rfl rfl Try.func40 (by kernel_rfl) rfl #[.string (rdOf ByteArray.empty l0_0 (ji54))] rfl (by (try simp only [List.map_toArray, List.map_cons, List.map_nil]); first | done | (simp only [hji54]; rfl) | rfl | (simp only [List.length_drop, List.length_take]; rfl)) ?_; (with_reducible refine (baileeref09_Read.calls k3 (rdOf ByteArray.empty l0_0 (ji54)) t155 t156 t157 _ A57.out).mono ?_); rintro e w62 ⟨rfl, hb⟩; refine ⟨_, rfl, ?_⟩; have n0_ := Aside0.mk (Kd.R_below (by (with_reducible repeat (first | apply Kd.R_alloc | apply Kd.R_drewN | apply Kd.R_drew)); exact HO_150005.out) hb); have n1_ := Aside0.mk (blk_below (g := gb147) (o := .cells #[.slice (some ad154) l0_0.length c0_0, .int .i64 a0_1, .int .i64 a0_2, .bool false] 30 (0, 0)) (by (with_reducible repeat (first | refine blk_drewN ?_ _ | refine blk_drew ?_ | refine blk_alloc ?_ _)); exact BK147.out) hb); have n2_ := Aside0.mk (blk_below (g := gb148) (o := .cells #[.int .i64 x149000_3, .int .i64 x149001_3, .int .u64 x149002_3, .int .u64 x149003_3, .int .i64 x149004_3, .slice none 0 0, .int .i64 x149006_3] 75 (0, 0)) (by (with_reducible repeat (first | refine blk_drewN ?_ _ | refine blk_drew ?_ | refine blk_alloc ?_ _)); exact BK148.out) hb); have n3_ := Aside0.mk (blk_below (g := gb149) (o := .cells #[.int .i64 a1, .int .i64 a2, .int .u64 x150002_3, .int .u64 (IntKind.u64.wrap (x9_2 + 1)), .int .i64 x150004_3, u150005, .int .i64 0] 75 (0, 0)) (by (with_reducible repeat (first | refine blk_drewN ?_ _ | refine blk_drew ?_ | refine blk_alloc ?_ _)); exact BK149.out) hb); have n4_ := Aside0.mk (below_step (by repeat (first | (with_reducible first | exact HB.out | apply below_alloc | apply pw_below_drewN | apply below_drew1 | refine below_set ?_ GE147.out | refine below_set ?_ GE148.out | refine below_set ?_ GE149.out) | exact HB.out)) hb); clear HO_150005; clear BK147; clear BK148; clear BK149; clear HB; have HO_150005 := n0_; have BK147 := n1_; have BK148 := n2_; have BK149 := n3_; have HB := n4_; clear n0_ n1_ n2_ n3_ n4_; (try clear hb); (try clear hb2); (try clear hk); (try clear hi)))
                          (try simp only [Act.put, List.setIfInBounds_toArray, List.set_cons_zero, List.set_cons_succ])
                          go_cut [115] (fun v115 wc => ∃ (kq : Nat) (x115_57 : Bool), v115 = .bool x115_57 ∧ Aside0 (baileeref09_Open.j3 kq a1 a2 x13_3 x16_3 x17_3 t155 t156 t157 x115_57 l0_0 a0_1 a0_2 false a1 a2 x150002_3 (IntKind.u64.wrap (x9_2 + 1)) x150004_3 x150005_3 0 = some (r1, r2, r3, r4, r5, r6, r7, r8)) ∧ Aside0 (kq ≤ k3) ∧ Aside0 (Kd.R Kd.string 9 wc w.heap.size (fun _ => True) u150005 x150005_3) ∧ Aside0 (wc.heap[gb147]? = some (.cells #[(.slice (some ad154) l0_0.length c0_0), .int .i64 a0_1, .int .i64 a0_2, .bool false] 30 (0, 0))) ∧ Aside0 (wc.heap[gb148]? = some (.cells #[.int .i64 x149000_3, .int .i64 x149001_3, .int .u64 x149002_3, .int .u64 x149003_3, .int .i64 x149004_3, (.slice none 0 0), .int .i64 x149006_3] 75 (0, 0))) ∧ Aside0 (wc.heap[gb149]? = some (.cells #[.int .i64 a1, .int .i64 a2, .int .u64 x150002_3, .int .u64 (IntKind.u64.wrap (x9_2 + 1)), .int .i64 x150004_3, u150005, .int .i64 0] 75 (0, 0))) ∧ Aside0 (Below w.heap.size w wc))
                          case first =>
                            have H := HC58.out
                            clear HC58
                            by_cases c63 : t155 = 0
                            · rw [if_pos c63] at H
                              have c63b0 : (t155 == 0) = true := beq_iff_eq.mpr c63
                              have c63b1 : (t155 != 0) = false := bne_eq_false_iff_eq.mpr c63
                              clear c63
                              (first | rw [c63b0] | (simp only [i64_w, i32_w]; rw [c63b0]) | skip)
                              have H' := Aside0.mk H
                              clear H
                              go_wp2
                              go_meet
                              case rel => exact ⟨_, (true), (by first | rfl | (simp; done) | (simp [*]; done)), H', ⟨by have := HJ3.out; have := HK2.out; have := HK3.out; first | omega | exact Nat.le_refl _⟩, ⟨by (with_reducible repeat (first | apply Kd.R_alloc | apply Kd.R_drewN | apply Kd.R_drew)); exact HO_150005.out⟩, ⟨by (with_reducible repeat (first | refine blk_drewN ?_ _ | refine blk_drew ?_ | refine blk_alloc ?_ _)); exact BK147.out⟩, ⟨by (with_reducible repeat (first | refine blk_drewN ?_ _ | refine blk_drew ?_ | refine blk_alloc ?_ _)); exact BK148.out⟩, ⟨by (with_reducible repeat (first | refine blk_drewN ?_ _ | refine blk_drew ?_ | refine blk_alloc ?_ _)); exact BK149.out⟩, ⟨by repeat (first | (with_reducible first | exact HB.out | apply below_alloc | apply pw_below_drewN | apply below_drew1 | refine below_set ?_ GE147.out | refine below_set ?_ GE148.out | refine below_set ?_ GE149.out) | exact HB.out)⟩⟩
                            · rw [if_neg c63] at H
                              have c63b0 : (t155 == 0) = false := beq_eq_false_iff_ne.mpr c63
                              have c63b1 : (t155 != 0) = true := bne_iff_ne.mpr c63
                              (first | rw [c63b0] | (simp only [i64_w, i32_w]; rw [c63b0]) | skip)
                              by_cases c64 : t155 ≤ x15_3
                              · rw [if_pos c64] at H
                                have c64b0 : decide (t155 ≤ x15_3) = true := decide_eq_true c64
                                clear c64
                                have H' := Aside0.mk H
                                clear H
                                go_wp2
                                go_meet
                                case rel => exact ⟨_, (true), (by first | rfl | (simp; done) | (simp [*]; done)), H', ⟨by have := HJ3.out; have := HK2.out; have := HK3.out; first | omega | exact Nat.le_refl _⟩, ⟨by (with_reducible repeat (first | apply Kd.R_alloc | apply Kd.R_drewN | apply Kd.R_drew)); exact HO_150005.out⟩, ⟨by (with_reducible repeat (first | refine blk_drewN ?_ _ | refine blk_drew ?_ | refine blk_alloc ?_ _)); exact BK147.out⟩, ⟨by (with_reducible repeat (first | refine blk_drewN ?_ _ | refine blk_drew ?_ | refine blk_alloc ?_ _)); exact BK148.out⟩, ⟨by (with_reducible repeat (first | refine blk_drewN ?_ _ | refine blk_drew ?_ | refine blk_alloc ?_ _)); exact BK149.out⟩, ⟨by repeat (first | (with_reducible first | exact HB.out | apply below_alloc | apply pw_below_drewN | apply below_drew1 | refine below_set ?_ GE147.out | refine below_set ?_ GE148.out | refine below_set ?_ GE149.out) | exact HB.out)⟩⟩
                              · rw [if_neg c64] at H
                                have c64b0 : decide (t155 ≤ x15_3) = false := decide_eq_false c64
                                clear c64
                                by_cases c65 : x14_3 = true
                                · subst c65
                                  have H1 : (baileeref09_Open.j3 k3 a1 a2 x13_3 x16_3 x17_3 t155 t156 t157 ((IntKind.u64.wrap (t155 - x15_3)) != 1) l0_0 a0_1 a0_2 false a1 a2 x150002_3 (IntKind.u64.wrap (x9_2 + 1)) x150004_3 x150005_3 0) = some (r1, r2, r3, r4, r5, r6, r7, r8) := by rw [if_pos rfl] at H; exact H
                                  clear H
                                  have H := H1
                                  clear H1
                                  have H' := Aside0.mk H
                                  clear H
                                  go_wp2
                                  go_meet
                                  case rel => exact ⟨_, (((IntKind.u64.wrap (t155 - x15_3)) != 1)), (by first | rfl | (simp; done) | (simp [*]; done)), H', ⟨by have := HJ3.out; have := HK2.out; have := HK3.out; first | omega | exact Nat.le_refl _⟩, ⟨by (with_reducible repeat (first | apply Kd.R_alloc | apply Kd.R_drewN | apply Kd.R_drew)); exact HO_150005.out⟩, ⟨by (with_reducible repeat (first | refine blk_drewN ?_ _ | refine blk_drew ?_ | refine blk_alloc ?_ _)); exact BK147.out⟩, ⟨by (with_reducible repeat (first | refine blk_drewN ?_ _ | refine blk_drew ?_ | refine blk_alloc ?_ _)); exact BK148.out⟩, ⟨by (with_reducible repeat (first | refine blk_drewN ?_ _ | refine blk_drew ?_ | refine blk_alloc ?_ _)); exact BK149.out⟩, ⟨by repeat (first | (with_reducible first | exact HB.out | apply below_alloc | apply pw_below_drewN | apply below_drew1 | refine below_set ?_ GE147.out | refine below_set ?_ GE148.out | refine below_set ?_ GE149.out) | exact HB.out)⟩⟩
                                · replace c65 := Bool.eq_false_iff.mpr c65
                                  subst c65
                                  have H1 : (baileeref09_Open.j3 k3 a1 a2 x13_3 x16_3 x17_3 t155 t156 t157 false l0_0 a0_1 a0_2 false a1 a2 x150002_3 (IntKind.u64.wrap (x9_2 + 1)) x150004_3 x150005_3 0) = some (r1, r2, r3, r4, r5, r6, r7, r8) := by rw [if_neg (show ¬ (false = true) by decide)] at H; exact H
                                  clear H
                                  have H := H1
                                  clear H1
                                  have H' := Aside0.mk H
                                  clear H
                                  go_wp2
                                  go_meet
                                  case rel => exact ⟨_, (false), (by first | rfl | (simp; done) | (simp [*]; done)), H', ⟨by have := HJ3.out; have := HK2.out; have := HK3.out; first | omega | exact Nat.le_refl _⟩, ⟨by (with_reducible repeat (first | apply Kd.R_alloc | apply Kd.R_drewN | apply Kd.R_drew)); exact HO_150005.out⟩, ⟨by (with_reducible repeat (first | refine blk_drewN ?_ _ | refine blk_drew ?_ | refine blk_alloc ?_ _)); exact BK147.out⟩, ⟨by (with_reducible repeat (first | refine blk_drewN ?_ _ | refine blk_drew ?_ | refine blk_alloc ?_ _)); exact BK148.out⟩, ⟨by (with_reducible repeat (first | refine blk_drewN ?_ _ | refine blk_drew ?_ | refine blk_alloc ?_ _)); exact BK149.out⟩, ⟨by repeat (first | (with_reducible first | exact HB.out | apply below_alloc | apply pw_below_drewN | apply below_drew1 | refine below_set ?_ GE147.out | refine below_set ?_ GE148.out | refine below_set ?_ GE149.out) | exact HB.out)⟩⟩
                          case rest =>
                            clear HC58
                            try clear c1
                            try clear p1
                            try clear q1
                            try clear hx1
                            try clear c2
                            try clear p2
                            try clear c3
                            try clear c4
                            try clear c5
                            try clear c6
                            try clear p6
                            try clear c7
                            try clear c7b0
                            try clear c8
                            try clear c8b0
                            try clear c9
                            try clear c9b0
                            try clear c10
                            try clear c12
                            try clear c14
                            try clear c15
                            try clear p15
                            try clear q15
                            try clear hx15
                            try clear c17
                            try clear c18
                            try clear c21
                            try clear c24
                            try clear c25
                            try clear c27
                            try clear c27b0
                            try clear c28
                            try clear c28b0
                            try clear c29
                            try clear c29b0
                            try clear c30
                            try clear c30b0
                            try clear c30b1
                            try clear c31
                            try clear c31b0
                            try clear c31b1
                            try clear c33
                            try clear c33b0
                            try clear c33b1
                            try clear c35
                            try clear c35b0
                            try clear c36
                            try clear c36b0
                            try clear c37
                            try clear c38
                            try clear c40
                            try clear c41
                            try clear c42
                            try clear c43
                            try clear c43b0
                            try clear c44
                            try clear c45
                            try clear c47
                            try clear c48
                            try clear c50
                            try clear c51
                            try clear c53
                            try clear c53b0
                            try clear c55
                            try clear c55b0
                            try clear c56
                            try clear c56b0
                            try clear c59
                            try clear c60
                            try clear c63
                            try clear c63b0
                            try clear c63b1
                            try clear c64
                            try clear c64b0
                            try clear p64
                            try clear c65
                            try clear hcz11_0
                            try clear hcz11_1
                            try clear hcz11_2
                            try clear hcz11_3
                            try clear hcz13_0
                            try clear hcz13_1
                            try clear hcz13_2
                            try clear hcz13_3
                            try clear hcz16_0
                            try clear hcz16_1
                            try clear hcz16_2
                            try clear hcz16_3
                            try clear hcz16_4
                            try clear hcz16_5
                            try clear hcz16_6
                            try clear hcz19_0
                            try clear hcz19_1
                            try clear hcz19_2
                            try clear hcz19_3
                            try clear hcz20_0
                            try clear hcz20_1
                            try clear hcz20_2
                            try clear hcz20_3
                            try clear hcz20_4
                            try clear hcz20_5
                            try clear hcz20_6
                            try clear hcz22_0
                            try clear hcz22_1
                            try clear hcz22_2
                            try clear hcz22_3
                            try clear hcz26_0
                            try clear hcz26_1
                            try clear hcz26_2
                            try clear hcz26_3
                            try clear hcz26_4
                            try clear hcz26_5
                            try clear hcz26_6
                            try clear hcz39_0
                            try clear hcz39_1
                            try clear hcz39_2
                            try clear hcz39_3
                            try clear hcz42_0
                            try clear hcz42_1
                            try clear hcz42_2
                            try clear hcz42_3
                            try clear hcz46_0
                            try clear hcz46_1
                            try clear hcz46_2
                            try clear hcz46_3
                            try clear hcz49_0
                            try clear hcz49_1
                            try clear hcz49_2
                            try clear hcz49_3
                            try clear hcz52_0
                            try clear hcz52_1
                            try clear hcz52_2
                            try clear hcz52_3
                            try clear hcz52_4
                            try clear hcz52_5
                            try clear hcz52_6
                            try clear hcz61_0
                            try clear hcz61_1
                            try clear hcz61_2
                            try clear hcz61_3
                            try clear hfz11_0
                            try clear hfz11_1
                            try clear hfz11_2
                            try clear hfz11_3
                            try clear hfz13_0
                            try clear hfz13_1
                            try clear hfz13_2
                            try clear hfz13_3
                            try clear hfz16_0
                            try clear hfz16_1
                            try clear hfz16_2
                            try clear hfz16_3
                            try clear hfz16_4
                            try clear hfz16_5
                            try clear hfz16_6
                            try clear hfz19_0
                            try clear hfz19_1
                            try clear hfz19_2
                            try clear hfz19_3
                            try clear hfz20_0
                            try clear hfz20_1
                            try clear hfz20_2
                            try clear hfz20_3
                            try clear hfz20_4
                            try clear hfz20_5
                            try clear hfz20_6
                            try clear hfz22_0
                            try clear hfz22_1
                            try clear hfz22_2
                            try clear hfz22_3
                            try clear hfz26_0
                            try clear hfz26_1
                            try clear hfz26_2
                            try clear hfz26_3
                            try clear hfz26_4
                            try clear hfz26_5
                            try clear hfz26_6
                            try clear hfz39_0
                            try clear hfz39_1
                            try clear hfz39_2
                            try clear hfz39_3
                            try clear hfz42_0
                            try clear hfz42_1
                            try clear hfz42_2
                            try clear hfz42_3
                            try clear hfz46_0
                            try clear hfz46_1
                            try clear hfz46_2
                            try clear hfz46_3
                            try clear hfz49_0
                            try clear hfz49_1
                            try clear hfz49_2
                            try clear hfz49_3
                            try clear hfz52_0
                            try clear hfz52_1
                            try clear hfz52_2
                            try clear hfz52_3
                            try clear hfz52_4
                            try clear hfz52_5
                            try clear hfz52_6
                            try clear hfz61_0
                            try clear hfz61_1
                            try clear hfz61_2
                            try clear hfz61_3
                            try clear hx150_0
                            try clear hx152_0
                            try clear hx154_0
                            try clear p1
                            try clear p15
                            try clear p150
                            try clear p152
                            try clear p154
                            try clear p2
                            try clear p6
                            try clear q1
                            try clear q15
                            try clear q150
                            try clear q152
                            try clear q154
                            obtain ⟨kq, x115_57, rfl, HA, HJ57, HO_150005, BK147, BK148, BK149, HB⟩ := hcut
                            cases kq with
                            | zero => exact absurd HA.out (by simp [baileeref09_Open.j3])
                            | succ kj57 =>
                              have H := HA.out
                              clear HA
                              simp only [baileeref09_Open.j3] at H
                              by_cases c66 : x115_57 = true
                              · subst c66
                                have H1 : (some (a1, a2, x150002_3, (IntKind.u64.wrap (x9_2 + 1)), x150004_3, x150005_3, 0, 0)) = some (r1, r2, r3, r4, r5, r6, r7, r8) := by rw [if_pos rfl] at H; exact H
                                clear H
                                have H := H1
                                clear H1
                                simp only [Option.some.injEq, Prod.mk.injEq] at H
                                obtain ⟨rfl, rfl, rfl, rfl, rfl, rfl, rfl, rfl⟩ := H
                                have hnb67 := NB149_147.out
                                have hnc67 := NB147_149.out
                                have hnb68 := NB149_148.out
                                have hnc68 := NB148_149.out
                                have hcz69_0 : wc.cell? ⟨gb149, 0, none⟩ = some (.int .i64 a1) := (blk_cell BK149.out 0).trans rfl
                                have hcz69_1 : wc.cell? ⟨gb149, 1, none⟩ = some (.int .i64 a2) := (blk_cell BK149.out 1).trans rfl
                                have hcz69_2 : wc.cell? ⟨gb149, 2, none⟩ = some (.int .u64 x150002_3) := (blk_cell BK149.out 2).trans rfl
                                have hcz69_3 : wc.cell? ⟨gb149, 3, none⟩ = some (.int .u64 (IntKind.u64.wrap (x9_2 + 1))) := (blk_cell BK149.out 3).trans rfl
                                have hcz69_4 : wc.cell? ⟨gb149, 4, none⟩ = some (.int .i64 x150004_3) := (blk_cell BK149.out 4).trans rfl
                                have hcz69_5 : wc.cell? ⟨gb149, 5, none⟩ = some (u150005) := (blk_cell BK149.out 5).trans rfl
                                have hcz69_6 : wc.cell? ⟨gb149, 6, none⟩ = some (.int .i64 0) := (blk_cell BK149.out 6).trans rfl
                                have hfz69_0 := blk_frozen BK149.out 0
                                have hfz69_1 := blk_frozen BK149.out 1
                                have hfz69_2 := blk_frozen BK149.out 2
                                have hfz69_3 := blk_frozen BK149.out 3
                                have hfz69_4 := blk_frozen BK149.out 4
                                have hfz69_5 := blk_frozen BK149.out 5
                                have hfz69_6 := blk_frozen BK149.out 6
                                have hnb70 := NB148_147.out
                                have hnc70 := NB147_148.out
                                have hcz71_0 : wc.cell? ⟨gb148, 0, none⟩ = some (.int .i64 x149000_3) := (blk_cell BK148.out 0).trans rfl
                                have hcz71_1 : wc.cell? ⟨gb148, 1, none⟩ = some (.int .i64 x149001_3) := (blk_cell BK148.out 1).trans rfl
                                have hcz71_2 : wc.cell? ⟨gb148, 2, none⟩ = some (.int .u64 x149002_3) := (blk_cell BK148.out 2).trans rfl
                                have hcz71_3 : wc.cell? ⟨gb148, 3, none⟩ = some (.int .u64 x149003_3) := (blk_cell BK148.out 3).trans rfl
                                have hcz71_4 : wc.cell? ⟨gb148, 4, none⟩ = some (.int .i64 x149004_3) := (blk_cell BK148.out 4).trans rfl
                                have hcz71_5 : wc.cell? ⟨gb148, 5, none⟩ = some (.slice none 0 0) := (blk_cell BK148.out 5).trans rfl
                                have hcz71_6 : wc.cell? ⟨gb148, 6, none⟩ = some (.int .i64 x149006_3) := (blk_cell BK148.out 6).trans rfl
                                have hfz71_0 := blk_frozen BK148.out 0
                                have hfz71_1 := blk_frozen BK148.out 1
                                have hfz71_2 := blk_frozen BK148.out 2
                                have hfz71_3 := blk_frozen BK148.out 3
                                have hfz71_4 := blk_frozen BK148.out 4
                                have hfz71_5 := blk_frozen BK148.out 5
                                have hfz71_6 := blk_frozen BK148.out 6
                                obtain ⟨Ao72, co72, eo72⟩ := Kd.R_slice HO_150005.out
                                subst eo72
                                go_wp2
                                refine bodyPost_ret (results_ct rfl _ _ gb148 75 #[.int .i64 a1, .int .i64 a2, .int .u64 x150002_3, .int .u64 (IntKind.u64.wrap (x9_2 + 1)), .int .i64 x150004_3, .slice Ao72 x150005_3.length co72, .int .i64 0] (0, 0) _ rfl (by (with_reducible repeat (first | refine blk_drewN ?_ _ | refine blk_drew ?_ | refine blk_alloc ?_ _)); refine blk_put (cs := #[.int .i64 a1, .int .i64 a2, .int .u64 x150002_3, .int .u64 (IntKind.u64.wrap (x9_2 + 1)), .int .i64 x150004_3, .slice Ao72 x150005_3.length co72, .int .i64 x149006_3]) ?_ 6 _ rfl; (with_reducible repeat (first | refine blk_drewN ?_ _ | refine blk_drew ?_ | refine blk_alloc ?_ _)); refine blk_put (cs := #[.int .i64 a1, .int .i64 a2, .int .u64 x150002_3, .int .u64 (IntKind.u64.wrap (x9_2 + 1)), .int .i64 x150004_3, .slice none 0 0, .int .i64 x149006_3]) ?_ 5 _ rfl; (with_reducible repeat (first | refine blk_drewN ?_ _ | refine blk_drew ?_ | refine blk_alloc ?_ _)); refine blk_put (cs := #[.int .i64 a1, .int .i64 a2, .int .u64 x150002_3, .int .u64 (IntKind.u64.wrap (x9_2 + 1)), .int .i64 x149004_3, .slice none 0 0, .int .i64 x149006_3]) ?_ 4 _ rfl; (with_reducible repeat (first | refine blk_drewN ?_ _ | refine blk_drew ?_ | refine blk_alloc ?_ _)); refine blk_put (cs := #[.int .i64 a1, .int .i64 a2, .int .u64 x150002_3, .int .u64 x149003_3, .int .i64 x149004_3, .slice none 0 0, .int .i64 x149006_3]) ?_ 3 _ rfl; (with_reducible repeat (first | refine blk_drewN ?_ _ | refine blk_drew ?_ | refine blk_alloc ?_ _)); refine blk_put (cs := #[.int .i64 a1, .int .i64 a2, .int .u64 x149002_3, .int .u64 x149003_3, .int .i64 x149004_3, .slice none 0 0, .int .i64 x149006_3]) ?_ 2 _ rfl; (with_reducible repeat (first | refine blk_drewN ?_ _ | refine blk_drew ?_ | refine blk_alloc ?_ _)); refine blk_put (cs := #[.int .i64 a1, .int .i64 x149001_3, .int .u64 x149002_3, .int .u64 x149003_3, .int .i64 x149004_3, .slice none 0 0, .int .i64 x149006_3]) ?_ 1 _ rfl; (with_reducible repeat (first | refine blk_drewN ?_ _ | refine blk_drew ?_ | refine blk_alloc ?_ _)); refine blk_put (cs := #[.int .i64 x149000_3, .int .i64 x149001_3, .int .u64 x149002_3, .int .u64 x149003_3, .int .i64 x149004_3, .slice none 0 0, .int .i64 x149006_3]) ?_ 0 _ rfl; (with_reducible repeat (first | refine blk_drewN ?_ _ | refine blk_drew ?_ | refine blk_alloc ?_ _)); exact BK148.out) Try.underlying75 rfl (by kernel_rfl)) rfl ?_
                                exact ⟨_, by first | rfl | (simp [errW_none, errW_some] <;> rfl) | (simp only [← hji54]; first | rfl | (simp [errW_none, errW_some] <;> rfl)) | (simp [*, errW_none, errW_some] <;> rfl), by (with_reducible repeat (first | apply Kd.R_alloc | apply Kd.R_drewN | apply Kd.R_drew)); exact Kd.R_mono (Kd.R_far (p := ⟨gb148, 6, none⟩) (Kd.R_far (p := ⟨gb148, 5, none⟩) (Kd.R_far (p := ⟨gb148, 4, none⟩) (Kd.R_far (p := ⟨gb148, 3, none⟩) (Kd.R_far (p := ⟨gb148, 2, none⟩) (Kd.R_far (p := ⟨gb148, 1, none⟩) (Kd.R_far (p := ⟨gb148, 0, none⟩) (Kd.R_types HO_150005.out BK148.out (by decide)) (fun _ hk => hk.2) (.int .i64 a1)) (fun _ hk => hk.2) (.int .i64 a2)) (fun _ hk => hk.2) (.int .u64 x150002_3)) (fun _ hk => hk.2) (.int .u64 (IntKind.u64.wrap (x9_2 + 1)))) (fun _ hk => hk.2) (.int .i64 x150004_3)) (fun _ hk => hk.2) (.slice Ao72 x150005_3.length co72)) (fun _ hk => hk.2) (.int .i64 0)) (fun _ hk => trivial), by repeat (first | (with_reducible first | exact HB.out | apply below_alloc | apply pw_below_drewN | apply below_drew1 | refine below_set ?_ GE147.out | refine below_set ?_ GE148.out | refine below_set ?_ GE149.out) | exact HB.out)⟩
                              · replace c66 := Bool.eq_false_iff.mpr c66
                                subst c66
                                have H1 : (if x17_3 = 0 then (if x13_3.size + t156.size ≤ 9223372036854775807 then (if t157 = true then (if x150005_3.length < 8796093022208 then (baileeref09_Open.l1 kj57 a1 a2 (⟨#[]⟩ : ByteArray) (!t157) t155 t155 (wrap64 (x17_3 + 1)) l0_0 a0_1 a0_2 false a1 a2 t155 (IntKind.u64.wrap (x9_2 + 1)) (wrap64 (x17_3 + 1)) (x150005_3 ++ [x13_3 ++ t156]) 0) else (none)) else (baileeref09_Open.l1 kj57 a1 a2 (x13_3 ++ t156) (!t157) t155 t155 (wrap64 (x17_3 + 1)) l0_0 a0_1 a0_2 false a1 a2 x150002_3 (IntKind.u64.wrap (x9_2 + 1)) x150004_3 x150005_3 0)) else (none)) else (if x13_3.size + t156.size ≤ 9223372036854775807 then (if t157 = true then (if x150005_3.length < 8796093022208 then (baileeref09_Open.l1 kj57 a1 a2 (⟨#[]⟩ : ByteArray) (!t157) t155 x16_3 (wrap64 (x17_3 + 1)) l0_0 a0_1 a0_2 false a1 a2 x16_3 (IntKind.u64.wrap (x9_2 + 1)) (wrap64 (x17_3 + 1)) (x150005_3 ++ [x13_3 ++ t156]) 0) else (none)) else (baileeref09_Open.l1 kj57 a1 a2 (x13_3 ++ t156) (!t157) t155 x16_3 (wrap64 (x17_3 + 1)) l0_0 a0_1 a0_2 false a1 a2 x150002_3 (IntKind.u64.wrap (x9_2 + 1)) x150004_3 x150005_3 0)) else (none))) = some (r1, r2, r3, r4, r5, r6, r7, r8) := by rw [if_neg (show ¬ (false = true) by decide)] at H; exact H
                                clear H
                                have H := H1
                                clear H1
                                by_cases c73 : x17_3 = 0
                                · rw [if_pos c73] at H
                                  have c73b0 : (x17_3 == 0) = true := beq_iff_eq.mpr c73
                                  have c73b1 : (x17_3 != 0) = false := bne_eq_false_iff_eq.mpr c73
                                  clear c73
                                  by_cases c74 : x13_3.size + t156.size ≤ 9223372036854775807
                                  · rw [if_pos c74] at H
                                    have c74b0 := eq_true c74
                                    have c74b1 : decide (x13_3.size + t156.size ≤ 9223372036854775807) = true := decide_eq_true c74
                                    try have c74b2 : (9223372036854775807 < x13_3.size + t156.size) = False := eq_false (Nat.not_lt.2 c74)
                                    by_cases c75 : t157 = true
                                    · subst c75
                                      have H1 : (if x150005_3.length < 8796093022208 then (baileeref09_Open.l1 kj57 a1 a2 (⟨#[]⟩ : ByteArray) (!true) t155 t155 (wrap64 (x17_3 + 1)) l0_0 a0_1 a0_2 false a1 a2 t155 (IntKind.u64.wrap (x9_2 + 1)) (wrap64 (x17_3 + 1)) (x150005_3 ++ [x13_3 ++ t156]) 0) else (none)) = some (r1, r2, r3, r4, r5, r6, r7, r8) := by rw [if_pos rfl] at H; exact H
                                      clear H
                                      have H := H1
                                      clear H1
                                      by_cases c76 : x150005_3.length < 8796093022208
                                      · rw [if_pos c76] at H
                                        have LMc76 := Aside0.mk c76
                                        clear c76
                                        obtain ⟨y158, hy158⟩ : ∃ y_ : List ByteArray, y_ = (x150005_3 ++ [x13_3 ++ t156]) := ⟨_, rfl⟩
                                        replace H : (baileeref09_Open.l1 kj57 a1 a2 (⟨#[]⟩ : ByteArray) (!true) t155 t155 (wrap64 (x17_3 + 1)) l0_0 a0_1 a0_2 false a1 a2 t155 (IntKind.u64.wrap (x9_2 + 1)) (wrap64 (x17_3 + 1)) y158 0) = some (r1, r2, r3, r4, r5, r6, r7, r8) := by first | (rw [hy158]; with_reducible exact H) | (have H2_ := (Option.bind_some _ _).symm.trans H; rw [hy158]; with_reducible exact H2_) | (have H2_ := (Option.bind_some _ _).symm.trans H; with_reducible exact H2_) | with_reducible exact H | (rw [hy158]; exact H) | exact H
                                        have Ny158 := Aside0.mk hy158
                                        clear hy158
                                        have H' := Aside0.mk H
                                        clear H
                                        have hnb77 := NB149_147.out
                                        have hnc77 := NB147_149.out
                                        have hnb78 := NB149_148.out
                                        have hnc78 := NB148_149.out
                                        have hcz79_0 : wc.cell? ⟨gb149, 0, none⟩ = some (.int .i64 a1) := (blk_cell BK149.out 0).trans rfl
                                        have hcz79_1 : wc.cell? ⟨gb149, 1, none⟩ = some (.int .i64 a2) := (blk_cell BK149.out 1).trans rfl
                                        have hcz79_2 : wc.cell? ⟨gb149, 2, none⟩ = some (.int .u64 x150002_3) := (blk_cell BK149.out 2).trans rfl
                                        have hcz79_3 : wc.cell? ⟨gb149, 3, none⟩ = some (.int .u64 (IntKind.u64.wrap (x9_2 + 1))) := (blk_cell BK149.out 3).trans rfl
                                        have hcz79_4 : wc.cell? ⟨gb149, 4, none⟩ = some (.int .i64 x150004_3) := (blk_cell BK149.out 4).trans rfl
                                        have hcz79_5 : wc.cell? ⟨gb149, 5, none⟩ = some (u150005) := (blk_cell BK149.out 5).trans rfl
                                        have hcz79_6 : wc.cell? ⟨gb149, 6, none⟩ = some (.int .i64 0) := (blk_cell BK149.out 6).trans rfl
                                        have hfz79_0 := blk_frozen BK149.out 0
                                        have hfz79_1 := blk_frozen BK149.out 1
                                        have hfz79_2 := blk_frozen BK149.out 2
                                        have hfz79_3 := blk_frozen BK149.out 3
                                        have hfz79_4 := blk_frozen BK149.out 4
                                        have hfz79_5 := blk_frozen BK149.out 5
                                        have hfz79_6 := blk_frozen BK149.out 6
                                        go_wp2_with (first | ((with_reducible refine gate_builtin (b := .append) (xs := #[.tmp 128, .tmp 130]) rfl ?_); (try (refine gate_guard (by rfl) ?_; dsimp only)); at_builtin; refine Kd.R_append Kd.string (w0 := w) w.heap.size rfl (.tmp 128) (.tmp 130) 28 9 (.string ⟨#[]⟩) 16 rfl Try.underlying28 info9 rfl (by decide) (by omega) u150005 x150005_3 (x13_3 ++ t156) [.string (x13_3 ++ t156)] (fun _ => True) (fun _ => False) rfl rfl ?aP (fun _ hk => hk.elim) ?aF ?aO ?aB ?aS ?aL ?_; (case aP => exact rfl); (case aB => exact (by repeat (first | (with_reducible first | exact HB.out | apply below_alloc | apply pw_below_drewN | apply below_drew1 | refine below_set ?_ GE147.out | refine below_set ?_ GE148.out | refine below_set ?_ GE149.out) | exact HB.out))); (case aF => exact (fun _ _ => trivial)); (case aO => exact (by (with_reducible repeat (first | apply Kd.R_alloc | apply Kd.R_drewN | apply Kd.R_drew)); exact HO_150005.out)); (case aS => exact (below_size (by repeat (first | (with_reducible first | exact HB.out | apply below_alloc | apply pw_below_drewN | apply below_drew1 | refine below_set ?_ GE147.out | refine below_set ?_ GE148.out | refine below_set ?_ GE149.out) | exact HB.out)))); (case aL => have := LMc76.out; omega); intro v159 w80 ho hb hg hat; rw [← Ny158.out] at ho; have n0_ := Aside0.mk (blk_grown (g := gb147) (o := .cells #[.slice (some ad154) l0_0.length c0_0, .int .i64 a0_1, .int .i64 a0_2, .bool false] 30 (0, 0)) (by (with_reducible repeat (first | refine blk_drewN ?_ _ | refine blk_drew ?_ | refine blk_alloc ?_ _)); exact BK147.out) hg (Kd.R_ne HO_150005.out BK147.out (by decide))); have n1_ := Aside0.mk (blk_grown (g := gb148) (o := .cells #[.int .i64 x149000_3, .int .i64 x149001_3, .int .u64 x149002_3, .int .u64 x149003_3, .int .i64 x149004_3, .slice none 0 0, .int .i64 x149006_3] 75 (0, 0)) (by (with_reducible repeat (first | refine blk_drewN ?_ _ | refine blk_drew ?_ | refine blk_alloc ?_ _)); exact BK148.out) hg (Kd.R_ne HO_150005.out BK148.out (by decide))); have n2_ := Aside0.mk (blk_grown (g := gb149) (o := .cells #[.int .i64 a1, .int .i64 a2, .int .u64 x150002_3, .int .u64 (IntKind.u64.wrap (x9_2 + 1)), .int .i64 x150004_3, u150005, .int .i64 0] 75 (0, 0)) (by (with_reducible repeat (first | refine blk_drewN ?_ _ | refine blk_drew ?_ | refine blk_alloc ?_ _)); exact BK149.out) hg (Kd.R_ne HO_150005.out BK149.out (by decide))); have n3_ := Aside0.mk (hb); have n4_ := Aside0.mk (ho); clear BK147; clear BK148; clear BK149; clear HB; clear HO_150005; have BK147 := n0_; have BK148 := n1_; have BK149 := n2_; have HB := n3_; have HO160 := n4_; clear n0_ n1_ n2_ n3_ n4_; clear ho hb hg hat; obtain ⟨Ao81, co81, eo81⟩ := Kd.R_slice HO160.out; subst eo81; have hcz82_0 : w80.cell? ⟨gb149, 0, none⟩ = some (.int .i64 a1) := (blk_cell BK149.out 0).trans rfl; have hcz82_1 : w80.cell? ⟨gb149, 1, none⟩ = some (.int .i64 a2) := (blk_cell BK149.out 1).trans rfl; have hcz82_2 : w80.cell? ⟨gb149, 2, none⟩ = some (.int .u64 x150002_3) := (blk_cell BK149.out 2).trans rfl; have hcz82_3 : w80.cell? ⟨gb149, 3, none⟩ = some (.int .u64 (IntKind.u64.wrap (x9_2 + 1))) := (blk_cell BK149.out 3).trans rfl; have hcz82_4 : w80.cell? ⟨gb149, 4, none⟩ = some (.int .i64 x150004_3) := (blk_cell BK149.out 4).trans rfl; have hcz82_5 : w80.cell? ⟨gb149, 5, none⟩ = some (u150005) := (blk_cell BK149.out 5).trans rfl; have hcz82_6 : w80.cell? ⟨gb149, 6, none⟩ = some (.int .i64 0) := (blk_cell BK149.out 6).trans rfl; have hfz82_0 := blk_frozen BK149.out 0; have hfz82_1 := blk_frozen BK149.out 1; have hfz82_2 := blk_frozen BK149.out 2; have hfz82_3 := blk_frozen BK149.out 3; have hfz82_4 := blk_frozen BK149.out 4; have hfz82_5 := blk_frozen BK149.out 5; have hfz82_6 := blk_frozen BK149.out 6))
                                        go_roundg kj57
                                        case measure => have := HJ3.out; have := HK2.out; have := HK3.out; have := HJ57.out; omega
                                        case rel => exact ⟨((⟨#[]⟩ : ByteArray)), (!true), (t155), (t155), (wrap64 (x17_3 + 1)), (x149000_3), (x149001_3), (x149002_3), (x149003_3), (x149004_3), (x149006_3), (t155), (wrap64 (x17_3 + 1)), (y158), (.slice Ao81 y158.length co81), (by first | rfl | (simp; done) | (simp [*]; done)), (by first | rfl | (simp; done) | (simp [*]; done)), (by first | rfl | (simp; done) | (simp [*]; done)), (by first | rfl | (simp; done) | (simp [*]; done)), (by first | rfl | (simp; done) | (simp [*]; done)), H', ⟨by have := HJ3.out; have := HK2.out; have := HK3.out; have := HJ57.out; omega⟩, ⟨by (with_reducible repeat (first | apply Kd.R_alloc | apply Kd.R_drewN | apply Kd.R_drew)); exact Kd.R_mono (Kd.R_far (p := ⟨gb149, 2, none⟩) (Kd.R_far (p := ⟨gb149, 4, none⟩) (Kd.R_far (p := ⟨gb149, 5, none⟩) (Kd.R_types HO160.out BK149.out (by decide)) (fun _ hk => hk.2) (.slice Ao81 y158.length co81)) (fun _ hk => hk.2) (.int .i64 (wrap64 (x17_3 + 1)))) (fun _ hk => hk.2) (.int .u64 t155)) (fun _ hk => trivial)⟩, ⟨by (with_reducible repeat (first | refine blk_drewN ?_ _ | refine blk_drew ?_ | refine blk_alloc ?_ _)); refine blk_far ?_ NB147_149.out _; (with_reducible repeat (first | refine blk_drewN ?_ _ | refine blk_drew ?_ | refine blk_alloc ?_ _)); refine blk_far ?_ NB147_149.out _; (with_reducible repeat (first | refine blk_drewN ?_ _ | refine blk_drew ?_ | refine blk_alloc ?_ _)); refine blk_far ?_ NB147_149.out _; (with_reducible repeat (first | refine blk_drewN ?_ _ | refine blk_drew ?_ | refine blk_alloc ?_ _)); exact BK147.out⟩, ⟨by (with_reducible repeat (first | refine blk_drewN ?_ _ | refine blk_drew ?_ | refine blk_alloc ?_ _)); refine blk_far ?_ NB148_149.out _; (with_reducible repeat (first | refine blk_drewN ?_ _ | refine blk_drew ?_ | refine blk_alloc ?_ _)); refine blk_far ?_ NB148_149.out _; (with_reducible repeat (first | refine blk_drewN ?_ _ | refine blk_drew ?_ | refine blk_alloc ?_ _)); refine blk_far ?_ NB148_149.out _; (with_reducible repeat (first | refine blk_drewN ?_ _ | refine blk_drew ?_ | refine blk_alloc ?_ _)); exact BK148.out⟩, ⟨by (with_reducible repeat (first | refine blk_drewN ?_ _ | refine blk_drew ?_ | refine blk_alloc ?_ _)); refine blk_put (cs := #[.int .i64 a1, .int .i64 a2, .int .u64 x150002_3, .int .u64 (IntKind.u64.wrap (x9_2 + 1)), .int .i64 (wrap64 (x17_3 + 1)), .slice Ao81 y158.length co81, .int .i64 0]) ?_ 2 _ rfl; (with_reducible repeat (first | refine blk_drewN ?_ _ | refine blk_drew ?_ | refine blk_alloc ?_ _)); refine blk_put (cs := #[.int .i64 a1, .int .i64 a2, .int .u64 x150002_3, .int .u64 (IntKind.u64.wrap (x9_2 + 1)), .int .i64 x150004_3, .slice Ao81 y158.length co81, .int .i64 0]) ?_ 4 _ rfl; (with_reducible repeat (first | refine blk_drewN ?_ _ | refine blk_drew ?_ | refine blk_alloc ?_ _)); refine blk_put (cs := #[.int .i64 a1, .int .i64 a2, .int .u64 x150002_3, .int .u64 (IntKind.u64.wrap (x9_2 + 1)), .int .i64 x150004_3, u150005, .int .i64 0]) ?_ 5 _ rfl; (with_reducible repeat (first | refine blk_drewN ?_ _ | refine blk_drew ?_ | refine blk_alloc ?_ _)); exact BK149.out⟩, ⟨by repeat (first | (with_reducible first | exact HB.out | apply below_alloc | apply pw_below_drewN | apply below_drew1 | refine below_set ?_ GE147.out | refine below_set ?_ GE148.out | refine below_set ?_ GE149.out) | exact HB.out)⟩⟩
                                      · rw [if_neg c76] at H
                                        exact absurd H (by simp)
                                    · replace c75 := Bool.eq_false_iff.mpr c75
                                      subst c75
                                      have H1 : (baileeref09_Open.l1 kj57 a1 a2 (x13_3 ++ t156) (!false) t155 t155 (wrap64 (x17_3 + 1)) l0_0 a0_1 a0_2 false a1 a2 x150002_3 (IntKind.u64.wrap (x9_2 + 1)) x150004_3 x150005_3 0) = some (r1, r2, r3, r4, r5, r6, r7, r8) := by rw [if_neg (show ¬ (false = true) by decide)] at H; exact H
                                      clear H
                                      have H := H1
                                      clear H1
                                      have H' := Aside0.mk H
                                      clear H
                                      go_wp2
                                      go_roundg kj57
                                      case measure => have := HJ3.out; have := HK2.out; have := HK3.out; have := HJ57.out; omega
                                      case rel => exact ⟨(x13_3 ++ t156), (!false), (t155), (t155), (wrap64 (x17_3 + 1)), (x149000_3), (x149001_3), (x149002_3), (x149003_3), (x149004_3), (x149006_3), (x150002_3), (x150004_3), (x150005_3), (u150005), (by first | rfl | (simp; done) | (simp [*]; done)), (by first | rfl | (simp; done) | (simp [*]; done)), (by first | rfl | (simp; done) | (simp [*]; done)), (by first | rfl | (simp; done) | (simp [*]; done)), (by first | rfl | (simp; done) | (simp [*]; done)), H', ⟨by have := HJ3.out; have := HK2.out; have := HK3.out; have := HJ57.out; omega⟩, ⟨by (with_reducible repeat (first | apply Kd.R_alloc | apply Kd.R_drewN | apply Kd.R_drew)); exact HO_150005.out⟩, ⟨by (with_reducible repeat (first | refine blk_drewN ?_ _ | refine blk_drew ?_ | refine blk_alloc ?_ _)); exact BK147.out⟩, ⟨by (with_reducible repeat (first | refine blk_drewN ?_ _ | refine blk_drew ?_ | refine blk_alloc ?_ _)); exact BK148.out⟩, ⟨by (with_reducible repeat (first | refine blk_drewN ?_ _ | refine blk_drew ?_ | refine blk_alloc ?_ _)); exact BK149.out⟩, ⟨by repeat (first | (with_reducible first | exact HB.out | apply below_alloc | apply pw_below_drewN | apply below_drew1 | refine below_set ?_ GE147.out | refine below_set ?_ GE148.out | refine below_set ?_ GE149.out) | exact HB.out)⟩⟩
                                  · rw [if_neg c74] at H
                                    exact absurd H (by simp)
                                · rw [if_neg c73] at H
                                  have c73b0 : (x17_3 == 0) = false := beq_eq_false_iff_ne.mpr c73
                                  have c73b1 : (x17_3 != 0) = true := bne_iff_ne.mpr c73
                                  by_cases c83 : x13_3.size + t156.size ≤ 9223372036854775807
                                  · rw [if_pos c83] at H
                                    have c83b0 := eq_true c83
                                    have c83b1 : decide (x13_3.size + t156.size ≤ 9223372036854775807) = true := decide_eq_true c83
                                    try have c83b2 : (9223372036854775807 < x13_3.size + t156.size) = False := eq_false (Nat.not_lt.2 c83)
                                    by_cases c84 : t157 = true
                                    · subst c84
                                      have H1 : (if x150005_3.length < 8796093022208 then (baileeref09_Open.l1 kj57 a1 a2 (⟨#[]⟩ : ByteArray) (!true) t155 x16_3 (wrap64 (x17_3 + 1)) l0_0 a0_1 a0_2 false a1 a2 x16_3 (IntKind.u64.wrap (x9_2 + 1)) (wrap64 (x17_3 + 1)) (x150005_3 ++ [x13_3 ++ t156]) 0) else (none)) = some (r1, r2, r3, r4, r5, r6, r7, r8) := by rw [if_pos rfl] at H; exact H
                                      clear H
                                      have H := H1
                                      clear H1
                                      by_cases c85 : x150005_3.length < 8796093022208
                                      · rw [if_pos c85] at H
                                        have LMc85 := Aside0.mk c85
                                        clear c85
                                        obtain ⟨y161, hy161⟩ : ∃ y_ : List ByteArray, y_ = (x150005_3 ++ [x13_3 ++ t156]) := ⟨_, rfl⟩
                                        replace H : (baileeref09_Open.l1 kj57 a1 a2 (⟨#[]⟩ : ByteArray) (!true) t155 x16_3 (wrap64 (x17_3 + 1)) l0_0 a0_1 a0_2 false a1 a2 x16_3 (IntKind.u64.wrap (x9_2 + 1)) (wrap64 (x17_3 + 1)) y161 0) = some (r1, r2, r3, r4, r5, r6, r7, r8) := by first | (rw [hy161]; with_reducible exact H) | (have H2_ := (Option.bind_some _ _).symm.trans H; rw [hy161]; with_reducible exact H2_) | (have H2_ := (Option.bind_some _ _).symm.trans H; with_reducible exact H2_) | with_reducible exact H | (rw [hy161]; exact H) | exact H
                                        have Ny161 := Aside0.mk hy161
                                        clear hy161
                                        have H' := Aside0.mk H
                                        clear H
                                        have hnb86 := NB149_147.out
                                        have hnc86 := NB147_149.out
                                        have hnb87 := NB149_148.out
                                        have hnc87 := NB148_149.out
                                        have hcz88_0 : wc.cell? ⟨gb149, 0, none⟩ = some (.int .i64 a1) := (blk_cell BK149.out 0).trans rfl
                                        have hcz88_1 : wc.cell? ⟨gb149, 1, none⟩ = some (.int .i64 a2) := (blk_cell BK149.out 1).trans rfl
                                        have hcz88_2 : wc.cell? ⟨gb149, 2, none⟩ = some (.int .u64 x150002_3) := (blk_cell BK149.out 2).trans rfl
                                        have hcz88_3 : wc.cell? ⟨gb149, 3, none⟩ = some (.int .u64 (IntKind.u64.wrap (x9_2 + 1))) := (blk_cell BK149.out 3).trans rfl
                                        have hcz88_4 : wc.cell? ⟨gb149, 4, none⟩ = some (.int .i64 x150004_3) := (blk_cell BK149.out 4).trans rfl
                                        have hcz88_5 : wc.cell? ⟨gb149, 5, none⟩ = some (u150005) := (blk_cell BK149.out 5).trans rfl
                                        have hcz88_6 : wc.cell? ⟨gb149, 6, none⟩ = some (.int .i64 0) := (blk_cell BK149.out 6).trans rfl
                                        have hfz88_0 := blk_frozen BK149.out 0
                                        have hfz88_1 := blk_frozen BK149.out 1
                                        have hfz88_2 := blk_frozen BK149.out 2
                                        have hfz88_3 := blk_frozen BK149.out 3
                                        have hfz88_4 := blk_frozen BK149.out 4
                                        have hfz88_5 := blk_frozen BK149.out 5
                                        have hfz88_6 := blk_frozen BK149.out 6
                                        go_wp2_with (first | ((with_reducible refine gate_builtin (b := .append) (xs := #[.tmp 128, .tmp 130]) rfl ?_); (try (refine gate_guard (by rfl) ?_; dsimp only)); at_builtin; refine Kd.R_append Kd.string (w0 := w) w.heap.size rfl (.tmp 128) (.tmp 130) 28 9 (.string ⟨#[]⟩) 16 rfl Try.underlying28 info9 rfl (by decide) (by omega) u150005 x150005_3 (x13_3 ++ t156) [.string (x13_3 ++ t156)] (fun _ => True) (fun _ => False) rfl rfl ?aP (fun _ hk => hk.elim) ?aF ?aO ?aB ?aS ?aL ?_; (case aP => exact rfl); (case aB => exact (by repeat (first | (with_reducible first | exact HB.out | apply below_alloc | apply pw_below_drewN | apply below_drew1 | refine below_set ?_ GE147.out | refine below_set ?_ GE148.out | refine below_set ?_ GE149.out) | exact HB.out))); (case aF => exact (fun _ _ => trivial)); (case aO => exact (by (with_reducible repeat (first | apply Kd.R_alloc | apply Kd.R_drewN | apply Kd.R_drew)); exact HO_150005.out)); (case aS => exact (below_size (by repeat (first | (with_reducible first | exact HB.out | apply below_alloc | apply pw_below_drewN | apply below_drew1 | refine below_set ?_ GE147.out | refine below_set ?_ GE148.out | refine below_set ?_ GE149.out) | exact HB.out)))); (case aL => have := LMc85.out; omega); intro v162 w89 ho hb hg hat; rw [← Ny161.out] at ho; have n0_ := Aside0.mk (blk_grown (g := gb147) (o := .cells #[.slice (some ad154) l0_0.length c0_0, .int .i64 a0_1, .int .i64 a0_2, .bool false] 30 (0, 0)) (by (with_reducible repeat (first | refine blk_drewN ?_ _ | refine blk_drew ?_ | refine blk_alloc ?_ _)); exact BK147.out) hg (Kd.R_ne HO_150005.out BK147.out (by decide))); have n1_ := Aside0.mk (blk_grown (g := gb148) (o := .cells #[.int .i64 x149000_3, .int .i64 x149001_3, .int .u64 x149002_3, .int .u64 x149003_3, .int .i64 x149004_3, .slice none 0 0, .int .i64 x149006_3] 75 (0, 0)) (by (with_reducible repeat (first | refine blk_drewN ?_ _ | refine blk_drew ?_ | refine blk_alloc ?_ _)); exact BK148.out) hg (Kd.R_ne HO_150005.out BK148.out (by decide))); have n2_ := Aside0.mk (blk_grown (g := gb149) (o := .cells #[.int .i64 a1, .int .i64 a2, .int .u64 x150002_3, .int .u64 (IntKind.u64.wrap (x9_2 + 1)), .int .i64 x150004_3, u150005, .int .i64 0] 75 (0, 0)) (by (with_reducible repeat (first | refine blk_drewN ?_ _ | refine blk_drew ?_ | refine blk_alloc ?_ _)); exact BK149.out) hg (Kd.R_ne HO_150005.out BK149.out (by decide))); have n3_ := Aside0.mk (hb); have n4_ := Aside0.mk (ho); clear BK147; clear BK148; clear BK149; clear HB; clear HO_150005; have BK147 := n0_; have BK148 := n1_; have BK149 := n2_; have HB := n3_; have HO163 := n4_; clear n0_ n1_ n2_ n3_ n4_; clear ho hb hg hat; obtain ⟨Ao90, co90, eo90⟩ := Kd.R_slice HO163.out; subst eo90; have hcz91_0 : w89.cell? ⟨gb149, 0, none⟩ = some (.int .i64 a1) := (blk_cell BK149.out 0).trans rfl; have hcz91_1 : w89.cell? ⟨gb149, 1, none⟩ = some (.int .i64 a2) := (blk_cell BK149.out 1).trans rfl; have hcz91_2 : w89.cell? ⟨gb149, 2, none⟩ = some (.int .u64 x150002_3) := (blk_cell BK149.out 2).trans rfl; have hcz91_3 : w89.cell? ⟨gb149, 3, none⟩ = some (.int .u64 (IntKind.u64.wrap (x9_2 + 1))) := (blk_cell BK149.out 3).trans rfl; have hcz91_4 : w89.cell? ⟨gb149, 4, none⟩ = some (.int .i64 x150004_3) := (blk_cell BK149.out 4).trans rfl; have hcz91_5 : w89.cell? ⟨gb149, 5, none⟩ = some (u150005) := (blk_cell BK149.out 5).trans rfl; have hcz91_6 : w89.cell? ⟨gb149, 6, none⟩ = some (.int .i64 0) := (blk_cell BK149.out 6).trans rfl; have hfz91_0 := blk_frozen BK149.out 0; have hfz91_1 := blk_frozen BK149.out 1; have hfz91_2 := blk_frozen BK149.out 2; have hfz91_3 := blk_frozen BK149.out 3; have hfz91_4 := blk_frozen BK149.out 4; have hfz91_5 := blk_frozen BK149.out 5; have hfz91_6 := blk_frozen BK149.out 6))
                                        go_roundg kj57
                                        case measure => have := HJ3.out; have := HK2.out; have := HK3.out; have := HJ57.out; omega
                                        case rel => exact ⟨((⟨#[]⟩ : ByteArray)), (!true), (t155), (x16_3), (wrap64 (x17_3 + 1)), (x149000_3), (x149001_3), (x149002_3), (x149003_3), (x149004_3), (x149006_3), (x16_3), (wrap64 (x17_3 + 1)), (y161), (.slice Ao90 y161.length co90), (by first | rfl | (simp; done) | (simp [*]; done)), (by first | rfl | (simp; done) | (simp [*]; done)), (by first | rfl | (simp; done) | (simp [*]; done)), (by first | rfl | (simp; done) | (simp [*]; done)), (by first | rfl | (simp; done) | (simp [*]; done)), H', ⟨by have := HJ3.out; have := HK2.out; have := HK3.out; have := HJ57.out; omega⟩, ⟨by (with_reducible repeat (first | apply Kd.R_alloc | apply Kd.R_drewN | apply Kd.R_drew)); exact Kd.R_mono (Kd.R_far (p := ⟨gb149, 2, none⟩) (Kd.R_far (p := ⟨gb149, 4, none⟩) (Kd.R_far (p := ⟨gb149, 5, none⟩) (Kd.R_types HO163.out BK149.out (by decide)) (fun _ hk => hk.2) (.slice Ao90 y161.length co90)) (fun _ hk => hk.2) (.int .i64 (wrap64 (x17_3 + 1)))) (fun _ hk => hk.2) (.int .u64 x16_3)) (fun _ hk => trivial)⟩, ⟨by (with_reducible repeat (first | refine blk_drewN ?_ _ | refine blk_drew ?_ | refine blk_alloc ?_ _)); refine blk_far ?_ NB147_149.out _; (with_reducible repeat (first | refine blk_drewN ?_ _ | refine blk_drew ?_ | refine blk_alloc ?_ _)); refine blk_far ?_ NB147_149.out _; (with_reducible repeat (first | refine blk_drewN ?_ _ | refine blk_drew ?_ | refine blk_alloc ?_ _)); refine blk_far ?_ NB147_149.out _; (with_reducible repeat (first | refine blk_drewN ?_ _ | refine blk_drew ?_ | refine blk_alloc ?_ _)); exact BK147.out⟩, ⟨by (with_reducible repeat (first | refine blk_drewN ?_ _ | refine blk_drew ?_ | refine blk_alloc ?_ _)); refine blk_far ?_ NB148_149.out _; (with_reducible repeat (first | refine blk_drewN ?_ _ | refine blk_drew ?_ | refine blk_alloc ?_ _)); refine blk_far ?_ NB148_149.out _; (with_reducible repeat (first | refine blk_drewN ?_ _ | refine blk_drew ?_ | refine blk_alloc ?_ _)); refine blk_far ?_ NB148_149.out _; (with_reducible repeat (first | refine blk_drewN ?_ _ | refine blk_drew ?_ | refine blk_alloc ?_ _)); exact BK148.out⟩, ⟨by (with_reducible repeat (first | refine blk_drewN ?_ _ | refine blk_drew ?_ | refine blk_alloc ?_ _)); refine blk_put (cs := #[.int .i64 a1, .int .i64 a2, .int .u64 x150002_3, .int .u64 (IntKind.u64.wrap (x9_2 + 1)), .int .i64 (wrap64 (x17_3 + 1)), .slice Ao90 y161.length co90, .int .i64 0]) ?_ 2 _ rfl; (with_reducible repeat (first | refine blk_drewN ?_ _ | refine blk_drew ?_ | refine blk_alloc ?_ _)); refine blk_put (cs := #[.int .i64 a1, .int .i64 a2, .int .u64 x150002_3, .int .u64 (IntKind.u64.wrap (x9_2 + 1)), .int .i64 x150004_3, .slice Ao90 y161.length co90, .int .i64 0]) ?_ 4 _ rfl; (with_reducible repeat (first | refine blk_drewN ?_ _ | refine blk_drew ?_ | refine blk_alloc ?_ _)); refine blk_put (cs := #[.int .i64 a1, .int .i64 a2, .int .u64 x150002_3, .int .u64 (IntKind.u64.wrap (x9_2 + 1)), .int .i64 x150004_3, u150005, .int .i64 0]) ?_ 5 _ rfl; (with_reducible repeat (first | refine blk_drewN ?_ _ | refine blk_drew ?_ | refine blk_alloc ?_ _)); exact BK149.out⟩, ⟨by repeat (first | (with_reducible first | exact HB.out | apply below_alloc | apply pw_below_drewN | apply below_drew1 | refine below_set ?_ GE147.out | refine below_set ?_ GE148.out | refine below_set ?_ GE149.out) | exact HB.out)⟩⟩
                                      · rw [if_neg c85] at H
                                        exact absurd H (by simp)
                                    · replace c84 := Bool.eq_false_iff.mpr c84
                                      subst c84
                                      have H1 : (baileeref09_Open.l1 kj57 a1 a2 (x13_3 ++ t156) (!false) t155 x16_3 (wrap64 (x17_3 + 1)) l0_0 a0_1 a0_2 false a1 a2 x150002_3 (IntKind.u64.wrap (x9_2 + 1)) x150004_3 x150005_3 0) = some (r1, r2, r3, r4, r5, r6, r7, r8) := by rw [if_neg (show ¬ (false = true) by decide)] at H; exact H
                                      clear H
                                      have H := H1
                                      clear H1
                                      have H' := Aside0.mk H
                                      clear H
                                      go_wp2
                                      go_roundg kj57
                                      case measure => have := HJ3.out; have := HK2.out; have := HK3.out; have := HJ57.out; omega
                                      case rel => exact ⟨(x13_3 ++ t156), (!false), (t155), (x16_3), (wrap64 (x17_3 + 1)), (x149000_3), (x149001_3), (x149002_3), (x149003_3), (x149004_3), (x149006_3), (x150002_3), (x150004_3), (x150005_3), (u150005), (by first | rfl | (simp; done) | (simp [*]; done)), (by first | rfl | (simp; done) | (simp [*]; done)), (by first | rfl | (simp; done) | (simp [*]; done)), (by first | rfl | (simp; done) | (simp [*]; done)), (by first | rfl | (simp; done) | (simp [*]; done)), H', ⟨by have := HJ3.out; have := HK2.out; have := HK3.out; have := HJ57.out; omega⟩, ⟨by (with_reducible repeat (first | apply Kd.R_alloc | apply Kd.R_drewN | apply Kd.R_drew)); exact HO_150005.out⟩, ⟨by (with_reducible repeat (first | refine blk_drewN ?_ _ | refine blk_drew ?_ | refine blk_alloc ?_ _)); exact BK147.out⟩, ⟨by (with_reducible repeat (first | refine blk_drewN ?_ _ | refine blk_drew ?_ | refine blk_alloc ?_ _)); exact BK148.out⟩, ⟨by (with_reducible repeat (first | refine blk_drewN ?_ _ | refine blk_drew ?_ | refine blk_alloc ?_ _)); exact BK149.out⟩, ⟨by repeat (first | (with_reducible first | exact HB.out | apply below_alloc | apply pw_below_drewN | apply below_drew1 | refine below_set ?_ GE147.out | refine below_set ?_ GE148.out | refine below_set ?_ GE149.out) | exact HB.out)⟩⟩
                                  · rw [if_neg c83] at H
                                    exact absurd H (by simp)
                        · rw [if_neg c56] at H
                          exact absurd H (by simp)
                      · rw [if_neg c55] at H
                        exact absurd H (by simp)
                    · rw [if_neg c53] at H
                      have c53b0 : decide (x17_3 < a2) = false := decide_eq_false c53
                      clear c53
                      simp only [Option.some.injEq, Prod.mk.injEq] at H
                      obtain ⟨rfl, rfl, rfl, rfl, rfl, rfl, rfl, rfl⟩ := H
                      have hnb92 := NB149_147.out
                      have hnc92 := NB147_149.out
                      have hnb93 := NB149_148.out
                      have hnc93 := NB148_149.out
                      have hcz94_0 : wr.cell? ⟨gb149, 0, none⟩ = some (.int .i64 a1) := (blk_cell BK149.out 0).trans rfl
                      have hcz94_1 : wr.cell? ⟨gb149, 1, none⟩ = some (.int .i64 a2) := (blk_cell BK149.out 1).trans rfl
                      have hcz94_2 : wr.cell? ⟨gb149, 2, none⟩ = some (.int .u64 x150002_3) := (blk_cell BK149.out 2).trans rfl
                      have hcz94_3 : wr.cell? ⟨gb149, 3, none⟩ = some (.int .u64 (IntKind.u64.wrap (x9_2 + 1))) := (blk_cell BK149.out 3).trans rfl
                      have hcz94_4 : wr.cell? ⟨gb149, 4, none⟩ = some (.int .i64 x150004_3) := (blk_cell BK149.out 4).trans rfl
                      have hcz94_5 : wr.cell? ⟨gb149, 5, none⟩ = some (u150005) := (blk_cell BK149.out 5).trans rfl
                      have hcz94_6 : wr.cell? ⟨gb149, 6, none⟩ = some (.int .i64 0) := (blk_cell BK149.out 6).trans rfl
                      have hfz94_0 := blk_frozen BK149.out 0
                      have hfz94_1 := blk_frozen BK149.out 1
                      have hfz94_2 := blk_frozen BK149.out 2
                      have hfz94_3 := blk_frozen BK149.out 3
                      have hfz94_4 := blk_frozen BK149.out 4
                      have hfz94_5 := blk_frozen BK149.out 5
                      have hfz94_6 := blk_frozen BK149.out 6
                      have hnb95 := NB148_147.out
                      have hnc95 := NB147_148.out
                      have hcz96_0 : wr.cell? ⟨gb148, 0, none⟩ = some (.int .i64 x149000_3) := (blk_cell BK148.out 0).trans rfl
                      have hcz96_1 : wr.cell? ⟨gb148, 1, none⟩ = some (.int .i64 x149001_3) := (blk_cell BK148.out 1).trans rfl
                      have hcz96_2 : wr.cell? ⟨gb148, 2, none⟩ = some (.int .u64 x149002_3) := (blk_cell BK148.out 2).trans rfl
                      have hcz96_3 : wr.cell? ⟨gb148, 3, none⟩ = some (.int .u64 x149003_3) := (blk_cell BK148.out 3).trans rfl
                      have hcz96_4 : wr.cell? ⟨gb148, 4, none⟩ = some (.int .i64 x149004_3) := (blk_cell BK148.out 4).trans rfl
                      have hcz96_5 : wr.cell? ⟨gb148, 5, none⟩ = some (.slice none 0 0) := (blk_cell BK148.out 5).trans rfl
                      have hcz96_6 : wr.cell? ⟨gb148, 6, none⟩ = some (.int .i64 x149006_3) := (blk_cell BK148.out 6).trans rfl
                      have hfz96_0 := blk_frozen BK148.out 0
                      have hfz96_1 := blk_frozen BK148.out 1
                      have hfz96_2 := blk_frozen BK148.out 2
                      have hfz96_3 := blk_frozen BK148.out 3
                      have hfz96_4 := blk_frozen BK148.out 4
                      have hfz96_5 := blk_frozen BK148.out 5
                      have hfz96_6 := blk_frozen BK148.out 6
                      obtain ⟨Ao97, co97, eo97⟩ := Kd.R_slice HO_150005.out
                      subst eo97
                      go_wp2
                      refine bodyPost_ret (results_ct rfl _ _ gb148 75 #[.int .i64 a1, .int .i64 a2, .int .u64 x150002_3, .int .u64 (IntKind.u64.wrap (x9_2 + 1)), .int .i64 x150004_3, .slice Ao97 x150005_3.length co97, .int .i64 0] (0, 0) _ rfl (by (with_reducible repeat (first | refine blk_drewN ?_ _ | refine blk_drew ?_ | refine blk_alloc ?_ _)); refine blk_put (cs := #[.int .i64 a1, .int .i64 a2, .int .u64 x150002_3, .int .u64 (IntKind.u64.wrap (x9_2 + 1)), .int .i64 x150004_3, .slice Ao97 x150005_3.length co97, .int .i64 x149006_3]) ?_ 6 _ rfl; (with_reducible repeat (first | refine blk_drewN ?_ _ | refine blk_drew ?_ | refine blk_alloc ?_ _)); refine blk_put (cs := #[.int .i64 a1, .int .i64 a2, .int .u64 x150002_3, .int .u64 (IntKind.u64.wrap (x9_2 + 1)), .int .i64 x150004_3, .slice none 0 0, .int .i64 x149006_3]) ?_ 5 _ rfl; (with_reducible repeat (first | refine blk_drewN ?_ _ | refine blk_drew ?_ | refine blk_alloc ?_ _)); refine blk_put (cs := #[.int .i64 a1, .int .i64 a2, .int .u64 x150002_3, .int .u64 (IntKind.u64.wrap (x9_2 + 1)), .int .i64 x149004_3, .slice none 0 0, .int .i64 x149006_3]) ?_ 4 _ rfl; (with_reducible repeat (first | refine blk_drewN ?_ _ | refine blk_drew ?_ | refine blk_alloc ?_ _)); refine blk_put (cs := #[.int .i64 a1, .int .i64 a2, .int .u64 x150002_3, .int .u64 x149003_3, .int .i64 x149004_3, .slice none 0 0, .int .i64 x149006_3]) ?_ 3 _ rfl; (with_reducible repeat (first | refine blk_drewN ?_ _ | refine blk_drew ?_ | refine blk_alloc ?_ _)); refine blk_put (cs := #[.int .i64 a1, .int .i64 a2, .int .u64 x149002_3, .int .u64 x149003_3, .int .i64 x149004_3, .slice none 0 0, .int .i64 x149006_3]) ?_ 2 _ rfl; (with_reducible repeat (first | refine blk_drewN ?_ _ | refine blk_drew ?_ | refine blk_alloc ?_ _)); refine blk_put (cs := #[.int .i64 a1, .int .i64 x149001_3, .int .u64 x149002_3, .int .u64 x149003_3, .int .i64 x149004_3, .slice none 0 0, .int .i64 x149006_3]) ?_ 1 _ rfl; (with_reducible repeat (first | refine blk_drewN ?_ _ | refine blk_drew ?_ | refine blk_alloc ?_ _)); refine blk_put (cs := #[.int .i64 x149000_3, .int .i64 x149001_3, .int .u64 x149002_3, .int .u64 x149003_3, .int .i64 x149004_3, .slice none 0 0, .int .i64 x149006_3]) ?_ 0 _ rfl; (with_reducible repeat (first | refine blk_drewN ?_ _ | refine blk_drew ?_ | refine blk_alloc ?_ _)); exact BK148.out) Try.underlying75 rfl (by kernel_rfl)) rfl ?_
                      exact ⟨_, by first | rfl | (simp [errW_none, errW_some] <;> rfl) | (simp [*, errW_none, errW_some] <;> rfl), by (with_reducible repeat (first | apply Kd.R_alloc | apply Kd.R_drewN | apply Kd.R_drew)); exact Kd.R_mono (Kd.R_far (p := ⟨gb148, 6, none⟩) (Kd.R_far (p := ⟨gb148, 5, none⟩) (Kd.R_far (p := ⟨gb148, 4, none⟩) (Kd.R_far (p := ⟨gb148, 3, none⟩) (Kd.R_far (p := ⟨gb148, 2, none⟩) (Kd.R_far (p := ⟨gb148, 1, none⟩) (Kd.R_far (p := ⟨gb148, 0, none⟩) (Kd.R_types HO_150005.out BK148.out (by decide)) (fun _ hk => hk.2) (.int .i64 a1)) (fun _ hk => hk.2) (.int .i64 a2)) (fun _ hk => hk.2) (.int .u64 x150002_3)) (fun _ hk => hk.2) (.int .u64 (IntKind.u64.wrap (x9_2 + 1)))) (fun _ hk => hk.2) (.int .i64 x150004_3)) (fun _ hk => hk.2) (.slice Ao97 x150005_3.length co97)) (fun _ hk => hk.2) (.int .i64 0)) (fun _ hk => trivial), by repeat (first | (with_reducible first | exact HB.out | apply below_alloc | apply pw_below_drewN | apply below_drew1 | refine below_set ?_ GE147.out | refine below_set ?_ GE148.out | refine below_set ?_ GE149.out) | exact HB.out)⟩

end Go.Proofs.Ytnajdnhgoakgaaa.PWal
