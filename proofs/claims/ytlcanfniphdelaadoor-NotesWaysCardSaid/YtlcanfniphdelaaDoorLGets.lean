/- The walk of NotesGets. -/
import Derived.Test.YtlcanfniphdelaaDoorNotR
namespace Go.Proofs.YtlcanfniphdelaaDoor.Not
open Go.RowKit Go.Maps Go.Proofs.YtlcanfniphdelaaDoorW.PrintWords Go.Proofs.YtlcanfniphdelaaDoorW.PrintLast Go.Proofs.YtlcanfniphdelaaDoorW.PrintMore Go.Proofs.YtlcanfniphdelaaDoor.Mem Go.Proofs.YtlcanfniphdelaaDoor.Cod Go.Proofs.YtlcanfniphdelaaDoor.Ins Go.Proofs.YtlcanfniphdelaaDoor.Open Go.Proofs.YtlcanfniphdelaaDoor.PCod
set_option linter.unusedVariables false
set_option linter.unusedSimpArgs false
set_option maxRecDepth 8000
set_option maxHeartbeats 8000000
theorem IdsAt.below {w w' : World} {Y : Option Addr} {ids : List (List Int)} (h : IdsAt w Y ids) (hb : Below w.heap.size w w') : IdsAt w' Y ids := fun i hi => by
  obtain ⟨h1, h2, ad, h3, h4⟩ := h i hi
  exact ⟨h1, h2, ad, h3, fun j v hv => (hb.cell (World.block_lt_of_cell? w _ (h4 j v hv))).trans (h4 j v hv)⟩
theorem NoteR.below {w w' : World} {cs : Array Value} {g : GM} (h : NoteR w cs g) (hb : Below w.heap.size w w') : NoteR w' cs g := by
  obtain ⟨A, bc, Y, yc, h1, h2, h3⟩ := h
  exact ⟨A, bc, Y, yc, h1, Kd.C_below h2 hb, h3.below hb⟩
theorem RNoteR.below {w w' : World} {cs : Array Value} {g : GM} (h : RNoteR w cs g) (hb : Below w.heap.size w w') : RNoteR w' cs g := by
  obtain ⟨Y, yc, h1, h3⟩ := h
  exact ⟨Y, yc, h1, h3.below hb⟩
theorem NoteR.fit {w : World} {cs : Array Value} {g : GM} (h : NoteR w cs g) (hp : g.p.length = 32) : NFit cs := by
  obtain ⟨A, bc, Y, yc, rfl, _⟩ := h
  exact nfit _ _ _ hp A Y _ bc _ yc
def RFit (cs : Array Value) : Prop := (Tryd.prog.info? 36).map (·.size) = some cs.size ∧ rz28.toArray.size = cs.size ∧ cs.all (·.oneCell') = true
theorem RNoteR.fit {w : World} {cs : Array Value} {g : GM} (h : RNoteR w cs g) (hp : g.p.length = 32) : RFit cs := by
  obtain ⟨Y, yc, rfl, _⟩ := h
  refine ⟨by rw [List.size_toArray, ncells_len _ _ _ hp]; kernel_rfl, by rw [List.size_toArray, List.size_toArray, ncells_len _ _ _ hp]; rfl, ?_⟩
  rw [Array.all_eq_true_iff_forall_mem]
  intro v hv
  rw [List.mem_toArray] at hv
  unfold ncells at hv
  rcases List.mem_cons.1 hv with rfl | hv
  · rfl
  · rcases List.mem_append.1 hv with hv | hv
    · exact nums_one _ v hv
    · simp only [List.mem_cons, List.not_mem_nil, or_false] at hv
      rcases hv with rfl | rfl | rfl | rfl <;> rfl
/-- A block that was new is written: what was, stays. -/
theorem below_new {w w3 : World} {g : Nat} {cs : Array Value} (hb : Below w.heap.size w w3) (hg : w.heap.size ≤ g) : Below w.heap.size w (w3.setRow g cs) := below_setRow hb hg cs
section
variable {w : World}
theorem gets_big (A : Option Addr) (len c : Nat) (hbig : 3000 < len) (hF : FAt w) : Calls Tryd.prog 4 #[.slice A len c] w fun e w' => e = .returned (.bool true) ∧ Below w.heap.size w w' := by
  have HF := Aside0.mk hF
  have d3 : decide ((3000 : Int) < (len : Int)) = true := decide_eq_true (by omega)
  have d3n : decide (3000 < len) = true := decide_eq_true hbig
  clear hF hbig
  go_enter Tryd.func4, Tryd.ntmps4
  go_wp2_with (first
    | (go_at_call 7; go_loud (refine (awake20_calls HF.out).mono ?_; rintro e w1 ⟨rfl, hb1⟩; have H1 := Aside0.mk hb1; clear hb1)))
  go_ret
  exact ⟨rfl, H1.out⟩
theorem gets_law {xs : List Int} (A : Option Addr) (len c : Nat) (hlen : len = xs.length) (hr : Kd.C (Kd.int .u8) w A xs.length xs) (hc : len ≤ c) (hl : len < 140737488355328) (hy : Byt xs) (hF : FAt w) (hsm : len ≤ 3000) :
    Calls Tryd.prog 4 #[.slice A len c] w fun e w' => e = .returned (.bool true) ∧ Below w.heap.size w w' := by
  have hok := getM_ok hy
  have hq := fun g => put_get (xs := xs) (g := g) hy
  have hck := fun g => chk_got (xs := xs) (g := g) hy
  obtain ⟨M, hM⟩ : ∃ M, M = getM xs := ⟨_, rfl⟩
  rw [← hM] at hok hq hck
  obtain ⟨er, gm⟩ := M
  dsimp only at hok
  have d3 : decide ((3000 : Int) < (len : Int)) = false := decide_eq_false (by omega)
  have d3n : decide (3000 < len) = false := decide_eq_false (by omega)
  have HM := Aside0.mk (And.intro hM (And.intro hok (And.intro hq hck)))
  have HX := Aside0.mk (And.intro hr (And.intro hlen (And.intro hc (And.intro hl (And.intro hy hF)))))
  clear hM hok hr hlen hc hl hy hF hsm hq hck
  go_enter Tryd.func4, Tryd.ntmps4
  go_upto_region 8 with (first
    | (go_at_call 7; go_loud (refine (awake20_calls HX.out.2.2.2.2.2).mono ?_; rintro e w1 ⟨rfl, hb1⟩; have H1 := Aside0.mk hb1; clear hb1))
    | (go_at_call 13; go_loud (obtain ⟨hr, hlen, hc, hl, hy, hF⟩ := HX.out; have hx := get_calls (w := w1) A c (Kd.C_below hr H1.out) (by omega) (by omega) hy (hF.below H1.out); rw [← HM.out.1, ← hlen] at hx; refine hx.mono ?_; clear hx; rintro e w2 ⟨cs, rfl, hn2, hb2⟩; have H2 := Aside0.mk (And.intro hn2 (And.intro (below_step H1.out hb2) (hn2.fit HM.out.2.1.1))); clear hn2 hb2 hr hc hl hy hF hlen))
    | ((with_reducible refine gate_dst (N := 4) rfl ?_); refine Kd.event_run rfl (v := .pointer (some ⟨w2.heap.size, 0, none⟩)) (w1 := w2.alloc (.cells nz28.toArray 28)) ?hr ?_; (case hr => first | kernel_rfl | (go_simp; done) | (go_simp; rfl)); go_loud (refine wpName (fun w3 hw3 => ?_); obtain ⟨g3, hg3⟩ : ∃ g, g = w2.heap.size := ⟨_, rfl⟩; have H3 := Aside0.mk (And.intro (show w3.heap[g3]? = some (.cells nz28.toArray 28 (0, 0)) by rw [hw3, hg3]; exact blk_new w2 _) (And.intro (show Below w2.heap.size w2 w3 by rw [hw3]; exact below_alloc (Below.refl _ _) _) hg3)); rw [← hg3]; clear hw3 hg3))
    | ((with_reducible refine gate_store (ty := 28) (x := .tmp 4) (y := .tmp 19) rfl ?_); go_loud (refine wpList_store_row rfl 28 (.tmp 4) (.tmp 19) rfl g3 cs rfl rfl 28 nz28.toArray H3.out.1 H2.out.2.2.1 H2.out.2.2.2.1 H2.out.2.2.2.2 ?_; refine wpName (fun w4 hw4 => ?_); have hb24 : Below w2.heap.size w2 w4 := (by rw [hw4]; exact below_setRow H3.out.2.1 (by rw [H3.out.2.2]; exact Nat.le_refl _) _); have H4 := Aside0.mk (And.intro (show w4.heap[g3]? = some (.cells cs 28 (0, 0)) by rw [hw4]; exact setRow_heap _ _ _ _ _ _ H3.out.1) (And.intro (below_step H2.out.2.1 hb24) (H2.out.1.below hb24))); have hcv := conv_row (c := c) HX.out.2.1 HX.out.1 H4.out.2.1; clear hw4 hb24))
    | (go_at_call 15; go_loud (clear hcv; have hx := rget_calls (w := w4) HX.out.2.2.2.2.1; rw [← HM.out.1] at hx; refine hx.mono ?_; clear hx; rintro e w5 ⟨cs2, rfl, hn5, hb5⟩; have H5 := Aside0.mk (And.intro hn5 (And.intro (H4.out.2.2.below hb5) (And.intro (below_step H4.out.2.1 hb5) (And.intro ((hb5.block _ (blk_lt H4.out.1)).trans H4.out.1) (hn5.fit HM.out.2.1.1))))); clear hn5 hb5))
    | ((with_reducible refine gate_dst (N := 6) rfl ?_); refine Kd.event_run rfl (v := .pointer (some ⟨w5.heap.size, 0, none⟩)) (w1 := w5.alloc (.cells rz28.toArray 36)) ?hr ?_; (case hr => first | kernel_rfl | (go_simp; done) | (go_simp; rfl)); go_loud (refine wpName (fun w6 hw6 => ?_); obtain ⟨g6, hg6⟩ : ∃ g, g = w5.heap.size := ⟨_, rfl⟩; have H6 := Aside0.mk (And.intro (show w6.heap[g6]? = some (.cells rz28.toArray 36 (0, 0)) by rw [hw6, hg6]; exact blk_new w5 _) (And.intro (show Below w5.heap.size w5 w6 by rw [hw6]; exact below_alloc (Below.refl _ _) _) hg6)); rw [← hg6]; clear hw6 hg6))
    | ((with_reducible refine gate_store (ty := 36) (x := .tmp 6) (y := .tmp 25) rfl ?_); go_loud (refine wpList_store_row rfl 36 (.tmp 6) (.tmp 25) rfl g6 cs2 rfl rfl 36 rz28.toArray H6.out.1 H5.out.2.2.2.2.1 H5.out.2.2.2.2.2.1 H5.out.2.2.2.2.2.2 ?_; refine wpName (fun w7 hw7 => ?_); have hb57 : Below w5.heap.size w5 w7 := (by rw [hw7]; exact below_setRow H6.out.2.1 (by rw [H6.out.2.2]; exact Nat.le_refl _) _); have H7 := Aside0.mk (And.intro (show w7.heap[g6]? = some (.cells cs2 36 (0, 0)) by rw [hw7]; exact setRow_heap _ _ _ _ _ _ H6.out.1) (And.intro ((hb57.block _ (blk_lt H5.out.2.2.2.1)).trans H5.out.2.2.2.1) (And.intro (below_step H5.out.2.2.1 hb57) (And.intro (H5.out.1.below hb57) (H5.out.2.1.below hb57))))); clear hw7 hb57)))
  obtain ⟨wd, hwd⟩ : ∃ wd, wd = w7.drew := ⟨_, rfl⟩
  have hbd : Below w7.heap.size w7 wd := by rw [hwd]; exact below_drew1 (Below.refl _ _)
  have HD := Aside0.mk (And.intro ((hbd.block _ (blk_lt H7.out.1)).trans H7.out.1) (And.intro ((hbd.block _ (blk_lt H7.out.2.1)).trans H7.out.2.1) (And.intro (below_step H7.out.2.2.1 hbd) (And.intro (H7.out.2.2.2.1.below hbd) (H7.out.2.2.2.2.below hbd)))))
  clear hbd H3 H4 H6 H7
  refine start_ (n := 10) (S := fun w' => w'.heap[g3]? = some (.cells cs 28 (0, 0)) ∧ w'.heap[g6]? = some (.cells cs2 36 (0, 0))) (ds := []) #[false, false, false, false, false, false, false, false, false, false] (by kernel_rfl) rfl rfl (by rw [← hwd]; exact ⟨HD.out.2.1, HD.out.1⟩) (fun hHeld => ?_)
  rw [← hwd] at hHeld ⊢
  clear hwd
  refine pure_ (i := 0) (N := some 27) (v := ?_) (a' := ?_) #[true, false, false, false, false, false, false, false, false, false] rfl rfl (by kernel_rfl) (fun _ _ _ h => h) (Or.inl ⟨by rfl, ?_⟩) ?_ ?_
  rotate_left
  · intro w'
    go_simp
    with_reducible rfl
  rotate_left
  · simp only [Act.put, List.setIfInBounds_toArray, List.set_cons_zero, List.set_cons_succ, i64_w, i32_w]
    rfl
  refine pure_ (i := 1) (N := some 28) (v := ?_) (a' := ?_) #[true, true, false, false, false, false, false, false, false, false] rfl rfl (by kernel_rfl) (fun _ _ _ h => h) (Or.inl ⟨by rfl, ?_⟩) ?_ ?_
  rotate_left
  · intro w'
    go_simp
    with_reducible rfl
  rotate_left
  · simp only [Act.put, List.setIfInBounds_toArray, List.set_cons_zero, List.set_cons_succ, i64_w, i32_w]
    rfl
  refine pure_ (i := 2) (N := some 29) (v := ?_) (a' := ?_) #[true, true, true, false, false, false, false, false, false, false] rfl rfl (by kernel_rfl) (fun _ _ _ h => h) (Or.inl ⟨by rfl, ?_⟩) ?_ ?_
  rotate_left
  · intro w'
    go_simp
    with_reducible rfl
  rotate_left
  · simp only [Act.put, List.setIfInBounds_toArray, List.set_cons_zero, List.set_cons_succ, i64_w, i32_w]
    rfl
  refine pure_ (i := 3) (N := some 30) (v := ?_) (a' := ?_) #[true, true, true, true, false, false, false, false, false, false] rfl rfl (by kernel_rfl) (fun _ _ _ h => h) (Or.inl ⟨by rfl, ?_⟩) ?_ ?_
  rotate_left
  · intro w'
    go_simp
    with_reducible rfl
  rotate_left
  · simp only [Act.put, List.setIfInBounds_toArray, List.set_cons_zero, List.set_cons_succ, i64_w, i32_w]
    rfl
  refine take_ (i := 4) (N := some 31) (v := .agg cs) (a' := ?_) #[true, true, true, true, true, false, false, false, false, false] rfl rfl (by kernel_rfl) (fun _ _ _ h => h) (Or.inl ⟨by rfl, fun w' s0 => ?ld⟩) hHeld ?_ ?_
  case ld => exact exec_load_row w' 28 (.tmp 4) rfl g3 rfl 28 _ (0, 0) _ s0.1 Tryd.underlying28 rfl H2.out.2.2.1
  rotate_left
  · simp only [Act.put, List.setIfInBounds_toArray, List.set_cons_zero, List.set_cons_succ, i64_w, i32_w]
    rfl
  refine take_ (i := 6) (N := some 33) (v := .agg cs2) (a' := ?_) #[true, true, true, true, true, false, true, false, false, false] rfl rfl (by kernel_rfl) (fun _ _ _ h => h) (Or.inl ⟨by rfl, fun w' s0 => ?ld⟩) hHeld ?_ ?_
  case ld => exact exec_load_row w' 36 (.tmp 6) rfl g6 rfl 36 _ (0, 0) _ s0.2 Tryd.underlying36 rfl H5.out.2.2.2.2.1
  rotate_left
  · simp only [Act.put, List.setIfInBounds_toArray, List.set_cons_zero, List.set_cons_succ, i64_w, i32_w]
    rfl
  obtain ⟨A4, bc4, Y4, yc4, hcs, hC4, hI4⟩ := HD.out.2.2.2.2
  obtain ⟨Y5, yc5, hcs2, hI5⟩ := HD.out.2.2.2.1
  obtain ⟨cs3, hcs3⟩ : ∃ cs3, cs3 = (ncells gm.k gm.n gm.o gm.p (.string (S gm.b)) (.slice Y4 gm.ids.length yc4)).toArray := ⟨_, rfl⟩
  have HN : Aside0 (Calls Tryd.prog 10 #[.agg cs] wd fun e w' => e = .returned (.agg cs3) ∧ Below wd.heap.size wd w') := ⟨by
    rw [hcs, hcs3]
    exact noteOf_calls gm.k gm.n gm.o gm.p gm.b HM.out.2.1.1 A4 bc4 Y4 gm.ids.length yc4 hC4⟩
  have HS : Aside0 (∀ W, Below wd.heap.size wd W → Calls Tryd.prog 14 #[.agg cs3, .agg cs2] W fun e w' => e = .returned (.bool true) ∧ Below W.heap.size W w') := ⟨fun W hb => by
    rw [hcs2, hcs3]
    exact same_calls gm.k gm.n gm.o gm.p gm.b gm.ids HM.out.2.1.1 Y4 Y5 yc4 yc5 (hI4.below hb) (hI5.below hb) (by have := HM.out.2.1.2.2.2.2.2.1; omega)⟩
  have HC := Aside0.mk (And.intro hcs (And.intro hC4 hI4))
  clear hcs hC4 hI4 hcs2 hI5 hcs3
  refine one_ (i := 5) (N := some 32) #[true, true, true, true, true, true, true, false, false, false] rfl rfl (by kernel_rfl) (by decide) (fun K hK => ?_)
  refine goes_ Tryd.func10 (by kernel_rfl) rfl #[.agg cs] (by rfl) rfl rfl (by (try simp only [List.map_toArray, List.map_cons, List.map_nil]); first | rfl | (go_simp; done)) ?_
  refine HN.out.mono ?_
  rintro e w8 ⟨rfl, hb8⟩
  refine ⟨_, rfl, ?_⟩
  have H8 := Aside0.mk hb8
  clear hb8
  refine hK.out _ _ (⟨(H8.out.block _ (blk_lt HD.out.2.1)).trans HD.out.2.1, (H8.out.block _ (blk_lt HD.out.1)).trans HD.out.1⟩) (fun hHeld => ?_)
  clear hK K
  refine norm_ (a' := ?_) ?_ ?_
  rotate_left
  · show Act.put _ (some 32) _ = _
    simp only [Act.put, List.setIfInBounds_toArray, List.set_cons_zero, List.set_cons_succ, i64_w, i32_w]
    rfl
  refine one_ (i := 7) (N := some 34) #[true, true, true, true, true, true, true, true, false, false] rfl rfl (by kernel_rfl) (by decide) (fun K hK => ?_)
  refine goes_ Tryd.func14 (by kernel_rfl) rfl #[.agg cs3, .agg cs2] (by rfl) rfl rfl (by (try simp only [List.map_toArray, List.map_cons, List.map_nil]); first | rfl | (go_simp; done)) ?_
  refine (HS.out w8 H8.out).mono ?_
  rintro e w9 ⟨rfl, hb9⟩
  refine ⟨_, rfl, ?_⟩
  have H9 := Aside0.mk (below_step H8.out hb9)
  clear hb9
  refine hK.out _ _ (⟨(H9.out.block _ (blk_lt HD.out.2.1)).trans HD.out.2.1, (H9.out.block _ (blk_lt HD.out.1)).trans HD.out.1⟩) (fun hHeld => ?_)
  clear hK K
  refine norm_ (a' := ?_) ?_ ?_
  rotate_left
  · show Act.put _ (some 34) _ = _
    simp only [Act.put, List.setIfInBounds_toArray, List.set_cons_zero, List.set_cons_succ, i64_w, i32_w]
    rfl
  refine pure_ (i := 8) (N := some 35) (v := ?_) (a' := ?_) #[true, true, true, true, true, true, true, true, true, false] rfl rfl (by kernel_rfl) (fun _ _ _ h => h) (Or.inl ⟨by rfl, ?_⟩) ?_ ?_
  rotate_left
  · intro w'
    go_simp
    with_reducible rfl
  rotate_left
  · simp only [Act.put, List.setIfInBounds_toArray, List.set_cons_zero, List.set_cons_succ, i64_w, i32_w]
    rfl
  refine pure_ (i := 9) (N := some 36) (v := ?_) (a' := ?_) #[true, true, true, true, true, true, true, true, true, true] rfl rfl (by kernel_rfl) (fun _ _ _ h => h) (Or.inl ⟨by rfl, ?_⟩) ?_ ?_
  rotate_left
  · intro w'
    go_simp
    with_reducible rfl
  rotate_left
  · simp only [Act.put, List.setIfInBounds_toArray, List.set_cons_zero, List.set_cons_succ, i64_w, i32_w]
    rfl
  refine done_ (by kernel_rfl) ?_
  have HW := Aside0.mk (below_step HD.out.2.2.1 H9.out)
  clear hHeld HN HS H5 
  by_cases hz : er = 0
  · subst hz
    have hG := HM.out.2.2.1 gm rfl
    have hK := HM.out.2.2.2 gm rfl
    go_wp2_with (first
      | ((with_reducible refine gate_dst (N := 40) rfl ?_); refine Kd.event_run rfl (v := .agg cs) (w1 := w9) ?hr ?_; (case hr => exact exec_load_row w9 28 (.tmp 4) rfl g3 rfl 28 _ (0, 0) _ ((H9.out.block _ (blk_lt HD.out.2.1)).trans HD.out.2.1) Tryd.underlying28 rfl H2.out.2.2.1))
      | (go_at_call 8; go_loud (obtain ⟨hcs, hC4, hI4⟩ := HC.out; obtain ⟨ok1, ok2, ok3, ok4, ok5, ok6, ok7⟩ := HM.out.2.1; have hx := put_ok (w := w9) gm.k gm.n gm.o gm.p gm.b gm.ids (by omega) ok3 ok4 ok1 ok2 A4 bc4 Y4 yc4 (Kd.C_below hC4 H9.out) ok5 (hI4.below H9.out) (HX.out.2.2.2.2.2.below HW.out) (by have := hG.2.2.2.1; unfold mostOf at this; split at this <;> omega) (by omega) hK; rw [← hcs] at hx; have hpm : putM gm = xs := hG.1; unfold putM at hpm; rw [hpm] at hx; refine hx.mono ?_; clear hx hpm; rintro e w10 ⟨v10, rfl, hv10, hb10⟩; obtain ⟨A10, c10, rfl, _, hC10⟩ := Kd.R_reads hv10; have hcv1 := conv_row (c := c10) rfl hC10 (Below.refl _ _); have H10 := Aside0.mk (below_step HW.out hb10); have hcv2 := conv_row (c := c) HX.out.2.1 HX.out.1 H10.out; clear hv10 hb10 hC10 hcs hC4 hI4 ok1 ok2 ok3 ok4 ok5 ok6 ok7)))
    go_ret
    exact ⟨rfl, H10.out⟩
  · have d5 : (er != 0) = true := bne_iff_ne.2 hz
    clear hz
    go_wp2
    go_ret
    exact ⟨rfl, HW.out⟩
theorem fat_of (hT : ∀ k : Nat, k < 15 → w.cell? ⟨0, k, none⟩ = some (.int .i64 (([0, 3, 1, 3, 9, 1, 7, 31, 1, 9, 1, 10, 2, 0, 10] : List Int).getD k 0))) : FAt w := fun k hk => hT k hk
theorem gets_row {a : Option Addr} {len cap : Nat} {zs : List Int} (h : InRow w a len cap zs) (hl : len * 1 ≤ 140737488351232) (hT : ∀ k : Nat, k < 15 → w.cell? ⟨0, k, none⟩ = some (.int .i64 (([0, 3, 1, 3, 9, 1, 7, 31, 1, 9, 1, 10, 2, 0, 10] : List Int).getD k 0))) : Calls Tryd.prog 4 #[.slice a len cap] w fun e w' => e = .returned (.bool true) ∧ Below w.heap.size w w' := by
  obtain ⟨xs, h1, h2, h3, h4, h5⟩ := row_bytes h hl
  by_cases hb : 3000 < len
  · exact gets_big a len cap hb (fat_of hT)
  · exact gets_law a len cap h1 h2 h3 h4 h5 (fat_of hT) (by omega)
end
end Go.Proofs.YtlcanfniphdelaaDoor.Not
