/- The document's log: Add, where it refuses. -/
import Derived.Test.YtnajdnhgoakgaaaRAdd
namespace Go.Proofs.Ytnajdnhgoakgaaa.Blk
open Go.RowKit Go.Proofs.YtnajdnhgoakgaaaW.PrintWords Go.Proofs.YtnajdnhgoakgaaaW.PrintLast Go.Proofs.YtnajdnhgoakgaaaW.PrintMore Go.Proofs.Ytnajdnhgoakgaaa.Mem Go.Proofs.Ytnajdnhgoakgaaa.Open Go.Proofs.Ytnajdnhgoakgaaa.Wal
set_option linter.unusedVariables false
set_option linter.unusedSimpArgs false
set_option maxRecDepth 100000
set_option maxHeartbeats 8000000
/-- What Add is called with. -/
structure RPre (w0 w : World) (v u : Value) (D : DM) (R : RL) : Prop where
  bl : Below w0.heap.size w0 w
  vr : Kd.R Kd.string 9 w w0.heap.size (Own v) v D.L
  ur : Kd.R Kd.string 9 w w0.heap.size (Own u) u R.l
  ap : ∀ k, Own v k → ¬ Own u k
theorem as_of {w0 w w4 : World} {v u : Value} {D : DM} {R : RL} {g3 g4 g6 g7 : Nat} (h : RPre w0 w v u D R) (l7 : LBox w4 g7 (.slice none 0 0) R0) (d6 : BoxAt w4 g6 (.slice none 0 0) D0) (l4 : LBox w4 g4 u R) (d3 : BoxAt w4 g3 v D) (hb : Below w.heap.size w w4) (h3 : w.heap.size ≤ g3) (h34 : g3 < g4) (h46 : g4 < g6) (h67 : g6 < g7) : AS w0 w w4 g3 g4 g6 g7 v u v u D R := by
  have hv := own_lt_ h.vr
  have hu := own_lt_ h.ur
  refine ⟨below_step h.bl hb, Kept.of_below hb _, h.bl.size, d3, l4, d6, l7, ⟨h3, h34, h46, h67⟩, Kd.R_below h.vr hb, Kd.R_below h.ur hb, fun k hk => ?_, fun k hk => (hv k hk).2, fun k hk => ?_⟩
  · have := (hv k hk).2
    exact ⟨.inl hk, by omega, by omega, by omega, by omega, h.ap k hk⟩
  · have := (hu k hk).2
    exact ⟨.inl hk, by omega, by omega, by omega, by omega⟩
section
variable {w0 w : World} {A B : Option Addr} {m c q d : Nat} {D : DM} {fr n fi nx hv er : Int} {l : List ByteArray} {X : ByteArray}

theorem radd_err (hp : RPre w0 w (.slice A m c) (.slice B q d) D ⟨fr, n, fi, nx, hv, l, er⟩) (he : er ≠ 0) : Calls Try.prog 43 #[dv (.slice A m c) D, lv (.slice B q d) ⟨fr, n, fi, nx, hv, l, er⟩, .string X] w fun e w' => ∃ v u, e = .returned (.tuple #[dv v D, lv u ⟨fr, n, fi, nx, hv, l, er⟩, .int .i64 er]) ∧ APost w0 w w' (.slice A m c) (.slice B q d) v u D ⟨fr, n, fi, nx, hv, l, er⟩ := by
  have HP := Aside0.mk hp
  have d1 : (er != 0) = true := bne_iff_ne.2 he
  clear hp he
  go_enter Try.func43, Try.ntmps43
  go_upto_region 2 with (first
    | ((with_reducible refine gate_dst (N := 3) rfl ?_); refine box_event ?hg (N := 3) ?hd (cs := #[.slice A m c, .int .i64 D.left, .int .i64 D.torn, .bool D.down]) (t := 30) ?hr ?_; (case hd => rfl); (case hg => rfl); (case hr => first | (go_simp; done) | (go_simp; rfl)); intro g3 hg3 w1 hbox hb1; have H1 := Aside0.mk (And.intro (show BoxAt w1 g3 (.slice A m c) D from hbox) (And.intro hb1 hg3)); clear hbox hb1 hg3)
    | ((with_reducible refine gate_dst (N := 4) rfl ?_); refine box_event ?hg (N := 4) ?hd (cs := lcs (.slice B q d) ⟨fr, n, fi, nx, hv, l, er⟩) (t := 75) ?hr ?_; (case hd => rfl); (case hg => rfl); (case hr => first | (go_simp; done) | (go_simp; rfl)); intro g4 hg4 w2 hbox hb2; have H2 := Aside0.mk (And.intro (show LBox w2 g4 (.slice B q d) ⟨fr, n, fi, nx, hv, l, er⟩ from hbox) (And.intro (H1.out.1.below hb2) (And.intro (below_step H1.out.2.1 hb2) (And.intro hg4 (show w.heap.size ≤ g3 ∧ g3 < g4 by rw [hg4, ← H1.out.2.2]; exact ⟨Nat.le_refl _, by rw [H1.out.2.2]; exact blk_lt (by rw [← H1.out.2.2]; exact H1.out.1)⟩))))); clear hbox hb2 hg4)
    | ((with_reducible refine gate_dst (N := 6) rfl ?_); refine box_new ?hg ?hr ?_; (case hg => rfl); (case hr => first | kernel_rfl | (go_simp; done) | (go_simp; rfl)); intro w3 hb3 hbl3 hs3; obtain ⟨g6, hg6⟩ : ∃ g, g = w2.heap.size := ⟨_, rfl⟩; rw [← hg6] at hb3 ⊢; have H3 := Aside0.mk (And.intro hb3 (And.intro (H2.out.1.below hbl3) (And.intro (H2.out.2.1.below hbl3) (And.intro (below_step H2.out.2.2.1 hbl3) (And.intro (show g4 < g6 by rw [hg6]; exact blk_lt H2.out.1) H2.out.2.2.2.2))))); clear hb3 hbl3 hs3 hg6)
    | ((with_reducible refine gate_dst (N := 7) rfl ?_); refine lbox_new ?hg ?hr ?_; (case hg => rfl); (case hr => first | kernel_rfl | (go_simp; done) | (go_simp; rfl)); intro w4 hb4 hbl4 hs4; obtain ⟨g7, hg7⟩ : ∃ g, g = w3.heap.size := ⟨_, rfl⟩; rw [← hg7] at hb4 ⊢; have H4 := Aside0.mk (as_of HP.out hb4 (H3.out.1.below hbl4) (H3.out.2.1.below hbl4) (H3.out.2.2.1.below hbl4) (below_step H3.out.2.2.2.1 hbl4) H3.out.2.2.2.2.2.1 H3.out.2.2.2.2.2.2 H3.out.2.2.2.2.1 (by rw [hg7]; exact blk_lt H3.out.1)); obtain ⟨c0, c1, c2, c3, c4, c5, c6⟩ := H4.out.l.cells; clear hb4 hbl4 hs4 hg7))
  obtain ⟨wd, hwd⟩ : ∃ wd, wd = w4.drew := ⟨_, rfl⟩
  have HD := Aside0.mk (H4.out.below (show Below w4.heap.size w4 wd by rw [hwd]; exact below_drew1 (Below.refl _ _)))
  refine start_ (n := 7) (S := fun w' => BoxAt w' g3 (.slice A m c) D ∧ LBox w' g4 (.slice B q d) ⟨fr, n, fi, nx, hv, l, er⟩) (ds := []) #[false, false, false, false, false, false, false] (by kernel_rfl) rfl (by kernel_rfl) (by rw [← hwd]; exact ⟨HD.out.d, HD.out.l⟩) (fun hHeld => ?_)
  rw [← hwd] at hHeld ⊢
  clear hwd
  refine take_ (i := 0) (N := some 18) (v := dv (.slice A m c) D) (a' := ?_) #[true, false, false, false, false, false, false] rfl rfl (by kernel_rfl) (fun _ _ _ h => h) (Or.inl ⟨by rfl, fun w' s0 => ?ld⟩) hHeld ?_ ?_
  case ld => exact loadD s0.1 (.tmp 3) rfl rfl
  rotate_left
  · simp only [Act.put, List.setIfInBounds_toArray, List.set_cons_zero, List.set_cons_succ, i64_w, i32_w]
    rfl
  refine take_ (i := 1) (N := some 19) (v := lv (.slice B q d) ⟨fr, n, fi, nx, hv, l, er⟩) (a' := ?_) #[true, true, false, false, false, false, false] rfl rfl (by kernel_rfl) (fun _ _ _ h => h) (Or.inl ⟨by rfl, fun w' s0 => ?ld⟩) hHeld ?_ ?_
  case ld => exact loadL s0.2 (.tmp 4) rfl rfl
  rotate_left
  · simp only [Act.put, List.setIfInBounds_toArray, List.set_cons_zero, List.set_cons_succ, i64_w, i32_w]
    rfl
  refine pure_ (i := 2) (N := some 20) (v := ?_) (a' := ?_) #[true, true, true, false, false, false, false] rfl rfl (by kernel_rfl) (fun _ _ _ h => h) (Or.inl ⟨by rfl, ?_⟩) ?_ ?_
  rotate_left
  · intro w'
    go_simp
    with_reducible rfl
  rotate_left
  · simp only [Act.put, List.setIfInBounds_toArray, List.set_cons_zero, List.set_cons_succ, i64_w, i32_w]
    rfl
  refine take_ (i := 3) (N := some 21) (v := ?_) (a' := ?_) #[true, true, true, true, false, false, false] rfl rfl (by kernel_rfl) (fun _ _ _ h => h) (Or.inl ⟨by rfl, ?_⟩) hHeld ?_ ?_
  rotate_left
  · rintro w' s0
    obtain ⟨_, _, _, _, _, _, e6⟩ := s0.2.cells
    go_simp
    with_reducible rfl
  rotate_left
  · simp only [Act.put, List.setIfInBounds_toArray, List.set_cons_zero, List.set_cons_succ, i64_w, i32_w]
    rfl
  refine one_ (i := 4) (N := none) #[true, true, true, true, true, false, false] rfl rfl (by kernel_rfl) (by decide) (fun K hK => ?_)
  refine skip_ (w1 := putD wd g6 (.slice A m c) D) (by rfl) rfl (storeD HD.out.d6 (.tmp 6) (.tmp 18) rfl rfl rfl) ?_
  have k5 := putD_kept wd g6 (.slice A m c) D
  have b5 := putD_box HD.out.d6 (.slice A m c) D
  have u5 := putD_below HD.out.bl (show w0.heap.size ≤ g6 by have h1 := HD.out.gs; have h2 := HD.out.b0; omega) (.slice A m c) D
  obtain ⟨w5, hw5⟩ : ∃ w5, w5 = putD wd g6 (.slice A m c) D := ⟨_, rfl⟩
  rw [← hw5] at k5 b5 u5 ⊢
  have H5 := Aside0.mk (And.intro k5 (And.intro b5 u5))
  have HS5 := Aside0.mk (show BoxAt w5 g3 (.slice A m c) D ∧ LBox w5 g4 (.slice B q d) ⟨fr, n, fi, nx, hv, l, er⟩ from ⟨HD.out.d.kept k5 (by have h1 := HD.out.gs; omega), HD.out.l.kept k5 (by have h1 := HD.out.gs; omega)⟩)
  clear hw5 k5 b5 u5
  refine hK.out _ _ (HS5.out) (fun hHeld => ?_)
  clear hK K
  refine one_ (i := 5) (N := none) #[true, true, true, true, true, true, false] rfl rfl (by kernel_rfl) (by decide) (fun K hK => ?_)
  have HL7 := Aside0.mk (HD.out.l7.kept H5.out.1 (show ¬ g7 = g6 by have h1 := HD.out.gs; omega))
  refine skip_ (w1 := putL w5 g7 (.slice B q d) ⟨fr, n, fi, nx, hv, l, er⟩) (by rfl) rfl (storeL HL7.out (.tmp 7) (.tmp 19) rfl rfl rfl) ?_
  have k6 := putL_kept w5 g7 (.slice B q d) ⟨fr, n, fi, nx, hv, l, er⟩
  have b6 := putL_box HL7.out (.slice B q d) ⟨fr, n, fi, nx, hv, l, er⟩
  have u6 := putL_below H5.out.2.2 (show w0.heap.size ≤ g7 by have h1 := HD.out.gs; have h2 := HD.out.b0; omega) (.slice B q d) ⟨fr, n, fi, nx, hv, l, er⟩
  obtain ⟨w6, hw6⟩ : ∃ w6, w6 = putL w5 g7 (.slice B q d) ⟨fr, n, fi, nx, hv, l, er⟩ := ⟨_, rfl⟩
  rw [← hw6] at k6 b6 u6 ⊢
  have H6 := Aside0.mk (And.intro b6 (And.intro (H5.out.2.1.kept k6 (show ¬ g6 = g7 by have h1 := HD.out.gs; omega)) (HD.out.post ((H5.out.1.mono (fun k e => Or.inl e)).then_ k6 (fun k e => .inl (.inr e))) u6)))
  have HS6 := Aside0.mk (show BoxAt w6 g3 (.slice A m c) D ∧ LBox w6 g4 (.slice B q d) ⟨fr, n, fi, nx, hv, l, er⟩ from ⟨HS5.out.1.kept k6 (by have h1 := HD.out.gs; omega), HS5.out.2.kept k6 (by have h1 := HD.out.gs; omega)⟩)
  clear hw6 k6 b6 u6
  refine hK.out _ _ (HS6.out) (fun hHeld => ?_)
  clear hK K
  refine pure_ (i := 6) (N := some 8) (v := ?_) (a' := ?_) #[true, true, true, true, true, true, true] rfl rfl (by kernel_rfl) (fun _ _ _ h => h) (Or.inl ⟨by rfl, ?_⟩) ?_ ?_
  rotate_left
  · intro w'
    go_simp
    with_reducible rfl
  rotate_left
  · simp only [Act.put, List.setIfInBounds_toArray, List.set_cons_zero, List.set_cons_succ, i64_w, i32_w]
    rfl
  refine done_ (by kernel_rfl) ?_
  go_wp2
  refine bodyPost_ret (results_list (rs := [.cell 6 30, .cell 7 75, .tmp 8]) rfl (by simp) (.cell g6 30 _ (0, 0) _ rfl H6.out.2.1 Try.underlying30 rfl (by kernel_rfl) (.cell g7 75 _ (0, 0) _ rfl H6.out.1 Try.underlying75 rfl (by kernel_rfl) (.tmp .nil)))) rfl ?_
  exact ⟨_, _, rfl, H6.out.2.2⟩
theorem radd_full {np : Nat} (hp : RPre w0 w (.slice A m c) (.slice B q d) D ⟨fr, n, fi, nx, hv, l, er⟩) (he : er = 0) (hX : X.size ≤ 100000) (hnp : blocksM X.size = np) (hb : 0 ≤ hv ∧ hv ≤ n ∧ n ≤ 65536) (hf : n - hv < np) : Calls Try.prog 43 #[dv (.slice A m c) D, lv (.slice B q d) ⟨fr, n, fi, nx, hv, l, er⟩, .string X] w fun e w' => ∃ v u, e = .returned (.tuple #[dv v D, lv u ⟨fr, n, fi, nx, hv, l, er⟩, .int .i64 31]) ∧ APost w0 w w' (.slice A m c) (.slice B q d) v u D ⟨fr, n, fi, nx, hv, l, er⟩ := by
  subst he
  have HP := Aside0.mk hp
  have HX := Aside0.mk (And.intro hX hnp)
  have hb0 := hb.1
  have hb1 := hb.2.1
  have hb2 := hb.2.2
  have d2 : decide ((np : Int) > n - hv) = true := decide_eq_true hf
  clear hp hX hnp hb hf
  go_enter Try.func43, Try.ntmps43
  go_upto_region 5 with (first
    | ((with_reducible refine gate_dst (N := 3) rfl ?_); refine box_event ?hg (N := 3) ?hd (cs := #[.slice A m c, .int .i64 D.left, .int .i64 D.torn, .bool D.down]) (t := 30) ?hr ?_; (case hd => rfl); (case hg => rfl); (case hr => first | (go_simp; done) | (go_simp; rfl)); intro g3 hg3 w1 hbox hb1; have H1 := Aside0.mk (And.intro (show BoxAt w1 g3 (.slice A m c) D from hbox) (And.intro hb1 hg3)); clear hbox hb1 hg3)
    | ((with_reducible refine gate_dst (N := 4) rfl ?_); refine box_event ?hg (N := 4) ?hd (cs := lcs (.slice B q d) ⟨fr, n, fi, nx, hv, l, 0⟩) (t := 75) ?hr ?_; (case hd => rfl); (case hg => rfl); (case hr => first | (go_simp; done) | (go_simp; rfl)); intro g4 hg4 w2 hbox hb2; have H2 := Aside0.mk (And.intro (show LBox w2 g4 (.slice B q d) ⟨fr, n, fi, nx, hv, l, 0⟩ from hbox) (And.intro (H1.out.1.below hb2) (And.intro (below_step H1.out.2.1 hb2) (And.intro hg4 (show w.heap.size ≤ g3 ∧ g3 < g4 by rw [hg4, ← H1.out.2.2]; exact ⟨Nat.le_refl _, by rw [H1.out.2.2]; exact blk_lt (by rw [← H1.out.2.2]; exact H1.out.1)⟩))))); clear hbox hb2 hg4)
    | ((with_reducible refine gate_dst (N := 6) rfl ?_); refine box_new ?hg ?hr ?_; (case hg => rfl); (case hr => first | kernel_rfl | (go_simp; done) | (go_simp; rfl)); intro w3 hb3 hbl3 hs3; obtain ⟨g6, hg6⟩ : ∃ g, g = w2.heap.size := ⟨_, rfl⟩; rw [← hg6] at hb3 ⊢; have H3 := Aside0.mk (And.intro hb3 (And.intro (H2.out.1.below hbl3) (And.intro (H2.out.2.1.below hbl3) (And.intro (below_step H2.out.2.2.1 hbl3) (And.intro (show g4 < g6 by rw [hg6]; exact blk_lt H2.out.1) H2.out.2.2.2.2))))); clear hb3 hbl3 hs3 hg6)
    | ((with_reducible refine gate_dst (N := 7) rfl ?_); refine lbox_new ?hg ?hr ?_; (case hg => rfl); (case hr => first | kernel_rfl | (go_simp; done) | (go_simp; rfl)); intro w4 hb4 hbl4 hs4; obtain ⟨g7, hg7⟩ : ∃ g, g = w3.heap.size := ⟨_, rfl⟩; rw [← hg7] at hb4 ⊢; have H4 := Aside0.mk (as_of HP.out hb4 (H3.out.1.below hbl4) (H3.out.2.1.below hbl4) (H3.out.2.2.1.below hbl4) (below_step H3.out.2.2.2.1 hbl4) H3.out.2.2.2.2.2.1 H3.out.2.2.2.2.2.2 H3.out.2.2.2.2.1 (by rw [hg7]; exact blk_lt H3.out.1)); obtain ⟨c0, c1, c2, c3, c4, c5, c6⟩ := H4.out.l.cells; clear hb4 hbl4 hs4 hg7)
    | (go_at_call 41; go_loud (have hx := r9blocks_calls (w := w4) (X.size : Int) (by have := HX.out.1; omega); rw [HX.out.2] at hx; refine hx.mono ?_; clear hx; rintro e w8 ⟨rfl, hb8⟩; have H8 := Aside0.mk (H4.out.below hb8); clear c0 c1 c2 c3 c4 c5 c6 hb8; obtain ⟨c0, c1, c2, c3, c4, c5, c6⟩ := H8.out.l.cells)))
  obtain ⟨wd, hwd⟩ : ∃ wd, wd = w8.drew := ⟨_, rfl⟩
  have HD := Aside0.mk (H8.out.below (show Below w8.heap.size w8 wd by rw [hwd]; exact below_drew1 (Below.refl _ _)))
  refine start_ (n := 5) (S := fun w' => BoxAt w' g3 (.slice A m c) D ∧ LBox w' g4 (.slice B q d) ⟨fr, n, fi, nx, hv, l, 0⟩) (ds := []) #[false, false, false, false, false] (by kernel_rfl) rfl (by kernel_rfl) (by rw [← hwd]; exact ⟨HD.out.d, HD.out.l⟩) (fun hHeld => ?_)
  rw [← hwd] at hHeld ⊢
  clear hwd
  refine take_ (i := 0) (N := some 32) (v := dv (.slice A m c) D) (a' := ?_) #[true, false, false, false, false] rfl rfl (by kernel_rfl) (fun _ _ _ h => h) (Or.inl ⟨by rfl, fun w' s0 => ?ld⟩) hHeld ?_ ?_
  case ld => exact loadD s0.1 (.tmp 3) rfl rfl
  rotate_left
  · simp only [Act.put, List.setIfInBounds_toArray, List.set_cons_zero, List.set_cons_succ, i64_w, i32_w]
    rfl
  refine take_ (i := 1) (N := some 33) (v := lv (.slice B q d) ⟨fr, n, fi, nx, hv, l, 0⟩) (a' := ?_) #[true, true, false, false, false] rfl rfl (by kernel_rfl) (fun _ _ _ h => h) (Or.inl ⟨by rfl, fun w' s0 => ?ld⟩) hHeld ?_ ?_
  case ld => exact loadL s0.2 (.tmp 4) rfl rfl
  rotate_left
  · simp only [Act.put, List.setIfInBounds_toArray, List.set_cons_zero, List.set_cons_succ, i64_w, i32_w]
    rfl
  refine one_ (i := 2) (N := none) #[true, true, true, false, false] rfl rfl (by kernel_rfl) (by decide) (fun K hK => ?_)
  refine skip_ (w1 := putD wd g6 (.slice A m c) D) (by rfl) rfl (storeD HD.out.d6 (.tmp 6) (.tmp 32) rfl rfl rfl) ?_
  have k5 := putD_kept wd g6 (.slice A m c) D
  have b5 := putD_box HD.out.d6 (.slice A m c) D
  have u5 := putD_below HD.out.bl (show w0.heap.size ≤ g6 by have h1 := HD.out.gs; have h2 := HD.out.b0; omega) (.slice A m c) D
  obtain ⟨w5, hw5⟩ : ∃ w5, w5 = putD wd g6 (.slice A m c) D := ⟨_, rfl⟩
  rw [← hw5] at k5 b5 u5 ⊢
  have H5 := Aside0.mk (And.intro k5 (And.intro b5 u5))
  have HS5 := Aside0.mk (show BoxAt w5 g3 (.slice A m c) D ∧ LBox w5 g4 (.slice B q d) ⟨fr, n, fi, nx, hv, l, 0⟩ from ⟨HD.out.d.kept k5 (by have h1 := HD.out.gs; omega), HD.out.l.kept k5 (by have h1 := HD.out.gs; omega)⟩)
  clear hw5 k5 b5 u5
  refine hK.out _ _ (HS5.out) (fun hHeld => ?_)
  clear hK K
  refine one_ (i := 3) (N := none) #[true, true, true, true, false] rfl rfl (by kernel_rfl) (by decide) (fun K hK => ?_)
  have HL7 := Aside0.mk (HD.out.l7.kept H5.out.1 (show ¬ g7 = g6 by have h1 := HD.out.gs; omega))
  refine skip_ (w1 := putL w5 g7 (.slice B q d) ⟨fr, n, fi, nx, hv, l, 0⟩) (by rfl) rfl (storeL HL7.out (.tmp 7) (.tmp 33) rfl rfl rfl) ?_
  have k6 := putL_kept w5 g7 (.slice B q d) ⟨fr, n, fi, nx, hv, l, 0⟩
  have b6 := putL_box HL7.out (.slice B q d) ⟨fr, n, fi, nx, hv, l, 0⟩
  have u6 := putL_below H5.out.2.2 (show w0.heap.size ≤ g7 by have h1 := HD.out.gs; have h2 := HD.out.b0; omega) (.slice B q d) ⟨fr, n, fi, nx, hv, l, 0⟩
  obtain ⟨w6, hw6⟩ : ∃ w6, w6 = putL w5 g7 (.slice B q d) ⟨fr, n, fi, nx, hv, l, 0⟩ := ⟨_, rfl⟩
  rw [← hw6] at k6 b6 u6 ⊢
  have H6 := Aside0.mk (And.intro b6 (And.intro (H5.out.2.1.kept k6 (show ¬ g6 = g7 by have h1 := HD.out.gs; omega)) (HD.out.post ((H5.out.1.mono (fun k e => Or.inl e)).then_ k6 (fun k e => .inl (.inr e))) u6)))
  have HS6 := Aside0.mk (show BoxAt w6 g3 (.slice A m c) D ∧ LBox w6 g4 (.slice B q d) ⟨fr, n, fi, nx, hv, l, 0⟩ from ⟨HS5.out.1.kept k6 (by have h1 := HD.out.gs; omega), HS5.out.2.kept k6 (by have h1 := HD.out.gs; omega)⟩)
  clear hw6 k6 b6 u6
  refine hK.out _ _ (HS6.out) (fun hHeld => ?_)
  clear hK K
  refine pure_ (i := 4) (N := some 8) (v := ?_) (a' := ?_) #[true, true, true, true, true] rfl rfl (by kernel_rfl) (fun _ _ _ h => h) (Or.inl ⟨by rfl, ?_⟩) ?_ ?_
  rotate_left
  · intro w'
    go_simp
    with_reducible rfl
  rotate_left
  · simp only [Act.put, List.setIfInBounds_toArray, List.set_cons_zero, List.set_cons_succ, i64_w, i32_w]
    rfl
  refine done_ (by kernel_rfl) ?_
  go_wp2
  refine bodyPost_ret (results_list (rs := [.cell 6 30, .cell 7 75, .tmp 8]) rfl (by simp) (.cell g6 30 _ (0, 0) _ rfl H6.out.2.1 Try.underlying30 rfl (by kernel_rfl) (.cell g7 75 _ (0, 0) _ rfl H6.out.1 Try.underlying75 rfl (by kernel_rfl) (.tmp .nil)))) rfl ?_
  exact ⟨_, _, rfl, H6.out.2.2⟩
theorem radd_worn {np : Nat} (hp : RPre w0 w (.slice A m c) (.slice B q d) D ⟨fr, n, fi, nx, hv, l, er⟩) (he : er = 0) (hX : X.size ≤ 100000) (hnp : blocksM X.size = np) (hb : 0 ≤ hv ∧ hv ≤ n ∧ n ≤ 65536) (hf : ¬ n - hv < np) (hx0 : 0 ≤ nx) (hx1 : nx ≤ 18446744073709551615) (hw : nx = 0 ∨ 18446744073709551615 < nx + np) : Calls Try.prog 43 #[dv (.slice A m c) D, lv (.slice B q d) ⟨fr, n, fi, nx, hv, l, er⟩, .string X] w fun e w' => ∃ v u, e = .returned (.tuple #[dv v D, lv u ⟨fr, n, fi, nx, hv, l, er⟩, .int .i64 38]) ∧ APost w0 w w' (.slice A m c) (.slice B q d) v u D ⟨fr, n, fi, nx, hv, l, er⟩ := by
  subst he
  have HP := Aside0.mk hp
  have HX := Aside0.mk (And.intro hX hnp)
  have hb0 := hb.1
  have hb1 := hb.2.1
  have hb2 := hb.2.2
  have d2 : decide ((np : Int) > n - hv) = false := decide_eq_false hf
  have hu1 : IntKind.u64.wrap (np : Int) = np := wraps_u64 _ (by omega) (by omega)
  have hu2 : IntKind.u64.wrap (18446744073709551615 - nx) = 18446744073709551615 - nx := wraps_u64 _ (by omega) (by omega)
  have hcase : (nx == 0) = true ∨ ((nx == 0) = false ∧ decide ((np : Int) > 18446744073709551615 - nx) = true) := by
    by_cases h0 : nx = 0
    · exact .inl (beq_iff_eq.2 h0)
    · exact .inr ⟨beq_eq_false_iff_ne.2 h0, decide_eq_true (by omega)⟩
  clear hp hX hnp hb hf hw
  rcases hcase with d3 | ⟨d3, d4⟩
  all_goals
    go_enter Try.func43, Try.ntmps43
    go_upto_region 7 with (first
      | ((with_reducible refine gate_dst (N := 3) rfl ?_); refine box_event ?hg (N := 3) ?hd (cs := #[.slice A m c, .int .i64 D.left, .int .i64 D.torn, .bool D.down]) (t := 30) ?hr ?_; (case hd => rfl); (case hg => rfl); (case hr => first | (go_simp; done) | (go_simp; rfl)); intro g3 hg3 w1 hbox hb1; have H1 := Aside0.mk (And.intro (show BoxAt w1 g3 (.slice A m c) D from hbox) (And.intro hb1 hg3)); clear hbox hb1 hg3)
      | ((with_reducible refine gate_dst (N := 4) rfl ?_); refine box_event ?hg (N := 4) ?hd (cs := lcs (.slice B q d) ⟨fr, n, fi, nx, hv, l, 0⟩) (t := 75) ?hr ?_; (case hd => rfl); (case hg => rfl); (case hr => first | (go_simp; done) | (go_simp; rfl)); intro g4 hg4 w2 hbox hb2; have H2 := Aside0.mk (And.intro (show LBox w2 g4 (.slice B q d) ⟨fr, n, fi, nx, hv, l, 0⟩ from hbox) (And.intro (H1.out.1.below hb2) (And.intro (below_step H1.out.2.1 hb2) (And.intro hg4 (show w.heap.size ≤ g3 ∧ g3 < g4 by rw [hg4, ← H1.out.2.2]; exact ⟨Nat.le_refl _, by rw [H1.out.2.2]; exact blk_lt (by rw [← H1.out.2.2]; exact H1.out.1)⟩))))); clear hbox hb2 hg4)
      | ((with_reducible refine gate_dst (N := 6) rfl ?_); refine box_new ?hg ?hr ?_; (case hg => rfl); (case hr => first | kernel_rfl | (go_simp; done) | (go_simp; rfl)); intro w3 hb3 hbl3 hs3; obtain ⟨g6, hg6⟩ : ∃ g, g = w2.heap.size := ⟨_, rfl⟩; rw [← hg6] at hb3 ⊢; have H3 := Aside0.mk (And.intro hb3 (And.intro (H2.out.1.below hbl3) (And.intro (H2.out.2.1.below hbl3) (And.intro (below_step H2.out.2.2.1 hbl3) (And.intro (show g4 < g6 by rw [hg6]; exact blk_lt H2.out.1) H2.out.2.2.2.2))))); clear hb3 hbl3 hs3 hg6)
      | ((with_reducible refine gate_dst (N := 7) rfl ?_); refine lbox_new ?hg ?hr ?_; (case hg => rfl); (case hr => first | kernel_rfl | (go_simp; done) | (go_simp; rfl)); intro w4 hb4 hbl4 hs4; obtain ⟨g7, hg7⟩ : ∃ g, g = w3.heap.size := ⟨_, rfl⟩; rw [← hg7] at hb4 ⊢; have H4 := Aside0.mk (as_of HP.out hb4 (H3.out.1.below hbl4) (H3.out.2.1.below hbl4) (H3.out.2.2.1.below hbl4) (below_step H3.out.2.2.2.1 hbl4) H3.out.2.2.2.2.2.1 H3.out.2.2.2.2.2.2 H3.out.2.2.2.2.1 (by rw [hg7]; exact blk_lt H3.out.1)); obtain ⟨c0, c1, c2, c3, c4, c5, c6⟩ := H4.out.l.cells; clear hb4 hbl4 hs4 hg7)
      | (go_at_call 41; go_loud (have hx := r9blocks_calls (w := w4) (X.size : Int) (by have := HX.out.1; omega); rw [HX.out.2] at hx; refine hx.mono ?_; clear hx; rintro e w8 ⟨rfl, hb8⟩; have H8 := Aside0.mk (H4.out.below hb8); clear c0 c1 c2 c3 c4 c5 c6 hb8; obtain ⟨c0, c1, c2, c3, c4, c5, c6⟩ := H8.out.l.cells)))
    obtain ⟨wd, hwd⟩ : ∃ wd, wd = w8.drew := ⟨_, rfl⟩
    have HD := Aside0.mk (H8.out.below (show Below w8.heap.size w8 wd by rw [hwd]; exact below_drew1 (Below.refl _ _)))
    refine start_ (n := 5) (S := fun w' => BoxAt w' g3 (.slice A m c) D ∧ LBox w' g4 (.slice B q d) ⟨fr, n, fi, nx, hv, l, 0⟩) (ds := []) #[false, false, false, false, false] (by kernel_rfl) rfl (by kernel_rfl) (by rw [← hwd]; exact ⟨HD.out.d, HD.out.l⟩) (fun hHeld => ?_)
    rw [← hwd] at hHeld ⊢
    clear hwd
    refine take_ (i := 0) (N := some 45) (v := dv (.slice A m c) D) (a' := ?_) #[true, false, false, false, false] rfl rfl (by kernel_rfl) (fun _ _ _ h => h) (Or.inl ⟨by rfl, fun w' s0 => ?ld⟩) hHeld ?_ ?_
    case ld => exact loadD s0.1 (.tmp 3) rfl rfl
    rotate_left
    · simp only [Act.put, List.setIfInBounds_toArray, List.set_cons_zero, List.set_cons_succ, i64_w, i32_w]
      rfl
    refine take_ (i := 1) (N := some 46) (v := lv (.slice B q d) ⟨fr, n, fi, nx, hv, l, 0⟩) (a' := ?_) #[true, true, false, false, false] rfl rfl (by kernel_rfl) (fun _ _ _ h => h) (Or.inl ⟨by rfl, fun w' s0 => ?ld⟩) hHeld ?_ ?_
    case ld => exact loadL s0.2 (.tmp 4) rfl rfl
    rotate_left
    · simp only [Act.put, List.setIfInBounds_toArray, List.set_cons_zero, List.set_cons_succ, i64_w, i32_w]
      rfl
    refine one_ (i := 2) (N := none) #[true, true, true, false, false] rfl rfl (by kernel_rfl) (by decide) (fun K hK => ?_)
    refine skip_ (w1 := putD wd g6 (.slice A m c) D) (by rfl) rfl (storeD HD.out.d6 (.tmp 6) (.tmp 45) rfl rfl rfl) ?_
    have k5 := putD_kept wd g6 (.slice A m c) D
    have b5 := putD_box HD.out.d6 (.slice A m c) D
    have u5 := putD_below HD.out.bl (show w0.heap.size ≤ g6 by have h1 := HD.out.gs; have h2 := HD.out.b0; omega) (.slice A m c) D
    obtain ⟨w5, hw5⟩ : ∃ w5, w5 = putD wd g6 (.slice A m c) D := ⟨_, rfl⟩
    rw [← hw5] at k5 b5 u5 ⊢
    have H5 := Aside0.mk (And.intro k5 (And.intro b5 u5))
    have HS5 := Aside0.mk (show BoxAt w5 g3 (.slice A m c) D ∧ LBox w5 g4 (.slice B q d) ⟨fr, n, fi, nx, hv, l, 0⟩ from ⟨HD.out.d.kept k5 (by have h1 := HD.out.gs; omega), HD.out.l.kept k5 (by have h1 := HD.out.gs; omega)⟩)
    clear hw5 k5 b5 u5
    refine hK.out _ _ (HS5.out) (fun hHeld => ?_)
    clear hK K
    refine one_ (i := 3) (N := none) #[true, true, true, true, false] rfl rfl (by kernel_rfl) (by decide) (fun K hK => ?_)
    have HL7 := Aside0.mk (HD.out.l7.kept H5.out.1 (show ¬ g7 = g6 by have h1 := HD.out.gs; omega))
    refine skip_ (w1 := putL w5 g7 (.slice B q d) ⟨fr, n, fi, nx, hv, l, 0⟩) (by rfl) rfl (storeL HL7.out (.tmp 7) (.tmp 46) rfl rfl rfl) ?_
    have k6 := putL_kept w5 g7 (.slice B q d) ⟨fr, n, fi, nx, hv, l, 0⟩
    have b6 := putL_box HL7.out (.slice B q d) ⟨fr, n, fi, nx, hv, l, 0⟩
    have u6 := putL_below H5.out.2.2 (show w0.heap.size ≤ g7 by have h1 := HD.out.gs; have h2 := HD.out.b0; omega) (.slice B q d) ⟨fr, n, fi, nx, hv, l, 0⟩
    obtain ⟨w6, hw6⟩ : ∃ w6, w6 = putL w5 g7 (.slice B q d) ⟨fr, n, fi, nx, hv, l, 0⟩ := ⟨_, rfl⟩
    rw [← hw6] at k6 b6 u6 ⊢
    have H6 := Aside0.mk (And.intro b6 (And.intro (H5.out.2.1.kept k6 (show ¬ g6 = g7 by have h1 := HD.out.gs; omega)) (HD.out.post ((H5.out.1.mono (fun k e => Or.inl e)).then_ k6 (fun k e => .inl (.inr e))) u6)))
    have HS6 := Aside0.mk (show BoxAt w6 g3 (.slice A m c) D ∧ LBox w6 g4 (.slice B q d) ⟨fr, n, fi, nx, hv, l, 0⟩ from ⟨HS5.out.1.kept k6 (by have h1 := HD.out.gs; omega), HS5.out.2.kept k6 (by have h1 := HD.out.gs; omega)⟩)
    clear hw6 k6 b6 u6
    refine hK.out _ _ (HS6.out) (fun hHeld => ?_)
    clear hK K
    refine pure_ (i := 4) (N := some 8) (v := ?_) (a' := ?_) #[true, true, true, true, true] rfl rfl (by kernel_rfl) (fun _ _ _ h => h) (Or.inl ⟨by rfl, ?_⟩) ?_ ?_
    rotate_left
    · intro w'
      go_simp
      with_reducible rfl
    rotate_left
    · simp only [Act.put, List.setIfInBounds_toArray, List.set_cons_zero, List.set_cons_succ, i64_w, i32_w]
      rfl
    refine done_ (by kernel_rfl) ?_
    go_wp2
    refine bodyPost_ret (results_list (rs := [.cell 6 30, .cell 7 75, .tmp 8]) rfl (by simp) (.cell g6 30 _ (0, 0) _ rfl H6.out.2.1 Try.underlying30 rfl (by kernel_rfl) (.cell g7 75 _ (0, 0) _ rfl H6.out.1 Try.underlying75 rfl (by kernel_rfl) (.tmp .nil)))) rfl ?_
    exact ⟨_, _, rfl, H6.out.2.2⟩
end
end Go.Proofs.Ytnajdnhgoakgaaa.Blk
