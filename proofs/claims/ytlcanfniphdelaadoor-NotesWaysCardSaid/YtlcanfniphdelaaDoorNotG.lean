/- What noteOf builds. -/
import Derived.Test.YtlcanfniphdelaaDoorRPut
namespace Go.Proofs.YtlcanfniphdelaaDoor.Not
open Go.RowKit Go.Maps Go.Proofs.YtlcanfniphdelaaDoorW.PrintWords Go.Proofs.YtlcanfniphdelaaDoorW.PrintLast Go.Proofs.YtlcanfniphdelaaDoorW.PrintMore Go.Proofs.YtlcanfniphdelaaDoor.Mem Go.Proofs.YtlcanfniphdelaaDoor.Cod Go.Proofs.YtlcanfniphdelaaDoor.Ins Go.Proofs.YtlcanfniphdelaaDoor.Open Go.Proofs.YtlcanfniphdelaaDoor.PCod
set_option linter.unusedVariables false
set_option linter.unusedSimpArgs false
set_option maxRecDepth 8000
set_option maxHeartbeats 4000000
section
variable {w : World}
theorem list32 {p : List Int} (h : p.length = 32) : ∃ x0 x1 x2 x3 x4 x5 x6 x7 x8 x9 x10 x11 x12 x13 x14 x15 x16 x17 x18 x19 x20 x21 x22 x23 x24 x25 x26 x27 x28 x29 x30 x31 : Int, p = [x0, x1, x2, x3, x4, x5, x6, x7, x8, x9, x10, x11, x12, x13, x14, x15, x16, x17, x18, x19, x20, x21, x22, x23, x24, x25, x26, x27, x28, x29, x30, x31] := by
  have hg : ∀ i (hi : i < 32), p[i]'(by omega) = p[i]'(by omega) := fun _ _ => rfl
  refine ⟨p[0]'(by omega), p[1]'(by omega), p[2]'(by omega), p[3]'(by omega), p[4]'(by omega), p[5]'(by omega), p[6]'(by omega), p[7]'(by omega), p[8]'(by omega), p[9]'(by omega), p[10]'(by omega), p[11]'(by omega), p[12]'(by omega), p[13]'(by omega), p[14]'(by omega), p[15]'(by omega), p[16]'(by omega), p[17]'(by omega), p[18]'(by omega), p[19]'(by omega), p[20]'(by omega), p[21]'(by omega), p[22]'(by omega), p[23]'(by omega), p[24]'(by omega), p[25]'(by omega), p[26]'(by omega), p[27]'(by omega), p[28]'(by omega), p[29]'(by omega), p[30]'(by omega), p[31]'(by omega), ?_⟩
  apply List.ext_getElem
  · simp [h]
  · intro i h1 h2
    have h3 : i < 32 := by omega
    match i, h3 with
    | 0, _ => rfl
    | 1, _ => rfl
    | 2, _ => rfl
    | 3, _ => rfl
    | 4, _ => rfl
    | 5, _ => rfl
    | 6, _ => rfl
    | 7, _ => rfl
    | 8, _ => rfl
    | 9, _ => rfl
    | 10, _ => rfl
    | 11, _ => rfl
    | 12, _ => rfl
    | 13, _ => rfl
    | 14, _ => rfl
    | 15, _ => rfl
    | 16, _ => rfl
    | 17, _ => rfl
    | 18, _ => rfl
    | 19, _ => rfl
    | 20, _ => rfl
    | 21, _ => rfl
    | 22, _ => rfl
    | 23, _ => rfl
    | 24, _ => rfl
    | 25, _ => rfl
    | 26, _ => rfl
    | 27, _ => rfl
    | 28, _ => rfl
    | 29, _ => rfl
    | 30, _ => rfl
    | 31, _ => rfl
    | i + 32, h4 => omega
theorem build_n20 (W : World) (k n o : Int) (p : List Int) (hp : p.length = 32) (s : ByteArray) (Y : Option Addr) (yl yc : Nat) : (Instr.build 36 #[(0, .int .i64 k), (1, .agg (nums .u8 p).toArray), (2, .int .u64 n), (3, .int .u64 o), (4, .string s), (5, .slice Y yl yc)]).run Tryd.prog W = .ok (.agg (ncells k n o p (.string s) (.slice Y yl yc)).toArray) W := by
  obtain ⟨x0, x1, x2, x3, x4, x5, x6, x7, x8, x9, x10, x11, x12, x13, x14, x15, x16, x17, x18, x19, x20, x21, x22, x23, x24, x25, x26, x27, x28, x29, x30, x31, rfl⟩ := list32 hp
  kernel_rfl
def nz20 : List Value := ncells 0 0 0 (List.replicate 32 0) (.string ByteArray.empty) (.slice none 0 0)
theorem nc_one (k n o : Int) (p : List Int) (s : ByteArray) (Y : Option Addr) (yl yc : Nat) : (ncells k n o p (.string s) (.slice Y yl yc)).toArray.all (·.oneCell') = true := by
  unfold ncells nums
  simp [Value.oneCell']
theorem nc_len (k n o : Int) (p : List Int) (hp : p.length = 32) (vB vY : Value) : (ncells k n o p vB vY).length = 37 := by simp [ncells, nums_length, hp]
theorem noteOf_calls (k n o : Int) (p b : List Int) (hp : p.length = 32) (A : Option Addr) (bc : Nat) (Y : Option Addr) (yl yc : Nat) (hb : Kd.C (Kd.int .u8) w A b.length b) :
    Calls Tryd.prog 10 #[.agg (ncells k n o p (.slice A b.length bc) (.slice Y yl yc)).toArray] w fun e w' => e = .returned (.agg (ncells k n o p (.string (S b)) (.slice Y yl yc)).toArray) ∧ Below w.heap.size w w' := by
  obtain ⟨cs, hcs⟩ : ∃ cs, cs = (ncells k n o p (.slice A b.length bc) (.slice Y yl yc)).toArray := ⟨_, rfl⟩
  rw [← hcs]
  have HCS := Aside0.mk hcs
  have HB := Aside0.mk hb
  obtain ⟨s, hs⟩ : ∃ s, s = S b := ⟨_, rfl⟩
  rw [← hs]
  have HS := Aside0.mk hs
  obtain ⟨cs2, hcs2⟩ : ∃ cs, cs = (ncells k n o p (.string s) (.slice Y yl yc)).toArray := ⟨_, rfl⟩
  rw [← hcs2]
  have HC2 := Aside0.mk hcs2
  clear hcs hb hs hcs2
  go_enter Tryd.func10, Tryd.ntmps10
  go_wp2_with (first
    | ((with_reducible refine gate_dst (N := 1) rfl ?_); refine box_event ?hg (N := 1) ?hd (cs := cs) (t := 28) ?hr ?_; (case hd => rfl); (case hg => rfl); (case hr => exact exec_box _ _ _ rfl cs rfl); intro gb hgb w1 hbox hb1; have H1 := Aside0.mk (And.intro (show NoteAt w1 gb k n o p (.slice A b.length bc) (.slice Y yl yc) by rw [HCS.out] at hbox; exact hbox) hb1); clear hbox hb1 hgb)
    | ((with_reducible refine gate_dst (N := 2) rfl ?_); refine Kd.event_run rfl (v := .pointer (some ⟨w1.heap.size, 0, none⟩)) (w1 := w1.alloc (.cells nz20.toArray 36)) ?hr ?_; (case hr => first | kernel_rfl | (go_simp; done) | (go_simp; rfl)); go_loud (refine wpName (fun w2 hw2 => ?_); have hbb : Below w1.heap.size w1 w2 := (by rw [hw2]; exact below_alloc (Below.refl _ _) _); have hz2 : w2.heap[w1.heap.size]? = some (.cells nz20.toArray 36 (0, 0)) := (by rw [hw2]; exact blk_new w1 _); have h2 := H1.out.1.below hbb; obtain ⟨a0, a1, a2, a3, a4, a5⟩ := h2.cells hp; have hcv := conv_row (c := bc) rfl HB.out (below_step H1.out.2 hbb); rw [← HS.out] at hcv; have H2 := Aside0.mk (And.intro h2 (And.intro hz2 (And.intro (below_step H1.out.2 hbb) (And.intro a5 (below_size H1.out.2))))); clear hw2 hbb hz2 h2 a5))
    | ((with_reducible refine gate_dst (N := 6) rfl ?_); refine Kd.event_run rfl (v := .agg (nums .u8 p).toArray) (w1 := w2) ?hr ?_; (case hr => exact exec_load_any w2 23 (.tmp 5) rfl ⟨gb, 1, none⟩ rfl (nums .u8 p) _ (fun j v hj => by have h := H2.out.2.2.2.1 j v hj; rw [← add_p] at h; exact h) Tryd.underlying23 rfl (by rw [nums_length, hp]; kernel_rfl)))
    | ((with_reducible refine gate_dst (N := 16) rfl ?_); refine Kd.event_run rfl (v := .agg cs2) (w1 := w2) ?hr ?_; (case hr => (have h := build_n20 w2 k n o p hp s Y yl yc; rw [← HC2.out] at h; unfold execOp; simp [Act.eval, h])))
    | ((with_reducible refine gate_store (ty := 36) (x := .tmp 2) (y := .tmp 16) rfl ?_); refine wpList_store_row rfl 36 (.tmp 2) (.tmp 16) rfl w1.heap.size cs2 rfl rfl 36 nz20.toArray H2.out.2.1 (by rw [HC2.out, List.size_toArray, nc_len k n o p hp]; kernel_rfl) (by rw [HC2.out, List.size_toArray, List.size_toArray, nc_len k n o p hp]; rfl) (by rw [HC2.out]; exact nc_one k n o p s Y yl yc) ?_; go_loud (refine wpName (fun w3 hw3 => ?_); have H3 := Aside0.mk (And.intro (show w3.heap[w1.heap.size]? = some (.cells cs2 36 (0, 0)) by rw [hw3]; exact setRow_heap _ _ _ _ _ _ H2.out.2.1) (show Below w.heap.size w w3 by rw [hw3]; exact below_setRow H2.out.2.2.1 H2.out.2.2.2.2 _)); clear hw3)))
  refine bodyPost_ret (results_cell_row rfl _ _ w1.heap.size 36 cs2 (0, 0) _ rfl H3.out.1 Tryd.underlying36 rfl (by rw [HC2.out, List.size_toArray, nc_len k n o p hp]; kernel_rfl)) rfl ?_
  exact ⟨rfl, H3.out.2⟩
end
end Go.Proofs.YtlcanfniphdelaaDoor.Not

/- Two notes of the document that are the same. -/
namespace Go.Proofs.YtlcanfniphdelaaDoor.Not
open Go.RowKit Go.Maps Go.Proofs.YtlcanfniphdelaaDoorW.PrintWords Go.Proofs.YtlcanfniphdelaaDoorW.PrintLast Go.Proofs.YtlcanfniphdelaaDoorW.PrintMore Go.Proofs.YtlcanfniphdelaaDoor.Mem Go.Proofs.YtlcanfniphdelaaDoor.Cod Go.Proofs.YtlcanfniphdelaaDoor.Ins Go.Proofs.YtlcanfniphdelaaDoor.Open Go.Proofs.YtlcanfniphdelaaDoor.PCod
set_option linter.unusedVariables false
set_option linter.unusedSimpArgs false
set_option maxRecDepth 8000
set_option maxHeartbeats 4000000
section
variable {w : World}
theorem same_calls (k n o : Int) (p b : List Int) (ids : List (List Int)) (hp : p.length = 32) (Y Z : Option Addr) (yc zc : Nat) (hY : IdsAt w Y ids) (hZ : IdsAt w Z ids) (hl : ids.length ≤ 9223372036854775807) :
    Calls Tryd.prog 14 #[.agg (ncells k n o p (.string (S b)) (.slice Y ids.length yc)).toArray, .agg (ncells k n o p (.string (S b)) (.slice Z ids.length zc)).toArray] w fun e w' => e = .returned (.bool true) ∧ Below w.heap.size w w' := by
  obtain ⟨s, hs⟩ : ∃ s, s = S b := ⟨_, rfl⟩
  rw [← hs]
  clear hs
  obtain ⟨c1, hc1⟩ : ∃ cs, cs = (ncells k n o p (.string s) (.slice Y ids.length yc)).toArray := ⟨_, rfl⟩
  obtain ⟨c2, hc2⟩ : ∃ cs, cs = (ncells k n o p (.string s) (.slice Z ids.length zc)).toArray := ⟨_, rfl⟩
  rw [← hc1, ← hc2]
  have HC := Aside0.mk (And.intro hc1 hc2)
  have HI := Aside0.mk (And.intro hY hZ)
  have HS : Aside0 (∀ (x : List Int), x.length = 32 → ∀ W : World, (Op.equalIn 10000 23 (.agg (nums .u8 x).toArray) (.agg (nums .u8 x).toArray)).run Tryd.prog W = .ok true W) := ⟨fun x hx W => by have h := eq_id x x hx hx W; simpa using h⟩
  have hqp := HS.out p hp
  have q1 : (k != k) = false := by simp
  have q2 : (n != n) = false := by simp
  have q3 : (o != o) = false := by simp
  have q4 : (s.toList != s.toList) = false := by simp
  have q5 : ((ids.length : Int) != (ids.length : Int)) = false := by simp
  clear hc1 hc2 hY hZ
  go_enter Tryd.func14, Tryd.ntmps14
  go_wp2_with (first
    | ((with_reducible refine gate_dst (N := 2) rfl ?_); refine box_event ?hg (N := 2) ?hd (cs := c1) (t := 36) ?hr ?_; (case hd => rfl); (case hg => rfl); (case hr => exact exec_box _ _ _ rfl c1 rfl); intro g1 hg1 w1 hbox hb1; have H1 := Aside0.mk (And.intro (show RAt w1 g1 k n o p (.string s) (.slice Y ids.length yc) by rw [HC.out.1] at hbox; exact hbox) hb1); clear hbox hb1 hg1)
    | ((with_reducible refine gate_dst (N := 3) rfl ?_); refine box_event ?hg (N := 3) ?hd (cs := c2) (t := 36) ?hr ?_; (case hd => rfl); (case hg => rfl); (case hr => exact exec_box _ _ _ rfl c2 rfl); intro g2 hg2 w2 hbox hb2; have h2 := (show RAt w2 g2 k n o p (.string s) (.slice Z ids.length zc) by rw [HC.out.2] at hbox; exact hbox); have h1 := H1.out.1.below hb2; obtain ⟨a0, a1, a2, a3, a4, a5⟩ := h1.cells hp; obtain ⟨b0, b1, b2, b3, b4, b5⟩ := h2.cells hp; have H2 := Aside0.mk (And.intro (And.intro h1 h2) (And.intro (below_step H1.out.2 hb2) (And.intro a5 b5))); clear hbox hb2 hg2 h1 h2 a5 b5)
    | ((with_reducible refine gate_dst (N := 13) rfl ?_); (try (refine gate_guard (by rfl) ?_; dsimp only)); refine Kd.event_run rfl (v := .agg (nums .u8 p).toArray) (w1 := w2) ?hr ?_; (case hr => exact exec_load_any w2 23 (.tmp 12) rfl ⟨g1, 1, none⟩ rfl (nums .u8 p) _ (fun j v hj => by have h := H2.out.2.2.1 j v hj; rw [← add_p] at h; exact h) Tryd.underlying23 rfl (by rw [nums_length, hp]; kernel_rfl)))
    | ((with_reducible refine gate_dst (N := 15) rfl ?_); (try (refine gate_guard (by rfl) ?_; dsimp only)); refine Kd.event_run rfl (v := .agg (nums .u8 p).toArray) (w1 := w2) ?hr ?_; (case hr => exact exec_load_any w2 23 (.tmp 14) rfl ⟨g2, 1, none⟩ rfl (nums .u8 p) _ (fun j v hj => by have h := H2.out.2.2.2 j v hj; rw [← add_p] at h; exact h) Tryd.underlying23 rfl (by rw [nums_length, hp]; kernel_rfl))))
  have HL0 : Aside0 ((RAt w2 g1 k n o p (.string s) (.slice Y ids.length yc) ∧ RAt w2 g2 k n o p (.string s) (.slice Z ids.length zc)) ∧ Below w.heap.size w w2) := ⟨H2.out.1, H2.out.2.1⟩
  clear H1 H2 a0 a1 a2 a3 a4 b0 b1 b2 b3 b4 hqp
  go_loopg [5] ids.length (fun q v5 wr => ∃ i : Nat, v5 = .int .i64 i ∧ q + i = ids.length ∧ Aside0 ((RAt wr g1 k n o p (.string s) (.slice Y ids.length yc) ∧ RAt wr g2 k n o p (.string s) (.slice Z ids.length zc)) ∧ Below w.heap.size w wr))
  case atStart => exact ⟨0, rfl, by omega, HL0⟩
  case round =>
    clear HL0
    obtain ⟨i, rfl, hq, hI⟩ := hrel
    obtain ⟨a0, a1, a2, a3, a4, a5⟩ := hI.out.1.1.cells hp
    clear a5
    by_cases hlt : i < ids.length
    · have d2 : decide ((i : Int) < (ids.length : Int)) = true := decide_eq_true (by omega)
      have d2n : decide (i < ids.length) = true := decide_eq_true (by omega)
      obtain ⟨hl32, _, ad, hYe, hy⟩ := HI.out.1 i hlt
      obtain ⟨_, _, az, hZe, hz⟩ := HI.out.2 i hlt
      subst hYe hZe
      obtain ⟨id, hid⟩ : ∃ id, id = ids.getD i [] := ⟨_, rfl⟩
      rw [← hid] at hl32 hy hz
      have HH := Aside0.mk (And.intro hl32 (And.intro hy hz))
      clear hl32 hy hz hid
      go_upto_region 6 with (fail)
      obtain ⟨wd, hwd⟩ : ∃ wd, wd = wr.drew := ⟨_, rfl⟩
      have hbd : Below wr.heap.size wr wd := by rw [hwd]; exact below_drew1 (Below.refl _ _)
      have HD := Aside0.mk (And.intro (And.intro (hI.out.1.1.below hbd) (hI.out.1.2.below hbd)) (below_step hI.out.2 hbd))
      clear hbd a0 a1 a2 a3 a4
      have hqi := HS.out id HH.out.1
      refine start_ (n := 11) (S := fun w' => (RAt w' g1 k n o p (.string s) (.slice (some ad) ids.length yc) ∧ RAt w' g2 k n o p (.string s) (.slice (some az) ids.length zc)) ∧ Below w.heap.size w w') (ds := []) #[false, false, false, false, false, false, false, false, false, false, false] (by kernel_rfl) rfl rfl (by rw [← hwd]; exact HD.out) (fun hHeld => ?_)
      rw [← hwd] at hHeld ⊢
      clear hwd
      refine pure_ (i := 0) (N := some 55) (v := ?_) (a' := ?_) #[true, false, false, false, false, false, false, false, false, false, false] rfl rfl (by kernel_rfl) (fun _ _ _ h => h) (Or.inl ⟨by rfl, ?_⟩) ?_ ?_
      rotate_left
      · intro w'
        go_simp
        with_reducible rfl
      rotate_left
      · simp only [Act.put, List.setIfInBounds_toArray, List.set_cons_zero, List.set_cons_succ, i64_w, i32_w]
        rfl
      refine take_ (i := 1) (N := some 56) (v := ?_) (a' := ?_) #[true, true, false, false, false, false, false, false, false, false, false] rfl rfl (by kernel_rfl) (fun _ _ _ h => h) (Or.inl ⟨by rfl, ?_⟩) hHeld ?_ ?_
      rotate_left
      · rintro w' s0
        obtain ⟨a0, a1, a2, a3, a4, a5⟩ := RAt.cells s0.1.1 hp
        go_simp
        with_reducible rfl
      rotate_left
      · simp only [Act.put, List.setIfInBounds_toArray, List.set_cons_zero, List.set_cons_succ, i64_w, i32_w]
        rfl
      refine pure_ (i := 2) (N := some 57) (v := ?_) (a' := ?_) #[true, true, true, false, false, false, false, false, false, false, false] rfl rfl (by kernel_rfl) (fun _ _ _ h => h) (Or.inl ⟨by rfl, ?_⟩) ?_ ?_
      rotate_left
      · intro w'
        go_simp
        with_reducible rfl
      rotate_left
      · simp only [Act.put, List.setIfInBounds_toArray, List.set_cons_zero, List.set_cons_succ, i64_w, i32_w]
        rfl
      refine pure_ (i := 3) (N := some 58) (v := ?_) (a' := ?_) #[true, true, true, true, false, false, false, false, false, false, false] rfl rfl (by kernel_rfl) (fun _ _ _ h => h) (Or.inl ⟨by rfl, ?_⟩) ?_ ?_
      rotate_left
      · intro w'
        go_simp
        with_reducible rfl
      rotate_left
      · simp only [Act.put, List.setIfInBounds_toArray, List.set_cons_zero, List.set_cons_succ, i64_w, i32_w]
        rfl
      refine take_ (i := 4) (N := some 59) (v := .agg (nums .u8 id).toArray) (a' := ?_) #[true, true, true, true, true, false, false, false, false, false, false] rfl rfl (by kernel_rfl) (fun _ _ _ h => h) (Or.inl ⟨by rfl, fun w' s0 => ?ld⟩) hHeld ?_ ?_
      case ld => exact exec_load_any w' 23 (.tmp 58) rfl (ad.add (i * 32)) rfl (nums .u8 id) _ (fun j v hj => by have h := HH.out.2.1 j v hj; rw [Go.Deep.add_add]; exact (s0.2.cell (World.block_lt_of_cell? w _ h)).trans h) Tryd.underlying23 rfl (by rw [nums_length, HH.out.1]; kernel_rfl)
      rotate_left
      · simp only [Act.put, List.setIfInBounds_toArray, List.set_cons_zero, List.set_cons_succ, i64_w, i32_w]
        rfl
      refine pure_ (i := 5) (N := some 60) (v := ?_) (a' := ?_) #[true, true, true, true, true, true, false, false, false, false, false] rfl rfl (by kernel_rfl) (fun _ _ _ h => h) (Or.inl ⟨by rfl, ?_⟩) ?_ ?_
      rotate_left
      · intro w'
        go_simp
        with_reducible rfl
      rotate_left
      · simp only [Act.put, List.setIfInBounds_toArray, List.set_cons_zero, List.set_cons_succ, i64_w, i32_w]
        rfl
      refine take_ (i := 6) (N := some 61) (v := ?_) (a' := ?_) #[true, true, true, true, true, true, true, false, false, false, false] rfl rfl (by kernel_rfl) (fun _ _ _ h => h) (Or.inl ⟨by rfl, ?_⟩) hHeld ?_ ?_
      rotate_left
      · rintro w' s0
        obtain ⟨a0, a1, a2, a3, a4, a5⟩ := RAt.cells s0.1.2 hp
        go_simp
        with_reducible rfl
      rotate_left
      · simp only [Act.put, List.setIfInBounds_toArray, List.set_cons_zero, List.set_cons_succ, i64_w, i32_w]
        rfl
      refine pure_ (i := 7) (N := some 62) (v := ?_) (a' := ?_) #[true, true, true, true, true, true, true, true, false, false, false] rfl rfl (by kernel_rfl) (fun _ _ _ h => h) (Or.inl ⟨by rfl, ?_⟩) ?_ ?_
      rotate_left
      · intro w'
        go_simp
        with_reducible rfl
      rotate_left
      · simp only [Act.put, List.setIfInBounds_toArray, List.set_cons_zero, List.set_cons_succ, i64_w, i32_w]
        rfl
      refine pure_ (i := 8) (N := some 63) (v := ?_) (a' := ?_) #[true, true, true, true, true, true, true, true, true, false, false] rfl rfl (by kernel_rfl) (fun _ _ _ h => h) (Or.inl ⟨by rfl, ?_⟩) ?_ ?_
      rotate_left
      · intro w'
        go_simp
        with_reducible rfl
      rotate_left
      · simp only [Act.put, List.setIfInBounds_toArray, List.set_cons_zero, List.set_cons_succ, i64_w, i32_w]
        rfl
      refine take_ (i := 9) (N := some 64) (v := .agg (nums .u8 id).toArray) (a' := ?_) #[true, true, true, true, true, true, true, true, true, true, false] rfl rfl (by kernel_rfl) (fun _ _ _ h => h) (Or.inl ⟨by rfl, fun w' s0 => ?ld⟩) hHeld ?_ ?_
      case ld => exact exec_load_any w' 23 (.tmp 63) rfl (az.add (i * 32)) rfl (nums .u8 id) _ (fun j v hj => by have h := HH.out.2.2 j v hj; rw [Go.Deep.add_add]; exact (s0.2.cell (World.block_lt_of_cell? w _ h)).trans h) Tryd.underlying23 rfl (by rw [nums_length, HH.out.1]; kernel_rfl)
      rotate_left
      · simp only [Act.put, List.setIfInBounds_toArray, List.set_cons_zero, List.set_cons_succ, i64_w, i32_w]
        rfl
      refine pure_ (i := 10) (N := some 65) (v := ?_) (a' := ?_) #[true, true, true, true, true, true, true, true, true, true, true] rfl rfl (by kernel_rfl) (fun _ _ _ h => h) (Or.inl ⟨by rfl, ?_⟩) ?_ ?_
      rotate_left
      · intro w'
        go_simp
        with_reducible rfl
      rotate_left
      · simp only [Act.put, List.setIfInBounds_toArray, List.set_cons_zero, List.set_cons_succ, i64_w, i32_w]
        rfl
      refine done_ (by kernel_rfl) ?_
      go_wp2
      go_roundg (ids.length - (i + 1))
      case measure => omega
      case rel => exact ⟨i + 1, by go_num, by omega, HD⟩
    · have d2 : decide ((i : Int) < (ids.length : Int)) = false := decide_eq_false (by omega)
      have d2n : decide (i < ids.length) = false := decide_eq_false (by omega)
      go_wp2
      go_ret
      exact ⟨rfl, hI.out.2⟩
end
end Go.Proofs.YtlcanfniphdelaaDoor.Not

/- What Get makes of bytes: a model. -/
namespace Go.Proofs.YtlcanfniphdelaaDoor.Not
open Go.RowKit Go.Proofs.YtlcanfniphdelaaDoorW.PrintWords Go.Proofs.YtlcanfniphdelaaDoor.Mem Go.Proofs.YtlcanfniphdelaaDoor.Cod
set_option linter.unusedVariables false
/-- A note. -/
structure GM where
  k : Int
  p : List Int
  n : Int
  o : Int
  b : List Int
  ids : List (List Int)
def zero32 : List Int := List.replicate 32 0
def GM.none : GM := ⟨0, zero32, 0, 0, [], []⟩
def idsM : Nat → RM → RM × List (List Int)
  | 0, R => (R, [])
  | m + 1, R => ((idsM m R).1.id.1, (idsM m R).2 ++ [(idsM m R).1.id.2])
def g1 (f : Int) (R : RM) : RM × List Int := if fbit f 1 = true then R.id else (R, zero32)
def g2 (f m : Int) (R : RM) : RM × Int := if fbit f m = true then R.uint else (R, 0)
def g4 (f k : Int) (R : RM) : RM × List Int := if fbit f 8 = true then R.bytes (mostOf k) else (R, [])
/-- How far the reader is behind the bytes' field. -/
def gR5 (k : Int) (R : RM) : RM := (g4 (fld k) k (g2 (fld k) 4 (g2 (fld k) 2 (g1 (fld k) R).1).1).1).1
def gWay (f : Int) (R : RM) : RM × Int := if fbit f 16 = true then R.uint else (R, 0)
def getM (xs : List Int) : Int × GM :=
  if (⟨xs, 0⟩ : RM).uint.1.e ≠ 0 then ((⟨xs, 0⟩ : RM).uint.1.e, GM.none)
  else if kindOf (⟨xs, 0⟩ : RM).uint.2 = false then (11, GM.none)
  else
    let R := (⟨xs, 0⟩ : RM).uint.1
    let k := (⟨xs, 0⟩ : RM).uint.2
    let w := gWay (fld k) (gR5 k R)
    if 64 < w.2 then (11, GM.none)
    else
      let q := idsM w.2.toNat w.1
      if q.1.end_ ≠ 0 then (q.1.end_, GM.none)
      else (0, ⟨k, (g1 (fld k) R).2, (g2 (fld k) 2 (g1 (fld k) R).1).2, (g2 (fld k) 4 (g2 (fld k) 2 (g1 (fld k) R).1).1).2, (g4 (fld k) k (g2 (fld k) 4 (g2 (fld k) 2 (g1 (fld k) R).1).1).1).2, q.2⟩)
/-- The bytes of a note. -/
def putM (g : GM) : List Int := putNum g.k ++ px (fld g.k) 1 g.p ++ px (fld g.k) 2 (putNum g.n) ++ px (fld g.k) 4 (putNum g.o) ++ px (fld g.k) 8 (putNum g.b.length ++ g.b) ++ px (fld g.k) 16 (putNum g.ids.length ++ g.ids.flatten)
theorem fixed_put (b r : List Int) : (⟨b ++ r, 0⟩ : RM).fixed b.length = (⟨r, 0⟩, b) := by
  rw [RM.fixed_ok rfl (by omega) (by show ¬ ((b ++ r).length : Int) < _; rw [List.length_append]; omega), Int.toNat_natCast]
  show ((⟨(b ++ r).drop b.length, 0⟩ : RM), (b ++ r).take b.length) = _
  rw [List.drop_left, List.take_left]
theorem id_put {p : List Int} (hp : p.length = 32) (r : List Int) : (⟨p ++ r, 0⟩ : RM).id = (⟨r, 0⟩, p) := by
  have h := fixed_put p r
  rw [hp] at h
  unfold RM.id
  have h2 : ((⟨p ++ r, 0⟩ : RM).fixed 32) = (⟨r, 0⟩, p) := h
  rw [h2]
  show ((⟨r, 0⟩ : RM), if p = [] then _ else p) = _
  rw [if_neg (by intro e; rw [e] at hp; cases hp)]
theorem g1_put {f : Int} {p : List Int} (hp : p.length = 32) (hz : fbit f 1 = false → p = zero32) (r : List Int) : g1 f ⟨px f 1 p ++ r, 0⟩ = (⟨r, 0⟩, p) := by
  unfold g1
  cases h : fbit f 1
  · rw [px_off h, hz h, List.nil_append]; rfl
  · rw [px_on h, if_pos rfl]; exact id_put hp r
theorem g2_put {f m x : Int} (h0 : 0 ≤ x) (h1 : x < 18446744073709551616) (hz : fbit f m = false → x = 0) (r : List Int) : g2 f m ⟨px f m (putNum x) ++ r, 0⟩ = (⟨r, 0⟩, x) := by
  unfold g2
  cases h : fbit f m
  · rw [px_off h, hz h, List.nil_append]; rfl
  · rw [px_on h, if_pos rfl]; exact uint_put h0 h1 r
theorem g4_put {f k : Int} {b : List Int} (hb : (b.length : Int) ≤ mostOf k) (hz : fbit f 8 = false → b = []) (r : List Int) : g4 f k ⟨px f 8 (putNum b.length ++ b) ++ r, 0⟩ = (⟨r, 0⟩, b) := by
  unfold g4
  cases h : fbit f 8
  · rw [px_off h, hz h, List.nil_append]; rfl
  · rw [px_on h, if_pos rfl, List.append_assoc]
    have hm : mostOf k ≤ 1048576 := by unfold mostOf; split <;> omega
    have hu := uint_put (y := (b.length : Int)) (by omega) (by omega) (b ++ r)
    rw [RM.bytes_ok (by rw [hu]) (by rw [hu]; show ¬ (mostOf k < 0 ∨ mostOf k < (b.length : Int)); unfold mostOf at hb ⊢; split at hb <;> omega), hu]
    exact fixed_put b r
theorem ids_put {ids : List (List Int)} (h : ∀ i, i < ids.length → (ids.getD i []).length = 32) : ∀ i, i ≤ ids.length → idsM i ⟨ids.flatten, 0⟩ = (⟨(ids.drop i).flatten, 0⟩, ids.take i) := by
  intro i
  induction i with
  | zero => intro _; simp [idsM]
  | succ i ih =>
    intro hi
    have hlt : i < ids.length := by omega
    have hd : ids.drop i = ids.getD i [] :: ids.drop (i + 1) := by
      rw [List.drop_eq_getElem_cons hlt, List.getD_eq_getElem?_getD, List.getElem?_eq_getElem hlt]; rfl
    have ht : ids.take (i + 1) = ids.take i ++ [ids.getD i []] := by
      rw [List.take_add_one, List.getD_eq_getElem?_getD, List.getElem?_eq_getElem hlt]; rfl
    have hq := id_put (h i hlt) (ids.drop (i + 1)).flatten
    show ((idsM i _).1.id.1, (idsM i _).2 ++ [(idsM i _).1.id.2]) = _
    rw [ih (by omega), hd, List.flatten_cons]
    show (((⟨ids.getD i [] ++ (ids.drop (i + 1)).flatten, 0⟩ : RM).id).1, ids.take i ++ [((⟨ids.getD i [] ++ (ids.drop (i + 1)).flatten, 0⟩ : RM).id).2]) = _
    rw [hq, ht]
end Go.Proofs.YtlcanfniphdelaaDoor.Not

/- What was put is got. -/
namespace Go.Proofs.YtlcanfniphdelaaDoor.Not
open Go.RowKit Go.Proofs.YtlcanfniphdelaaDoorW.PrintWords Go.Proofs.YtlcanfniphdelaaDoor.Mem Go.Proofs.YtlcanfniphdelaaDoor.Cod
set_option linter.unusedVariables false
theorem zeros {kk : Nat} (h1 : 1 ≤ kk) (h2 : kk ≤ 14) {n o : Int} {p b : List Int} {ids : List (List Int)} (h : bits .andNot .i64 (accN n o p b.length ids.length) (fld kk) = 0) :
    (fbit (fld kk) 1 = false → p = zero32) ∧ (fbit (fld kk) 2 = false → n = 0) ∧ (fbit (fld kk) 4 = false → o = 0) ∧ (fbit (fld kk) 8 = false → b = []) ∧ (fbit (fld kk) 16 = false → ids = []) := by
  have hx := andnot_k kk (by omega) h1 (p != List.replicate 32 0) (n != 0) (o != 0) (decide (0 < b.length)) (decide (0 < ids.length))
  unfold accN at h
  rw [h] at hx
  have hy := hx.symm
  rw [show ((0 : Int) == 0) = true from rfl] at hy
  simp only [Bool.and_eq_true, Bool.or_eq_true] at hy
  obtain ⟨⟨⟨⟨y1, y2⟩, y3⟩, y4⟩, y5⟩ := hy
  refine ⟨fun e => ?_, fun e => ?_, fun e => ?_, fun e => ?_, fun e => ?_⟩
  · rw [e] at y1; unfold zero32; simpa using y1
  · rw [e] at y2; simpa using y2
  · rw [e] at y3; simpa using y3
  · rw [e] at y4; cases b with
    | nil => rfl
    | cons a r => simp at y4
  · rw [e] at y5; cases ids with
    | nil => rfl
    | cons a r => simp at y5
theorem get_put {kk : Nat} (h1 : 1 ≤ kk) (h2 : kk ≤ 14) {n o : Int} {p b : List Int} {ids : List (List Int)} (hp : p.length = 32) (hn : 0 ≤ n ∧ n ≤ 18446744073709551615) (ho : 0 ≤ o ∧ o ≤ 18446744073709551615) (hb : (b.length : Int) ≤ mostOf kk) (hi : ids.length ≤ 64) (hids : ∀ i, i < ids.length → (ids.getD i []).length = 32)
    (hz : bits .andNot .i64 (accN n o p b.length ids.length) (fld kk) = 0) : getM (putM ⟨kk, p, n, o, b, ids⟩) = (0, ⟨kk, p, n, o, b, ids⟩) := by
  obtain ⟨z1, z2, z3, z4, z5⟩ := zeros h1 h2 hz
  obtain ⟨f, hf⟩ : ∃ f, f = fld kk := ⟨_, rfl⟩
  have e : putM ⟨kk, p, n, o, b, ids⟩ = putNum kk ++ (px f 1 p ++ (px f 2 (putNum n) ++ (px f 4 (putNum o) ++ (px f 8 (putNum b.length ++ b) ++ px f 16 (putNum ids.length ++ ids.flatten))))) := by
    unfold putM
    rw [hf]
    simp only [List.append_assoc]
  rw [e]
  have hu := uint_put (y := (kk : Int)) (by omega) (by omega) (px f 1 p ++ (px f 2 (putNum n) ++ (px f 4 (putNum o) ++ (px f 8 (putNum b.length ++ b) ++ px f 16 (putNum ids.length ++ ids.flatten)))))
  rw [← hf] at z1 z2 z3 z4 z5
  have a1 := g1_put hp z1 (px f 2 (putNum n) ++ (px f 4 (putNum o) ++ (px f 8 (putNum b.length ++ b) ++ px f 16 (putNum ids.length ++ ids.flatten))))
  have a2 := g2_put (m := 2) hn.1 (by omega) z2 (px f 4 (putNum o) ++ (px f 8 (putNum b.length ++ b) ++ px f 16 (putNum ids.length ++ ids.flatten)))
  have a3 := g2_put (m := 4) ho.1 (by omega) z3 (px f 8 (putNum b.length ++ b) ++ px f 16 (putNum ids.length ++ ids.flatten))
  have a4 := g4_put (k := kk) hb z4 (px f 16 (putNum ids.length ++ ids.flatten))
  have hw : gWay f ⟨px f 16 (putNum ids.length ++ ids.flatten), 0⟩ = (⟨ids.flatten, 0⟩, (ids.length : Int)) := by
    unfold gWay
    cases h : fbit f 16
    · rw [px_off h, z5 h]; rfl
    · rw [px_on h, if_pos rfl]; exact uint_put (by omega) (by omega) _
  have hq := ids_put hids ids.length (Nat.le_refl _)
  rw [List.drop_of_length_le (Nat.le_refl _), List.take_of_length_le (Nat.le_refl _)] at hq
  have hk : kindOf (kk : Int) = true := by unfold kindOf; rw [decide_eq_true (by omega), decide_eq_true (by omega)]; rfl
  unfold getM gR5
  rw [hu]
  dsimp only
  rw [← hf, a1]
  dsimp only
  rw [a2]
  dsimp only
  rw [a3]
  dsimp only
  rw [a4]
  dsimp only
  rw [hw]
  dsimp only
  rw [Int.toNat_natCast, hq, if_neg (by omega), if_neg (by rw [hk]; decide), if_neg (by omega), if_neg (show ¬ (⟨([] : List (List Int)).flatten, 0⟩ : RM).end_ ≠ 0 by decide)]
end Go.Proofs.YtlcanfniphdelaaDoor.Not

/- What is read without an error is what its value is put as. -/
namespace Go.Proofs.YtlcanfniphdelaaDoor.Not
open Go.RowKit Go.Proofs.YtlcanfniphdelaaDoorW.PrintWords Go.Proofs.YtlcanfniphdelaaDoor.Mem Go.Proofs.YtlcanfniphdelaaDoor.Cod
set_option linter.unusedVariables false
theorem rd_inv : ∀ (b : List Int) (i : Nat) (x : Int), Byt b → i ≤ 9 → (rdNum i x (128 ^ i) b).2.1 = 0 →
    ∃ y : Int, 0 ≤ y ∧ (rdNum i x (128 ^ i) b).2.2 = x + 128 ^ i * y ∧ b = putN (9 - i) y ++ (rdNum i x (128 ^ i) b).1 ∧ (0 < i → 0 < y) := by
  intro b
  induction b with
  | nil => intro i x _ _ h; exact absurd h (by unfold rdNum; decide)
  | cons c r ih =>
    intro i x hb hi h1
    have hc := hb c List.mem_cons_self
    unfold rdNum at h1 ⊢
    by_cases hbad : (i = 9 ∧ 1 < c) ∨ (0 < i ∧ c = 0)
    · rw [if_pos hbad] at h1; exact absurd h1 (by show ¬ (11 : Int) = 0; omega)
    · rw [if_neg hbad] at h1 ⊢
      by_cases hlt : c < 128
      · rw [if_pos hlt] at h1 ⊢
        refine ⟨c, hc.1, ?_, by rw [putN_small _ hlt]; rfl, fun h => by omega⟩
        show x + 128 ^ i * (c % 128) = x + 128 ^ i * c
        rw [show c % 128 = c by omega]
      · rw [if_neg hlt] at h1 ⊢
        rw [← pow_128] at h1 ⊢
        have hi9 : i + 1 ≤ 9 := by omega
        obtain ⟨y, hy0, hy1, hy2, hy3⟩ := ih (i + 1) _ (fun x hx => hb x (List.mem_cons_of_mem _ hx)) hi9 h1
        have hyp := hy3 (by omega)
        refine ⟨c % 128 + 128 * y, by omega, ?_, ?_, fun _ => by omega⟩
        · rw [hy1, pow_128, Int.mul_add, ← Int.mul_assoc, Int.add_assoc]
        · have e : 9 - i = (9 - (i + 1)) + 1 := by omega
          rw [e, putN_great _ (by omega), ← show y = (c % 128 + 128 * y) / 128 by omega, List.cons_append, ← hy2]
          congr 1
          omega
theorem uint_inv {R : RM} (hb : Byt R.b) (he : R.e = 0) (h : R.uint.1.e = 0) : R.b = putNum R.uint.2 ++ R.uint.1.b := by
  obtain ⟨b, e⟩ := R
  dsimp only at hb he
  subst he
  rw [RM.uint_0] at h ⊢
  obtain ⟨y, hy0, hy1, hy2, _⟩ := rd_inv b 0 0 hb (by omega) h
  have e1 : (rdNum 0 0 1 b).2.2 = y := by rw [show (1 : Int) = 128 ^ 0 from rfl, hy1]; simp
  show b = putNum (rdNum 0 0 1 b).2.2 ++ (rdNum 0 0 1 b).1
  rw [e1]
  exact hy2
theorem fixed_inv {R : RM} {n : Int} (he : R.e = 0) (h : (R.fixed n).1.e = 0) : R.b = (R.fixed n).2 ++ (R.fixed n).1.b ∧ ((R.fixed n).2.length : Int) = n := by
  by_cases h0 : n < 0
  · rw [RM.fixed_neg he h0] at h; exact absurd (show (1 : Int) = 0 from h) (by decide)
  · by_cases h1 : (R.b.length : Int) < n
    · rw [RM.fixed_short he h0 h1] at h; exact absurd (show (10 : Int) = 0 from h) (by decide)
    · rw [RM.fixed_ok he h0 h1]
      exact ⟨(List.take_append_drop _ _).symm, by rw [List.length_take]; omega⟩
theorem bytes_inv {R : RM} {m : Int} (hb : Byt R.b) (he : R.e = 0) (h : (R.bytes m).1.e = 0) : R.b = putNum (R.bytes m).2.length ++ (R.bytes m).2 ++ (R.bytes m).1.b ∧ ((R.bytes m).2.length : Int) ≤ m := by
  by_cases h1 : R.uint.1.e = 0
  · by_cases h2 : m < 0 ∨ m < R.uint.2
    · rw [RM.bytes_big h1 h2] at h; exact absurd (show (13 : Int) = 0 from h) (by decide)
    · rw [RM.bytes_ok h1 h2] at h ⊢
      obtain ⟨f1, f2⟩ := fixed_inv h1 h
      have hu := uint_inv hb he h1
      refine ⟨?_, by omega⟩
      rw [f2, List.append_assoc, ← f1]
      exact hu
  · rw [RM.bytes_e h1] at h; exact absurd h h1
end Go.Proofs.YtlcanfniphdelaaDoor.Not

/- What was got is put: step by step. -/
namespace Go.Proofs.YtlcanfniphdelaaDoor.Not
open Go.RowKit Go.Proofs.YtlcanfniphdelaaDoorW.PrintWords Go.Proofs.YtlcanfniphdelaaDoor.Mem Go.Proofs.YtlcanfniphdelaaDoor.Cod
set_option linter.unusedVariables false
theorem e_uint {R : RM} (h : R.uint.1.e = 0) : R.e = 0 := by
  by_cases he : R.e = 0
  · exact he
  · unfold RM.uint at h; rw [if_pos he] at h; exact h
theorem e_fixed {R : RM} {n : Int} (h : (R.fixed n).1.e = 0) : R.e = 0 := by
  by_cases he : R.e = 0
  · exact he
  · rw [RM.fixed_e he] at h; exact h
theorem e_bytes {R : RM} {m : Int} (h : (R.bytes m).1.e = 0) : R.e = 0 := by
  by_cases h1 : R.uint.1.e = 0
  · exact e_uint h1
  · rw [RM.bytes_e h1] at h; exact absurd h h1
theorem byt_right {a b c : List Int} (h : Byt c) (e : c = a ++ b) : Byt b := fun x hx => h x (by rw [e]; exact List.mem_append_right _ hx)
theorem byt_left {a b c : List Int} (h : Byt c) (e : c = a ++ b) : Byt a := fun x hx => h x (by rw [e]; exact List.mem_append_left _ hx)
theorem id_inv {R : RM} (h : R.id.1.e = 0) : R.e = 0 ∧ R.b = R.id.2 ++ R.id.1.b ∧ R.id.2.length = 32 := by
  have h1 : (R.fixed 32).1.e = 0 := h
  have he := e_fixed h1
  obtain ⟨f1, f2⟩ := fixed_inv he h1
  have hn : (R.fixed 32).2 ≠ [] := fun e => by rw [e] at f2; simp at f2
  have e2 : R.id.2 = (R.fixed 32).2 := if_neg hn
  exact ⟨he, by rw [e2]; exact f1, by rw [e2]; omega⟩
theorem g1_inv {f : Int} {R : RM} (hb : Byt R.b) (h : (g1 f R).1.e = 0) : R.e = 0 ∧ R.b = px f 1 (g1 f R).2 ++ (g1 f R).1.b ∧ (g1 f R).2.length = 32 ∧ (fbit f 1 = false → (g1 f R).2 = zero32) := by
  unfold g1 at h ⊢
  cases hf : fbit f 1
  · rw [hf] at h
    rw [px_off hf]
    exact ⟨h, rfl, rfl, fun _ => rfl⟩
  · rw [hf, if_pos rfl] at h
    rw [px_on hf, if_pos rfl]
    obtain ⟨a, b, c⟩ := id_inv h
    exact ⟨a, b, c, fun e => by cases e⟩
theorem g2_inv {f m : Int} {R : RM} (hb : Byt R.b) (h : (g2 f m R).1.e = 0) : R.e = 0 ∧ R.b = px f m (putNum (g2 f m R).2) ++ (g2 f m R).1.b ∧ (fbit f m = false → (g2 f m R).2 = 0) := by
  unfold g2 at h ⊢
  cases hf : fbit f m
  · rw [hf] at h
    rw [px_off hf]
    exact ⟨h, rfl, fun _ => rfl⟩
  · rw [hf, if_pos rfl] at h
    rw [px_on hf, if_pos rfl]
    have he := e_uint h
    exact ⟨he, uint_inv hb he h, fun e => by cases e⟩
theorem g4_inv {f k : Int} {R : RM} (hb : Byt R.b) (h : (g4 f k R).1.e = 0) : R.e = 0 ∧ R.b = px f 8 (putNum (g4 f k R).2.length ++ (g4 f k R).2) ++ (g4 f k R).1.b ∧ ((g4 f k R).2.length : Int) ≤ mostOf k ∧ (fbit f 8 = false → (g4 f k R).2 = []) := by
  unfold g4 at h ⊢
  cases hf : fbit f 8
  · rw [hf] at h
    rw [px_off hf]
    exact ⟨h, rfl, by show ((0 : Nat) : Int) ≤ _; unfold mostOf; split <;> omega, fun _ => rfl⟩
  · rw [hf, if_pos rfl] at h
    rw [px_on hf, if_pos rfl]
    have he := e_bytes h
    obtain ⟨a, b⟩ := bytes_inv hb he h
    exact ⟨he, a, b, fun e => by cases e⟩
theorem idsM_inv (R : RM) : ∀ m, (idsM m R).1.e = 0 → R.e = 0 ∧ R.b = (idsM m R).2.flatten ++ (idsM m R).1.b ∧ (idsM m R).2.length = m ∧ ∀ x ∈ (idsM m R).2, x.length = 32 := by
  intro m
  induction m with
  | zero => intro h; exact ⟨h, rfl, rfl, fun x hx => by cases hx⟩
  | succ m ih =>
    intro h
    have h1 : (idsM m R).1.id.1.e = 0 := h
    obtain ⟨a, b, c⟩ := id_inv h1
    obtain ⟨d1, d2, d3, d4⟩ := ih a
    refine ⟨d1, ?_, ?_, ?_⟩
    · show R.b = ((idsM m R).2 ++ [(idsM m R).1.id.2]).flatten ++ (idsM m R).1.id.1.b
      rw [List.flatten_append, List.append_assoc]
      simp only [List.flatten_cons, List.flatten_nil, List.append_nil]
      rw [← b]
      exact d2
    · show ((idsM m R).2 ++ [_]).length = m + 1
      rw [List.length_append, d3]; rfl
    · intro x hx
      rcases List.mem_append.1 hx with h | h
      · exact d4 x h
      · rw [List.mem_singleton.1 h]; exact c
end Go.Proofs.YtlcanfniphdelaaDoor.Not

/- What was got is put: these bytes. -/
namespace Go.Proofs.YtlcanfniphdelaaDoor.Not
open Go.RowKit Go.Proofs.YtlcanfniphdelaaDoorW.PrintWords Go.Proofs.YtlcanfniphdelaaDoor.Mem Go.Proofs.YtlcanfniphdelaaDoor.Cod
set_option linter.unusedVariables false
theorem end_inv {R : RM} (h : R.end_ = 0) : R.e = 0 ∧ R.b = [] := by
  by_cases he : R.e = 0
  · rw [RM.end_0 he] at h
    by_cases hb : R.b = []
    · exact ⟨he, hb⟩
    · rw [if_neg hb] at h; omega
  · rw [RM.end_e he] at h; exact absurd h he
theorem e_g1 {f : Int} {R : RM} (h : (g1 f R).1.e = 0) : R.e = 0 := by
  unfold g1 at h
  split at h
  · exact (id_inv h).1
  · exact h
theorem e_g2 {f m : Int} {R : RM} (h : (g2 f m R).1.e = 0) : R.e = 0 := by
  unfold g2 at h
  split at h
  · exact e_uint h
  · exact h
theorem e_g4 {f k : Int} {R : RM} (h : (g4 f k R).1.e = 0) : R.e = 0 := by
  unfold g4 at h
  split at h
  · exact e_bytes h
  · exact h
theorem e_gWay {f : Int} {R : RM} (h : (gWay f R).1.e = 0) : R.e = 0 := by
  unfold gWay at h
  split at h
  · exact e_uint h
  · exact h
theorem gWay_inv {f : Int} {R : RM} (hb : Byt R.b) (h : (gWay f R).1.e = 0) : R.e = 0 ∧ R.b = px f 16 (putNum (gWay f R).2) ++ (gWay f R).1.b ∧ (fbit f 16 = false → (gWay f R).2 = 0) ∧ 0 ≤ (gWay f R).2 := by
  unfold gWay at h ⊢
  cases hf : fbit f 16
  · rw [hf] at h
    rw [px_off hf]
    exact ⟨h, rfl, fun _ => rfl, Int.le_refl 0⟩
  · rw [hf, if_pos rfl] at h
    rw [px_on hf, if_pos rfl]
    have he := e_uint h
    exact ⟨he, uint_inv hb he h, (fun e => by cases e), (RM.uint_bd hb).1⟩
theorem put_get {xs : List Int} {g : GM} (hb : Byt xs) (h : getM xs = (0, g)) : putM g = xs ∧ kindOf g.k = true ∧ g.p.length = 32 ∧ (g.b.length : Int) ≤ mostOf g.k ∧ g.ids.length ≤ 64 ∧ (∀ x ∈ g.ids, x.length = 32) ∧
    (fbit (fld g.k) 1 = false → g.p = zero32) ∧ (fbit (fld g.k) 2 = false → g.n = 0) ∧ (fbit (fld g.k) 4 = false → g.o = 0) ∧ (fbit (fld g.k) 8 = false → g.b = []) ∧ (fbit (fld g.k) 16 = false → g.ids = []) := by
  unfold getM at h
  by_cases h1 : (⟨xs, 0⟩ : RM).uint.1.e ≠ 0
  · rw [if_pos h1] at h
    exact absurd (congrArg Prod.fst h) h1
  · have h1 : (⟨xs, 0⟩ : RM).uint.1.e = 0 := by omega
    rw [if_neg (by omega)] at h
    have u1 := uint_inv (R := ⟨xs, 0⟩) hb rfl h1
    generalize (⟨xs, 0⟩ : RM).uint = U at h h1 u1
    obtain ⟨R, k⟩ := U
    dsimp only at h h1 u1
    by_cases h2 : kindOf k = false
    · rw [if_pos h2] at h; exact absurd (congrArg Prod.fst h) (show ¬ (11 : Int) = 0 by decide)
    · rw [if_neg h2] at h
      have hk : kindOf k = true := by simpa using h2
      generalize hf : fld k = f at h
      generalize hA : g1 f R = A at h
      generalize hB : g2 f 2 A.1 = B at h
      generalize hC : g2 f 4 B.1 = C at h
      generalize hD : g4 f k C.1 = D at h
      have h5 : gR5 k R = D.1 := by unfold gR5; rw [hf, hA, hB, hC, hD]
      rw [h5] at h
      generalize hW : gWay f D.1 = W at h
      by_cases h3 : 64 < W.2
      · rw [if_pos h3] at h; exact absurd (congrArg Prod.fst h) (show ¬ (11 : Int) = 0 by decide)
      · rw [if_neg h3] at h
        generalize hE : idsM W.2.toNat W.1 = E at h
        by_cases h4 : E.1.end_ ≠ 0
        · rw [if_pos h4] at h; exact absurd (congrArg Prod.fst h) h4
        · rw [if_neg h4] at h
          have hg : g = ⟨k, A.2, B.2, C.2, D.2, E.2⟩ := (congrArg Prod.snd h).symm
          obtain ⟨e1, e2⟩ := end_inv (show E.1.end_ = 0 by omega)
          have i5 := idsM_inv W.1 W.2.toNat (by rw [hE]; exact e1)
          rw [hE] at i5
          obtain ⟨w1, w2, w3, w4⟩ := i5
          -- the bytes, from the front
          have bR : Byt R.b := byt_right hb u1
          have eD : D.1.e = 0 := e_gWay (f := f) (by rw [hW]; exact w1)
          have eC : C.1.e = 0 := e_g4 (f := f) (k := k) (by rw [hD]; exact eD)
          have eB : B.1.e = 0 := e_g2 (f := f) (m := 4) (by rw [hC]; exact eC)
          have eA : A.1.e = 0 := e_g2 (f := f) (m := 2) (by rw [hB]; exact eB)
          have sA := g1_inv (f := f) bR (by rw [hA]; exact eA)
          rw [hA] at sA
          obtain ⟨_, a1, a2, a3⟩ := sA
          have bA := byt_right bR a1
          have sB := g2_inv (f := f) (m := 2) bA (by rw [hB]; exact eB)
          rw [hB] at sB
          obtain ⟨_, b1, b2⟩ := sB
          have bB := byt_right bA b1
          have sC := g2_inv (f := f) (m := 4) bB (by rw [hC]; exact eC)
          rw [hC] at sC
          obtain ⟨_, c1, c2⟩ := sC
          have bC := byt_right bB c1
          have sD := g4_inv (f := f) (k := k) bC (by rw [hD]; exact eD)
          rw [hD] at sD
          obtain ⟨_, d1, d2, d3⟩ := sD
          have bD := byt_right bC d1
          have sW := gWay_inv (f := f) bD (by rw [hW]; exact w1)
          rw [hW] at sW
          obtain ⟨_, v1, v2, v3⟩ := sW
          have hl : (E.2.length : Int) = W.2 := by rw [w3]; omega
          rw [e2, List.append_nil] at w2
          have hids : fbit f 16 = false → E.2 = [] := fun q => by
            have h0 := v2 q
            apply List.length_eq_zero_iff.1
            omega
          have hlast : px f 16 (putNum E.2.length ++ E.2.flatten) = D.1.b := by
            cases q : fbit f 16
            · rw [px_off q]
              rw [px_off q, List.nil_append, w2, hids q] at v1
              exact v1.symm
            · rw [px_on q, hl, ← w2]
              rw [px_on q] at v1
              exact v1.symm
          subst hg
          refine ⟨?_, hk, a2, d2, ?_, w4, ?_⟩
          · unfold putM
            dsimp only
            rw [hf, hlast]
            simp only [List.append_assoc] at d1 ⊢
            rw [u1, a1, b1, c1, d1]
          · show E.2.length ≤ 64
            omega
          · dsimp only
            rw [hf]
            exact ⟨a3, b2, c2, d3, hids⟩
end Go.Proofs.YtlcanfniphdelaaDoor.Not

/- The walk of Get (begun). -/
namespace Go.Proofs.YtlcanfniphdelaaDoor.Not
open Go.RowKit Go.Maps Go.Proofs.YtlcanfniphdelaaDoorW.PrintWords Go.Proofs.YtlcanfniphdelaaDoorW.PrintLast Go.Proofs.YtlcanfniphdelaaDoorW.PrintMore Go.Proofs.YtlcanfniphdelaaDoor.Mem Go.Proofs.YtlcanfniphdelaaDoor.Cod Go.Proofs.YtlcanfniphdelaaDoor.Ins Go.Proofs.YtlcanfniphdelaaDoor.Open Go.Proofs.YtlcanfniphdelaaDoor.PCod
set_option linter.unusedVariables false
set_option linter.unusedSimpArgs false
set_option maxRecDepth 8000
set_option maxHeartbeats 4000000
section
variable {w : World}
def nz28 : List Value := ncells 0 0 0 (List.replicate 32 0) (.slice none 0 0) (.slice none 0 0)
theorem build_note0 (W : World) : (Instr.build 28 #[]).run Tryd.prog W = .ok (.agg nz28.toArray) W := by kernel_rfl
theorem build_note1 (W : World) (k : Int) : (Instr.build 28 #[(0, .int .i64 k)]).run Tryd.prog W = .ok (.agg (ncells k 0 0 (List.replicate 32 0) (.slice none 0 0) (.slice none 0 0)).toArray) W := by kernel_rfl
theorem nz28_one : nz28.toArray.all (·.oneCell') = true := by kernel_rfl
/-- Refused: the first number is none, or is no kind. -/
theorem get_no1 {xs : List Int} (A : Option Addr) (c : Nat) (hr : Kd.C (Kd.int .u8) w A xs.length xs) (hc : xs.length ≤ c) (hl : xs.length < 140737488355328) (hy : Byt xs) (he : (⟨xs, 0⟩ : RM).uint.1.e ≠ 0) :
    Calls Tryd.prog 13 #[.slice A xs.length c] w fun e w' => e = .returned (.tuple #[.agg nz28.toArray, .int .i64 (⟨xs, 0⟩ : RM).uint.1.e]) ∧ Below w.heap.size w w' := by
  obtain ⟨U, hU⟩ : ∃ U, U = (⟨xs, 0⟩ : RM).uint := ⟨_, rfl⟩
  rw [← hU] at he ⊢
  have d1 : (U.1.e != 0) = true := bne_iff_ne.2 he
  have HU := Aside0.mk (And.intro hU (And.intro hr (And.intro hc (And.intro hl hy))))
  clear hU he hr hc hl hy
  go_enter Tryd.func13, Tryd.ntmps13
  go_wp2_with (first
    | ((with_reducible refine gate_dst (N := 2) rfl ?_); refine Kd.event_run rfl (v := .pointer (some ⟨w.heap.size, 0, none⟩)) (w1 := w.alloc (.cells nz28.toArray 28)) ?hr ?_; (case hr => first | kernel_rfl | (go_simp; done) | (go_simp; rfl)); go_loud (refine wpName (fun w1 hw1 => ?_); have H1 := Aside0.mk (And.intro (show w1.heap[w.heap.size]? = some (.cells nz28.toArray 28 (0, 0)) by rw [hw1]; exact blk_new w _) (show Below w.heap.size w w1 by rw [hw1]; exact below_alloc (Below.refl _ _) _)); clear hw1))
    | (go_at_call 32; go_loud (obtain ⟨hU, hr, hc, hl, hy⟩ := HU.out; have hx := newReader_calls A c (Kd.C_below hr H1.out.2) hc hl hy; refine hx.mono ?_; clear hx; rintro e w2 ⟨g, rfl, hd2, hb2⟩; have H2 := Aside0.mk (And.intro hd2 (And.intro (below_step H1.out.2 hb2) (And.intro ((hb2.block _ (blk_lt H1.out.1)).trans H1.out.1) hb2))); clear hd2 hb2 hU hr hc hl hy))
    | (go_at_call 33; go_loud (have hs1 := H1.out.2.size; have hx := uint_any (w0 := w1) (w := w2) H2.out.2.2.2 (fun k h => h.1) H2.out.1; rw [← HU.out.1] at hx; refine hx.mono ?_; clear hx; rintro e w3 ⟨rfl, hd3, hb3, hk3⟩; have H3 := Aside0.mk (And.intro hd3 hk3); have H4 := Aside0.mk (H1.out.2.trans (hb3.mono H1.out.2.size)); clear hd3 hb3 hk3 hs1))
    | (go_at_call 34; go_loud (have hx := err_calls H3.out.1; refine hx.mono ?_; clear hx; rintro e w4 ⟨rfl, rfl⟩))
    | ((with_reducible refine gate_store (ty := 28) (x := .tmp 2) (y := .tmp 18) rfl ?_); go_loud (have hgne : ¬ (w.heap.size = g) := (by have h1 := blk_lt H1.out.1; obtain ⟨_, _, hh, _⟩ := H2.out.1; have h2 : w1.heap.size ≤ g := hh.1; omega); refine wpList_store_row rfl 28 (.tmp 2) (.tmp 18) rfl w.heap.size nz28.toArray rfl rfl 28 nz28.toArray (blk_kept H2.out.2.2.1 H3.out.2 hgne) (by kernel_rfl) rfl nz28_one ?_; refine wpName (fun w5 hw5 => ?_); have H5 := Aside0.mk (And.intro (show w5.heap[w.heap.size]? = some (.cells nz28.toArray 28 (0, 0)) by rw [hw5]; exact setRow_heap _ _ _ _ _ _ (blk_kept H2.out.2.2.1 H3.out.2 hgne)) (show Below w.heap.size w w5 by rw [hw5]; exact below_setRow H4.out (Nat.le_refl _) _)); clear hw5 hgne)))
  refine bodyPost_ret (results_ct rfl _ _ w.heap.size 28 nz28.toArray (0, 0) _ rfl H5.out.1 Tryd.underlying28 rfl (by kernel_rfl)) rfl ?_
  exact ⟨rfl, H5.out.2⟩
/-- Refused: no kind. -/
theorem get_no2 {xs : List Int} (A : Option Addr) (c : Nat) (hr : Kd.C (Kd.int .u8) w A xs.length xs) (hc : xs.length ≤ c) (hl : xs.length < 140737488355328) (hy : Byt xs) (he : (⟨xs, 0⟩ : RM).uint.1.e = 0) (hk : kindOf (⟨xs, 0⟩ : RM).uint.2 = false) :
    Calls Tryd.prog 13 #[.slice A xs.length c] w fun e w' => e = .returned (.tuple #[.agg nz28.toArray, .int .i64 11]) ∧ Below w.heap.size w w' := by
  obtain ⟨U, hU⟩ : ∃ U, U = (⟨xs, 0⟩ : RM).uint := ⟨_, rfl⟩
  rw [← hU] at he hk
  have d1 : (U.1.e != 0) = false := by rw [he]; rfl
  have HK := Aside0.mk hk
  have HU := Aside0.mk (And.intro hU (And.intro hr (And.intro hc (And.intro hl hy))))
  clear hU he hk hr hc hl hy
  go_enter Tryd.func13, Tryd.ntmps13
  go_wp2_with (first
    | ((with_reducible refine gate_dst (N := 2) rfl ?_); refine Kd.event_run rfl (v := .pointer (some ⟨w.heap.size, 0, none⟩)) (w1 := w.alloc (.cells nz28.toArray 28)) ?hr ?_; (case hr => first | kernel_rfl | (go_simp; done) | (go_simp; rfl)); go_loud (refine wpName (fun w1 hw1 => ?_); have H1 := Aside0.mk (And.intro (show w1.heap[w.heap.size]? = some (.cells nz28.toArray 28 (0, 0)) by rw [hw1]; exact blk_new w _) (show Below w.heap.size w w1 by rw [hw1]; exact below_alloc (Below.refl _ _) _)); clear hw1))
    | (go_at_call 32; go_loud (obtain ⟨hU, hr, hc, hl, hy⟩ := HU.out; have hx := newReader_calls A c (Kd.C_below hr H1.out.2) hc hl hy; refine hx.mono ?_; clear hx; rintro e w2 ⟨g, rfl, hd2, hb2⟩; have H2 := Aside0.mk (And.intro hd2 (And.intro (below_step H1.out.2 hb2) (And.intro ((hb2.block _ (blk_lt H1.out.1)).trans H1.out.1) hb2))); clear hd2 hb2 hU hr hc hl hy))
    | (go_at_call 33; go_loud (have hs1 := H1.out.2.size; have hx := uint_any (w0 := w1) (w := w2) H2.out.2.2.2 (fun k h => h.1) H2.out.1; rw [← HU.out.1] at hx; refine hx.mono ?_; clear hx; rintro e w3 ⟨rfl, hd3, hb3, hk3⟩; have H3 := Aside0.mk (And.intro hd3 hk3); have H4 := Aside0.mk (H1.out.2.trans (hb3.mono H1.out.2.size)); clear hd3 hb3 hk3 hs1))
    | (go_at_call 34; go_loud (have hx := err_calls H3.out.1; refine hx.mono ?_; clear hx; rintro e w4 ⟨rfl, rfl⟩))
    | (go_at_call 28; go_loud (have hx := notes_kind.calls U.2 _ w3 (kind_f U.2); rw [HK.out] at hx; refine hx.mono ?_; clear hx; rintro e w4 ⟨rfl, hdr⟩; have hb4 := hdr.below; have H6 := Aside0.mk (And.intro hb4 (H4.out.trans (hb4.mono H4.out.size))); clear hdr hb4))
    | ((with_reducible refine gate_store (ty := 28) (x := .tmp 2) (y := .tmp 25) rfl ?_); go_loud (have hgne : ¬ (w.heap.size = g) := (by have h1 := blk_lt H1.out.1; obtain ⟨_, _, hh, _⟩ := H2.out.1; have h2 : w1.heap.size ≤ g := hh.1; omega); refine wpList_store_row rfl 28 (.tmp 2) (.tmp 25) rfl w.heap.size nz28.toArray rfl rfl 28 nz28.toArray ((H6.out.1.block _ (blk_lt (blk_kept H2.out.2.2.1 H3.out.2 hgne))).trans (blk_kept H2.out.2.2.1 H3.out.2 hgne)) (by kernel_rfl) rfl nz28_one ?_; refine wpName (fun w5 hw5 => ?_); have H5 := Aside0.mk (And.intro (show w5.heap[w.heap.size]? = some (.cells nz28.toArray 28 (0, 0)) by rw [hw5]; exact setRow_heap _ _ _ _ _ _ ((H6.out.1.block _ (blk_lt (blk_kept H2.out.2.2.1 H3.out.2 hgne))).trans (blk_kept H2.out.2.2.1 H3.out.2 hgne))) (show Below w.heap.size w w5 by rw [hw5]; exact below_setRow H6.out.2 (Nat.le_refl _) _)); clear hw5 hgne)))
  refine bodyPost_ret (results_ct rfl _ _ w.heap.size 28 nz28.toArray (0, 0) _ rfl H5.out.1 Tryd.underlying28 rfl (by kernel_rfl)) rfl ?_
  exact ⟨rfl, H5.out.2⟩
end
end Go.Proofs.YtlcanfniphdelaaDoor.Not

/- Get: the note under way. -/
namespace Go.Proofs.YtlcanfniphdelaaDoor.Not
open Go.RowKit Go.Maps Go.Proofs.YtlcanfniphdelaaDoorW.PrintWords Go.Proofs.YtlcanfniphdelaaDoorW.PrintLast Go.Proofs.YtlcanfniphdelaaDoorW.PrintMore Go.Proofs.YtlcanfniphdelaaDoor.Mem Go.Proofs.YtlcanfniphdelaaDoor.Cod Go.Proofs.YtlcanfniphdelaaDoor.Ins Go.Proofs.YtlcanfniphdelaaDoor.Open Go.Proofs.YtlcanfniphdelaaDoor.PCod
set_option linter.unusedVariables false
set_option linter.unusedSimpArgs false
theorem blk_sets {g : Nat} {t : TypeId} : ∀ (vs cs : List Value) (o : Nat) (w : World), w.heap[g]? = some (.cells cs.toArray t (0, 0)) → o + vs.length ≤ cs.length → (w.setCells g o vs).heap[g]? = some (.cells (cs.take o ++ vs ++ cs.drop (o + vs.length)).toArray t (0, 0))
  | [], cs, o, w, h, _ => by simpa [World.setCells] using h
  | v :: r, cs, o, w, h, hl => by
    have hlt : o < cs.length := by simp at hl; omega
    have h2 := blk_sets r (cs.set o v) (o + 1) (w.setCell ⟨g, o, none⟩ v) (by have := blk_set h o v; simpa using this) (by simp at hl ⊢; omega)
    show ((w.setCell ⟨g, o, none⟩ v).setCells g (o + 1) r).heap[g]? = _
    rw [h2]
    congr 3
    have e1 : (cs.set o v).take (o + 1) = cs.take o ++ [v] := by
      apply List.ext_getElem?
      intro j
      rw [List.getElem?_take]
      by_cases hj : j < o
      · rw [if_pos (by omega), List.getElem?_set_ne (by omega), List.getElem?_append_left (by rw [List.length_take]; omega), List.getElem?_take, if_pos hj]
      · by_cases hj2 : j = o
        · rw [if_pos (by omega), hj2, List.getElem?_set_self hlt, List.getElem?_append_right (by rw [List.length_take]; omega), List.length_take, show o - min o cs.length = 0 by omega]; rfl
        · rw [if_neg (by omega), List.getElem?_eq_none (by simp; omega)]
    have e2 : (cs.set o v).drop (o + 1 + r.length) = cs.drop (o + (r.length + 1)) := by
      rw [show o + 1 + r.length = o + (r.length + 1) by omega]
      apply List.ext_getElem?
      intro j
      rw [List.getElem?_drop, List.getElem?_drop, List.getElem?_set_ne (by omega)]
    rw [e1, e2]
    simp
theorem sets_other {g : Nat} : ∀ (vs : List Value) (o : Nat) (w : World) (k : Nat), k ≠ g → (w.setCells g o vs).heap[k]? = w.heap[k]?
  | [], _, _, _, _ => rfl
  | v :: r, o, w, k, hk => (sets_other r (o + 1) _ k hk).trans (Below.heap_setCell w ⟨g, o, none⟩ v k hk)
theorem sets_size {g : Nat} : ∀ (vs : List Value) (o : Nat) (w : World), (w.setCells g o vs).heap.size = w.heap.size
  | [], _, _ => rfl
  | v :: r, o, w => (sets_size r (o + 1) _).trans (by simp [World.setCell])
theorem below_sets {g : Nat} {w : World} (hg : w.heap.size ≤ g) : ∀ (vs : List Value) (o : Nat) (W : World), Below w.heap.size w W → Below w.heap.size w (W.setCells g o vs)
  | [], _, _, h => h
  | v :: r, o, W, h => below_sets hg r (o + 1) _ (below_set h hg)
section
variable {P : Program} {o : Oper} {ev : Operand → Value}
theorem exec_store_mid (W : World) (ty : TypeId) (x y : Operand) (ho : o.op = .store ty x y) (g off : Nat) (vs : List Value) (hx : ev x = .pointer (some ⟨g, off, none⟩)) (hy : ev y = .agg vs.toArray)
    (t : TypeId) (cs : List Value) (hg : W.heap[g]? = some (.cells cs.toArray t (0, 0))) (hi : (P.info? ty).map (·.size) = some vs.length) (hl : off + vs.length ≤ cs.length) (h1 : ∀ v ∈ vs, v.oneCell' = true) :
    (execOp ev o).run P W = .ok .skip (W.setCells g off vs) := by
  have hst := run_storeCells_cells (P := P) g off vs 0 W (fun j hj => by rw [blk_cell hg, List.getElem?_toArray, List.getElem?_eq_getElem (by omega)]; rfl) (fun j hj => blk_frozen hg _) h1
  cases hq : P.info? ty with
  | none => simp [hq] at hi
  | some i =>
    have hs : vs.length = i.size := by simp [hq] at hi; omega
    unfold execOp
    simp only [ho, hx, hy, Instr.storeAt, Instr.sureAddr, Sem.run_bind, Sem.run_pure, Result.andThen_ok]
    simp [storeVar, sizeOf, typeInfo, hq, Value.cells, hs, hst]
end
/-- The note's own row of ids. -/
def WayR (w : World) (N0 : Nat) (vY : Value) (ids : List (List Int)) : Prop := w.ownsRow N0 23 32 vY ids.length (nums .u8 ids.flatten)
theorem flat_at : ∀ (ids : List (List Int)), (∀ i, i < ids.length → (ids.getD i []).length = 32) → ∀ i, i < ids.length → ∀ (j : Nat) (x : Int), (ids.getD i [])[j]? = some x → ids.flatten[i * 32 + j]? = some x
  | [], _, i, hi, _, _, _ => by simp at hi
  | a :: r, h, 0, _, j, x, hj => by
    have hj2 : a[j]? = some x := hj
    have hlt : j < a.length := (List.getElem?_eq_some_iff.1 hj2).1
    rw [List.flatten_cons, Nat.zero_mul, Nat.zero_add, List.getElem?_append_left hlt]
    exact hj2
  | a :: r, h, i + 1, hi, j, x, hj => by
    have ha : a.length = 32 := h 0 (by simp)
    rw [List.flatten_cons, List.getElem?_append_right (by omega), show (i + 1) * 32 + j - a.length = i * 32 + j by omega]
    exact flat_at r (fun q hq => h (q + 1) (by simp; omega)) i (by simpa using hi) j x hj
theorem WayR.ids {w : World} {N0 : Nat} {vY : Value} {ids : List (List Int)} (h : WayR w N0 vY ids) (hl : ∀ i, i < ids.length → (ids.getD i []).length = 32 ∧ Byt (ids.getD i [])) : ∃ Y yc, vY = .slice Y ids.length yc ∧ IdsAt w Y ids := by
  obtain ⟨h1, h2⟩ := h
  rcases h2 with ⟨rfl, h0⟩ | ⟨b, cap, cur, rfl, hb, hh, hc1, hc2, hc3, hc4⟩
  · exact ⟨none, 0, by rw [h0], fun i hi => by omega⟩
  · refine ⟨_, _, rfl, fun i hi => ⟨(hl i hi).1, (hl i hi).2, _, rfl, fun j v hv => ?_⟩⟩
    unfold nums at hv
    rw [List.getElem?_map] at hv
    obtain ⟨x, hx, rfl⟩ := Option.map_eq_some_iff.1 hv
    have hf := flat_at ids (fun q hq => (hl q hq).1) i hi j x hx
    have hn : (nums .u8 ids.flatten)[i * 32 + j]? = some (.int .u8 x) := by unfold nums; rw [List.getElem?_map, hf]; rfl
    have ha : (⟨b, 0, none⟩ : Addr).add (i * 32 + j) = ⟨b, i * 32 + j, none⟩ := by unfold Addr.add; split <;> simp_all
    rw [ha, blk_cell hh]
    rw [← hc4, List.getElem?_take] at hn
    split at hn
    · rw [← Array.getElem?_toList]; exact hn
    · cases hn
/-- Get under way: the note lies in block gn, the reader in F, the row of ids is vW. -/
structure GI (w wc : World) (F : Nat → Prop) (N0 gn g : Nat) (R : RM) (k n o : Int) (p b : List Int) (ids : List (List Int)) (vB vY vW : Value) : Prop where
  w0 : Below w.heap.size w wc
  res : wc.heap[w.heap.size]? = some (.cells nz28.toArray 28 (0, 0))
  lo : w.heap.size < N0
  gn0 : N0 ≤ gn
  rd : RdAt wc F g R
  fl : ∀ x, F x → w.heap.size < x ∧ x < N0
  nt : NoteAt wc gn k n o p vB vY
  bs : Kd.R (Kd.int .u8) 5 wc N0 (fun _ => True) vB b
  wy : WayR wc N0 vW ids
  pl : p.length = 32
theorem R_not {w : World} {N0 gn : Nat} {vB : Value} {b : List Int} {cs : Array Value} {t : TypeId} (h : Kd.R (Kd.int .u8) 5 w N0 (fun _ => True) vB b) (hn : w.heap[gn]? = some (.cells cs t (0, 0))) (ht : t ≠ 5) : Kd.R (Kd.int .u8) 5 w N0 (fun x => x ≠ gn ∧ N0 ≤ x) vB b := by
  refine Kd.R_mono (Kd.R_bound h) (fun x hx => ⟨fun e => ?_, hx.2.1⟩)
  obtain ⟨_, _, _, q, hq, cells, hc⟩ := hx
  rw [e, hn] at hc
  have hq2 : q = 5 := by
    rcases List.mem_cons.1 hq with h | h
    · exact h
    · cases h
  injection hc with hc
  injection hc with h1 h2 h3
  exact ht (h2.trans hq2)
theorem own_kept {w w9 : World} {N0 e size n : Nat} {vW : Value} {xs : List Value} {S : Nat → Prop} (h : w.ownsRow N0 e size vW n xs) (hk : Kept w w9 S) (hs : ∀ x, vW.ownBlock = some x → ¬ S x) : w9.ownsRow N0 e size vW n xs := by
  obtain ⟨h1, h2⟩ := h
  refine ⟨h1, ?_⟩
  rcases h2 with h2 | ⟨b, cap, cur, rfl, hb, hh, r⟩
  · exact .inl h2
  · exact .inr ⟨b, cap, cur, rfl, hb, blk_kept hh hk (hs b rfl), r⟩
theorem own_lo {w : World} {N0 e size n : Nat} {vW : Value} {xs : List Value} (h : w.ownsRow N0 e size vW n xs) : ∀ x, vW.ownBlock = some x → N0 ≤ x := by
  intro x hx
  rcases h.2 with ⟨rfl, _⟩ | ⟨b, cap, cur, rfl, hb, _⟩
  · cases hx
  · cases hx; exact hb
section
variable {w wc w9 : World} {F : Nat → Prop} {N0 gn g : Nat} {R R' : RM} {k n o : Int} {p b : List Int} {ids : List (List Int)} {vB vY vW : Value}
theorem GI.far (h : GI w wc F N0 gn g R k n o p b ids vB vY vW) : F g := by obtain ⟨_, _, hh, _⟩ := h.rd; exact hh
/-- The reader went on. -/
theorem GI.read (h : GI w wc F N0 gn g R k n o p b ids vB vY vW) (hr : RdAt w9 F g R') (hb : Below w.heap.size w w9) (hk : Kept wc w9 (fun x => x = g)) : GI w w9 F N0 gn g R' k n o p b ids vB vY vW := by
  have hg := h.fl g h.far
  refine ⟨hb, blk_kept h.res hk (fun e => by omega), h.lo, h.gn0, hr, h.fl, blk_kept h.nt hk (fun e => by have := h.gn0; omega), ?_, own_kept h.wy hk (fun x hx e => by have := own_lo h.wy x hx; omega), h.pl⟩
  exact Kd.R_mono (Kd.R_kept (R_not h.bs h.nt (by decide)) hk (fun x hx e => by have := hx.2; omega)) (fun _ _ => trivial)
theorem GI.below (h : GI w wc F N0 gn g R k n o p b ids vB vY vW) (hb : Below wc.heap.size wc w9) : GI w w9 F N0 gn g R k n o p b ids vB vY vW :=
  ⟨below_step h.w0 hb, (hb.block _ (blk_lt h.res)).trans h.res, h.lo, h.gn0, h.rd.below hb, h.fl, h.nt.below hb, Kd.R_below h.bs hb, own_kept h.wy (Kept.of_below hb (fun _ => False)) (fun _ _ e => e), h.pl⟩
/-- The note was written. -/
theorem GI.write {k' n' o' : Int} {p' b' : List Int} {ids' : List (List Int)} {vB' vY' vW' : Value} (h : GI w wc F N0 gn g R k n o p b ids vB vY vW) (hk : Kept wc w9 (fun x => x = gn)) (hb : Below w.heap.size w w9) (hn : NoteAt w9 gn k' n' o' p' vB' vY') (hp : p'.length = 32)
    (hbs : Kd.R (Kd.int .u8) 5 wc N0 (fun _ => True) vB' b') (hwy : WayR wc N0 vW' ids') : GI w w9 F N0 gn g R k' n' o' p' b' ids' vB' vY' vW' := by
  refine ⟨hb, blk_kept h.res hk (fun e => by have := h.lo; have := h.gn0; omega), h.lo, h.gn0, h.rd.kept hk (fun x hx e => by have := h.fl x hx; have := h.gn0; omega), h.fl, hn, ?_, own_kept hwy hk ?_, hp⟩
  · exact Kd.R_mono (Kd.R_kept (R_not hbs h.nt (by decide)) hk (fun x hx e => hx.1 e)) (fun _ _ => trivial)
  · intro x hx e
    exact own_ne hwy h.nt (by decide) (by rw [hx, e])
end
theorem ncells_set (k n o : Int) {p : List Int} (hp : p.length = 32) (vB vY v : Value) (j : Nat) (hj : j < 4) : (ncells k n o p vB vY).toArray.setIfInBounds (33 + j) v = (Value.int .i64 k :: (nums .u8 p ++ ([Value.int .u64 n, .int .u64 o, vB, vY].set j v))).toArray := by
  rw [List.setIfInBounds_toArray]
  congr 1
  unfold ncells
  rw [show 33 + j = 32 + j + 1 by omega, List.set_cons_succ]
  rw [List.set_append, if_neg (by rw [nums_length, hp]; omega), nums_length, hp, Nat.add_sub_cancel_left]
section
variable {w wc w9 : World} {F : Nat → Prop} {N0 gn g : Nat} {R R' : RM} {k n o : Int} {p b : List Int} {ids : List (List Int)} {vB vY vW : Value}
theorem GI.cellN (h : GI w wc F N0 gn g R k n o p b ids vB vY vW) (v : Int) : GI w (wc.setCell ⟨gn, 33, none⟩ (.int .u64 v)) F N0 gn g R k v o p b ids vB vY vW := by
  refine h.write ((Kept.refl wc (fun x => x = gn)).setCell (p := ⟨gn, 33, none⟩) (.inl rfl) _) (below_set h.w0 (by have := h.lo; have := h.gn0; omega)) ?_ h.pl h.bs h.wy
  have e := blk_set h.nt 33 (.int .u64 v)
  rw [ncells_set k n o h.pl vB vY _ 0 (by omega)] at e
  exact e
theorem GI.cellO (h : GI w wc F N0 gn g R k n o p b ids vB vY vW) (v : Int) : GI w (wc.setCell ⟨gn, 34, none⟩ (.int .u64 v)) F N0 gn g R k n v p b ids vB vY vW := by
  refine h.write ((Kept.refl wc (fun x => x = gn)).setCell (p := ⟨gn, 34, none⟩) (.inl rfl) _) (below_set h.w0 (by have := h.lo; have := h.gn0; omega)) ?_ h.pl h.bs h.wy
  have e := blk_set h.nt 34 (.int .u64 v)
  rw [ncells_set k n o h.pl vB vY _ 1 (by omega)] at e
  exact e
theorem GI.cellB {b' : List Int} (h : GI w wc F N0 gn g R k n o p b ids vB vY vW) (v : Value) (hv : Kd.R (Kd.int .u8) 5 wc N0 (fun _ => True) v b') : GI w (wc.setCell ⟨gn, 35, none⟩ v) F N0 gn g R k n o p b' ids v vY vW := by
  refine h.write ((Kept.refl wc (fun x => x = gn)).setCell (p := ⟨gn, 35, none⟩) (.inl rfl) _) (below_set h.w0 (by have := h.lo; have := h.gn0; omega)) ?_ h.pl hv h.wy
  have e := blk_set h.nt 35 v
  rw [ncells_set k n o h.pl vB vY _ 2 (by omega)] at e
  exact e
theorem GI.cellY (h : GI w wc F N0 gn g R k n o p b ids vB vY vW) (v : Value) : GI w (wc.setCell ⟨gn, 36, none⟩ v) F N0 gn g R k n o p b ids vB v vW := by
  refine h.write ((Kept.refl wc (fun x => x = gn)).setCell (p := ⟨gn, 36, none⟩) (.inl rfl) _) (below_set h.w0 (by have := h.lo; have := h.gn0; omega)) ?_ h.pl h.bs h.wy
  have e := blk_set h.nt 36 v
  rw [ncells_set k n o h.pl vB vY _ 3 (by omega)] at e
  exact e
theorem GI.cellP {q : List Int} (h : GI w wc F N0 gn g R k n o p b ids vB vY vW) (hq : q.length = 32) : GI w (wc.setCells gn 1 (nums .u8 q)) F N0 gn g R k n o q b ids vB vY vW := by
  refine h.write ⟨by rw [sets_size]; omega, fun i hi hn => sets_other _ _ _ i hn⟩ (below_sets (by have := h.lo; have := h.gn0; omega) _ _ _ h.w0) ?_ hq h.bs h.wy
  have e := blk_sets (nums .u8 q) _ 1 wc h.nt (by rw [nums_length, hq]; show 1 + 32 ≤ (Value.int .i64 k :: (nums .u8 p ++ _)).length; rw [List.length_cons, List.length_append, nums_length, h.pl]; simp)
  unfold NoteAt
  rw [e]
  congr 3
  rw [nums_length, hq]
  show [Value.int .i64 k] ++ nums .u8 q ++ List.drop 32 (nums .u8 p ++ _) = _
  rw [List.drop_append_of_le_length (by rw [nums_length, h.pl]; omega), List.drop_of_length_le (by rw [nums_length, h.pl]; omega)]
  rfl
/-- The row of ids grew. -/
theorem GI.grow {v1 : Value} {id : List Int} (h : GI w wc F N0 gn g R k n o p b ids vB vY vW) (hw : w9.ownsRow N0 23 32 v1 (ids.length + 1) (nums .u8 ids.flatten ++ nums .u8 id)) (hb : Below w.heap.size w w9) (hg : wc.grownBy w9 vW.ownBlock) : GI w w9 F N0 gn g R k n o p b (ids ++ [id]) vB vY v1 := by
  have hk : Kept wc w9 (fun x => vW.ownBlock = some x) := Kept.of_grown hg (Kept.refl wc _) (fun k e => .inl e)
  have hlo := own_lo h.wy
  refine ⟨hb, blk_kept h.res hk (fun e => by have := hlo _ e; have := h.lo; omega), h.lo, h.gn0, h.rd.kept hk (fun x hx e => by have := h.fl x hx; have := hlo _ e; omega), h.fl, blk_kept h.nt hk (fun e => own_ne h.wy h.nt (by decide) e.symm), ?_, ?_, h.pl⟩
  · refine Kd.R_mono (Kd.R_kept (ok := fun x => vW.ownBlock ≠ some x) (Kd.R_mono (Kd.R_bound h.bs) (fun x hx e => ?_)) hk (fun x hx e => hx e)) (fun _ _ => trivial)
    obtain ⟨_, _, _, q, hq, cells, hc⟩ := hx
    have hq2 : q = 5 := by
      rcases List.mem_cons.1 hq with h | h
      · exact h
      · cases h
    exact own_ne h.wy hc (by rw [hq2]; decide) e.symm
  · unfold WayR
    rw [List.length_append, List.flatten_append, nums_append]
    simpa using hw
end
end Go.Proofs.YtlcanfniphdelaaDoor.Not

/- The walk of Get: what is got is getM's. -/
namespace Go.Proofs.YtlcanfniphdelaaDoor.Not
open Go.RowKit Go.Maps Go.Proofs.YtlcanfniphdelaaDoorW.PrintWords Go.Proofs.YtlcanfniphdelaaDoorW.PrintLast Go.Proofs.YtlcanfniphdelaaDoorW.PrintMore Go.Proofs.YtlcanfniphdelaaDoor.Mem Go.Proofs.YtlcanfniphdelaaDoor.Cod Go.Proofs.YtlcanfniphdelaaDoor.Ins Go.Proofs.YtlcanfniphdelaaDoor.Open Go.Proofs.YtlcanfniphdelaaDoor.PCod
set_option linter.unusedVariables false
set_option linter.unusedSimpArgs false
set_option maxRecDepth 8000
set_option maxHeartbeats 8000000
/-- What is handed back: the cells of the note g, in the world w'. -/
def NoteR (w' : World) (cs : Array Value) (g : GM) : Prop := ∃ A bc Y yc, cs = (ncells g.k g.n g.o g.p (.slice A g.b.length bc) (.slice Y g.ids.length yc)).toArray ∧ Kd.C (Kd.int .u8) w' A g.b.length g.b ∧ IdsAt w' Y g.ids
theorem noteR_none (w' : World) : NoteR w' nz28.toArray GM.none := ⟨none, 0, none, 0, rfl, Kd.C_nil _ _, fun i hi => by cases hi⟩
theorem RM.id_len (R : RM) : R.id.2.length = 32 := by
  unfold RM.id
  dsimp only
  rcases fixed_len R 32 with h | h
  · rw [show (R.fixed 32).2 = [] from h, if_pos rfl]; rfl
  · have h2 : (R.fixed 32).2.length = 32 := h
    split
    · rename_i e; rw [e] at h2; cases h2
    · exact h2
theorem g1_len (f : Int) (R : RM) : (g1 f R).2.length = 32 := by
  unfold g1
  split
  · exact RM.id_len R
  · rfl
theorem buildS (W : World) {p : List Int} (hp : p.length = 32) : (Instr.buildSlice 26 1 #[(0, .agg (nums .u8 p).toArray)]).run Tryd.prog W = .ok (.slice (some ⟨W.heap.size, 0, none⟩) 1 1) (W.alloc (.cells (nums .u8 p).toArray 23)) := by
  obtain ⟨x0, x1, x2, x3, x4, x5, x6, x7, x8, x9, x10, x11, x12, x13, x14, x15, x16, x17, x18, x19, x20, x21, x22, x23, x24, x25, x26, x27, x28, x29, x30, x31, rfl⟩ := list32 hp
  kernel_rfl
theorem exec_buildS {o : Oper} {ev : Operand → Value} {W : World} (x : Operand) {p : List Int} (hp : p.length = 32) (ho : o.op = .buildSlice 26 1 #[(0, x)]) (hx : ev x = .agg (nums .u8 p).toArray) : (execOp ev o).run Tryd.prog W = .ok (.value (.slice (some ⟨W.heap.size, 0, none⟩) 1 1)) (W.alloc (.cells (nums .u8 p).toArray 23)) := by
  have h := buildS W hp
  unfold execOp
  simp [ho, hx, h]
theorem exec_build {P : Program} {o : Oper} {ev : Operand → Value} {W : World} (ty : TypeId) (x : Operand) (u v : Value) (ho : o.op = .build ty #[(0, x)]) (hx : ev x = u) (h : (Instr.build ty #[(0, u)]).run P W = .ok v W) : (execOp ev o).run P W = .ok (.value v) W := by
  unfold execOp
  simp [ho, hx, h]
theorem g1_on {f : Int} {R : RM} (h : fbit f 1 = true) : g1 f R = R.id := by unfold g1; rw [if_pos h]
theorem g1_off {f : Int} {R : RM} (h : fbit f 1 = false) : g1 f R = (R, zero32) := by unfold g1; rw [if_neg (by rw [h]; decide)]
theorem g2_on {f m : Int} {R : RM} (h : fbit f m = true) : g2 f m R = R.uint := by unfold g2; rw [if_pos h]
theorem g2_off {f m : Int} {R : RM} (h : fbit f m = false) : g2 f m R = (R, 0) := by unfold g2; rw [if_neg (by rw [h]; decide)]
theorem g4_on {f k : Int} {R : RM} (h : fbit f 8 = true) : g4 f k R = R.bytes (mostOf k) := by unfold g4; rw [if_pos h]
theorem g4_off {f k : Int} {R : RM} (h : fbit f 8 = false) : g4 f k R = (R, []) := by unfold g4; rw [if_neg (by rw [h]; decide)]
theorem gWay_on {f : Int} {R : RM} (h : fbit f 16 = true) : gWay f R = R.uint := by unfold gWay; rw [if_pos h]
theorem gWay_off {f : Int} {R : RM} (h : fbit f 16 = false) : gWay f R = (R, 0) := by unfold gWay; rw [if_neg (by rw [h]; decide)]
theorem ncells_len (k n o : Int) {p : List Int} (hp : p.length = 32) (vB vY : Value) : (ncells k n o p vB vY).length = 37 := by
  unfold ncells
  rw [List.length_cons, List.length_append, nums_length, hp]
  rfl
theorem nums_one (q : List Int) : ∀ v ∈ nums .u8 q, v.oneCell' = true := by
  intro v hv
  simp only [nums, List.mem_map] at hv
  obtain ⟨x, _, rfl⟩ := hv
  rfl
section
variable {w wc : World} {F : Nat → Prop} {N0 gn g : Nat} {R : RM} {k n o : Int} {p b : List Int} {ids : List (List Int)} {vB vY vW : Value}
theorem GI.fb (h : GI w wc F N0 gn g R k n o p b ids vB vY vW) : ∀ x, F x → x < wc.heap.size := fun x hx => by have h1 := h.fl x hx; have h2 := h.gn0; have h3 := blk_lt h.nt; omega
theorem GI.ge (h : GI w wc F N0 gn g R k n o p b ids vB vY vW) : ∀ x, F x → w.heap.size ≤ x := fun x hx => by have h1 := h.fl x hx; omega
theorem GI.id (h : GI w wc F N0 gn g R k n o p b ids vB vY vW) : Calls Tryd.prog 35 #[.pointer (some ⟨g, 0, none⟩)] wc fun e w' => e = .returned (.agg (nums .u8 R.id.2).toArray) ∧ GI w w' F N0 gn g R.id.1 k n o p b ids vB vY vW := by
  refine (id_calls h.w0 h.ge h.fb h.rd).mono ?_
  rintro e w9 ⟨rfl, h1, h2, h3⟩
  exact ⟨rfl, h.read h1 h2 h3⟩
theorem GI.uint (h : GI w wc F N0 gn g R k n o p b ids vB vY vW) : Calls Tryd.prog 33 #[.pointer (some ⟨g, 0, none⟩)] wc fun e w' => e = .returned (.int .u64 R.uint.2) ∧ GI w w' F N0 gn g R.uint.1 k n o p b ids vB vY vW := by
  refine (uint_any h.w0 h.ge h.rd).mono ?_
  rintro e w9 ⟨rfl, h1, h2, h3⟩
  exact ⟨rfl, h.read h1 h2 h3⟩
theorem GI.bytes (h : GI w wc F N0 gn g R k n o p b ids vB vY vW) (m : Int) (hm : m ≤ 9223372036854775807) : Calls Tryd.prog 36 #[.pointer (some ⟨g, 0, none⟩), .int .i64 m] wc fun e w' => ∃ v, e = .returned v ∧ Kd.R (Kd.int .u8) 5 w' N0 (fun _ => True) v (R.bytes m).2 ∧ GI w w' F N0 gn g (R.bytes m).1 k n o p b ids vB vY vW := by
  refine (bytes_calls h.w0 h.ge h.rd m hm).mono ?_
  rintro e w9 ⟨v, rfl, h0, h1, h2, h3⟩
  exact ⟨v, rfl, Kd.R_lower h0 (by have h2 := h.gn0; have h3 := blk_lt h.nt; omega), h.read h1 h2 h3⟩
/-- The store of an Id. -/
theorem GI.putP {o' : Oper} {ev : Operand → Value} {q : List Int} (h : GI w wc F N0 gn g R k n o p b ids vB vY vW) (x y : Operand) (ho : o'.op = .store 23 x y) (hx : ev x = .pointer (some ⟨gn, 1, none⟩)) (hy : ev y = .agg (nums .u8 q).toArray) (hq : q.length = 32) :
    (execOp ev o').run Tryd.prog wc = .ok .skip (wc.setCells gn 1 (nums .u8 q)) :=
  exec_store_mid wc 23 x y ho gn 1 _ hx hy 28 _ h.nt (by rw [nums_length, hq]; kernel_rfl) (by rw [ncells_len _ _ _ h.pl, nums_length, hq]; omega) (nums_one q)
end
theorem RM.id_byt {R : RM} (hb : Byt R.b) : Byt R.id.1.b ∧ Byt R.id.2 := by
  have h := RM.fixed_byt hb 32
  refine ⟨h.1, ?_⟩
  unfold RM.id
  dsimp only
  split
  · intro x hx; rw [List.eq_of_mem_replicate hx]; omega
  · exact h.2
theorem idsM_ok {R : RM} (hb : Byt R.b) : ∀ m, Byt (idsM m R).1.b ∧ (idsM m R).2.length = m ∧ ∀ x ∈ (idsM m R).2, x.length = 32 ∧ Byt x
  | 0 => ⟨hb, rfl, fun x hx => by cases hx⟩
  | m + 1 => by
    obtain ⟨h1, h2, h3⟩ := idsM_ok hb m
    refine ⟨(RM.id_byt h1).1, by show ((idsM m R).2 ++ [_]).length = _; rw [List.length_append, h2]; rfl, fun x hx => ?_⟩
    rcases List.mem_append.1 (show x ∈ (idsM m R).2 ++ [(idsM m R).1.id.2] from hx) with h | h
    · exact h3 x h
    · rw [List.mem_singleton.1 h]; exact ⟨RM.id_len _, (RM.id_byt h1).2⟩
theorem getD_all {Pd : List Int → Prop} {ids : List (List Int)} (h : ∀ x ∈ ids, Pd x) : ∀ i, i < ids.length → Pd (ids.getD i []) := fun i hi => by
  rw [List.getD_eq_getElem?_getD, List.getElem?_eq_getElem hi]; exact h _ (List.getElem_mem hi)
section
variable {w wc w9 : World} {F : Nat → Prop} {N0 gn g : Nat} {R : RM} {k n o : Int} {p b : List Int} {ids : List (List Int)} {vB vY vW : Value}
theorem own_slice {w : World} {N0 e size n : Nat} {v : Value} {xs : List Value} (h : w.ownsRow N0 e size v n xs) : ∃ A c, v = .slice A n c := by
  rcases h.2 with ⟨rfl, h0⟩ | ⟨b, cap, cur, rfl, hb, _⟩
  · exact ⟨_, _, by rw [h0]⟩
  · exact ⟨_, _, rfl⟩
/-- The store of a slice of ids. -/
theorem GI.putY {o' : Oper} {ev : Operand → Value} {A : Option Addr} {q c : Nat} (h : GI w wc F N0 gn g R k n o p b ids vB vY vW) (x y : Operand) (ho : o'.op = .store 26 x y) (hx : ev x = .pointer (some ⟨gn, 36, none⟩)) (hy : ev y = .slice A q c) :
    (execOp ev o').run Tryd.prog wc = .ok .skip (wc.setCell ⟨gn, 36, none⟩ (.slice A q c)) := by
  have hc := (NoteAt.cells h.nt h.pl).2.2.2.2.1
  have hf : wc.frozen? ⟨gn, 36, none⟩ = false := blk_frozen h.nt 36
  unfold execOp
  simp only [ho, hx, hy]
  go_simp
/-- The note is handed back: it was stored in the result's variable. -/
theorem GI.out (h : GI w wc F N0 gn g R k n o p b ids vB vW vW) (hk : Kept wc w9 (fun x => x = w.heap.size)) (hl : ∀ x ∈ ids, x.length = 32 ∧ Byt x) : NoteR w9 (ncells k n o p vB vW).toArray ⟨k, p, n, o, b, ids⟩ := by
  obtain ⟨A, bc, rfl, _⟩ := Kd.R_V (base' := 0) h.bs
  have hw9 : WayR w9 N0 vW ids := own_kept h.wy hk (fun x hx e => by have := own_lo h.wy x hx; have := h.lo; omega)
  obtain ⟨Y, yc, rfl, hY⟩ := hw9.ids (getD_all hl)
  exact ⟨A, bc, Y, yc, rfl, Kd.C_kept_own (Kd.R_mono (Kd.R_bound h.bs) (fun x hx => hx.2.1)) (fun x hx e => by have := h.lo; omega) w9 hk, hY⟩
end
section
variable {w : World}
theorem get_go {xs : List Int} (A : Option Addr) (c : Nat) (hr : Kd.C (Kd.int .u8) w A xs.length xs) (hc : xs.length ≤ c) (hl : xs.length < 140737488355328) (hy : Byt xs) (hF : FAt w) (he : (⟨xs, 0⟩ : RM).uint.1.e = 0) (hk : kindOf (⟨xs, 0⟩ : RM).uint.2 = true) :
    Calls Tryd.prog 13 #[.slice A xs.length c] w fun e w' => ∃ cs, e = .returned (.tuple #[.agg cs, .int .i64 (getM xs).1]) ∧ NoteR w' cs (getM xs).2 ∧ Below w.heap.size w w' := by
  obtain ⟨M, hM⟩ : ∃ M, M = getM xs := ⟨_, rfl⟩
  rw [← hM]
  unfold getM at hM
  rw [if_neg (by rw [he]; simp), if_neg (by rw [hk]; decide)] at hM
  obtain ⟨U, hU⟩ : ∃ U, U = (⟨xs, 0⟩ : RM).uint := ⟨_, rfl⟩
  rw [← hU] at he hk hM
  obtain ⟨R0, k⟩ := U
  dsimp only at he hk hM
  have d1 : (R0.e != 0) = false := by rw [he]; rfl
  have HK := Aside0.mk hk
  have hkr : 1 ≤ k ∧ k ≤ 14 := by unfold kindOf at hk; simpa using hk
  obtain ⟨kk, rfl⟩ : ∃ kk : Nat, k = kk := ⟨k.toNat, by omega⟩
  have hkk1 : 1 ≤ kk := by omega
  have hkk2 : kk ≤ 14 := by omega
  have hwi : wrap64 (kk : Int) = kk := IntWalk.wrap64_in _ ⟨by omega, by omega⟩
  have i15 : ((kk : Int) < 15) = True := eq_true (by omega)
  have i15d : decide ((kk : Int) < 15) = true := decide_eq_true (by omega)
  have i15n : decide (kk < 15) = true := decide_eq_true (by omega)
  obtain ⟨fk, hfk⟩ : ∃ fk, fk = fld kk := ⟨_, rfl⟩
  rw [← hfk] at hM
  have HFK := Aside0.mk hfk
  have HM := Aside0.mk hM
  have HF := Aside0.mk hF
  have HU := Aside0.mk (And.intro hU (And.intro hr (And.intro hc (And.intro hl hy))))
  clear hU he hk hr hc hl hy hM hF hfk hkr
  go_enter Tryd.func13, Tryd.ntmps13
  go_upto_region 7 with (first
    | ((with_reducible refine gate_dst (N := 2) rfl ?_); refine Kd.event_run rfl (v := .pointer (some ⟨w.heap.size, 0, none⟩)) (w1 := w.alloc (.cells nz28.toArray 28)) ?hr ?_; (case hr => first | kernel_rfl | (go_simp; done) | (go_simp; rfl)); go_loud (refine wpName (fun w1 hw1 => ?_); have H1 := Aside0.mk (And.intro (show w1.heap[w.heap.size]? = some (.cells nz28.toArray 28 (0, 0)) by rw [hw1]; exact blk_new w _) (And.intro (show Below w.heap.size w w1 by rw [hw1]; exact below_alloc (Below.refl _ _) _) (show w1.heap.size = w.heap.size + 1 by rw [hw1]; simp))); clear hw1))
    | (go_at_call 32; go_loud (obtain ⟨hU, hr, hc, hl, hy⟩ := HU.out; have hx := newReader_calls A c (Kd.C_below hr H1.out.2.1) hc hl hy; refine hx.mono ?_; clear hx; rintro e w2 ⟨g, rfl, hd2, hb2⟩; have H2 := Aside0.mk (And.intro hd2 (And.intro (below_step H1.out.2.1 hb2) (And.intro ((hb2.block _ (blk_lt H1.out.1)).trans H1.out.1) hb2))); clear hd2 hb2 hU hr hc hl hy))
    | (go_at_call 33; go_loud (have hx := uint_any (w0 := w1) (w := w2) H2.out.2.2.2 (fun k h => h.1) H2.out.1; rw [← HU.out.1] at hx; refine hx.mono ?_; clear hx; rintro e w3 ⟨rfl, hd3, hb3, hk3⟩; have H3 := Aside0.mk (And.intro hd3 hk3); have H4 := Aside0.mk (And.intro (H1.out.2.1.trans (hb3.mono H1.out.2.1.size)) (blk_kept H2.out.2.2.1 hk3 (show ¬ (w.heap.size = g) by have h1 := blk_lt H1.out.1; obtain ⟨_, _, hh, _⟩ := H2.out.1; have h2 : w1.heap.size ≤ g := hh.1; omega))); clear hd3 hb3 hk3))
    | (go_at_call 34; go_loud (have hx := err_calls H3.out.1; refine hx.mono ?_; clear hx; rintro e w4 ⟨rfl, rfl⟩))
    | (go_at_call 28; go_loud (have hx := notes_kind.calls (kk : Int) _ w3 (kind_f kk); rw [HK.out] at hx; refine hx.mono ?_; clear hx; rintro e w4 ⟨rfl, hdr⟩; have hb4 := hdr.below; have H6 := Aside0.mk (And.intro (below_step H4.out.1 hb4) (And.intro ((hb4.block _ (blk_lt H4.out.2)).trans H4.out.2) (And.intro (H3.out.1.below hb4) (show w2.heap.size ≤ w4.heap.size by have := H3.out.2.1; have := hb4.size; omega)))); clear hdr hb4)))
  obtain ⟨wd, hwd⟩ : ∃ wd, wd = w4.drew := ⟨_, rfl⟩
  have hbd : Below w4.heap.size w4 wd := by rw [hwd]; exact below_drew1 (Below.refl _ _)
  obtain ⟨F, hFe⟩ : ∃ F, F = Span w1 w2 := ⟨_, rfl⟩
  obtain ⟨N0, hN0⟩ : ∃ N0, N0 = w2.heap.size := ⟨_, rfl⟩
  have hFl : ∀ x, F x → w.heap.size < x ∧ x < N0 := fun x hx => by rw [hFe] at hx; have h1 := hx.1; have h2 := hx.2; have h3 := H1.out.2.2; omega
  have HD := Aside0.mk (And.intro (below_step H6.out.1 hbd) (And.intro ((hbd.block _ (blk_lt H6.out.2.1)).trans H6.out.2.1) (And.intro (show RdAt wd F g R0 by rw [hFe]; exact H6.out.2.2.1.below hbd) (And.intro hFl (And.intro (show N0 ≤ wd.heap.size by rw [hN0]; have := hbd.size; have := H6.out.2.2.2; omega) (show w.heap.size < N0 by have h1 := H2.out.2.2.2.size; have h2 := H1.out.2.2; omega))))))
  clear hbd hFe hN0 hFl H1 H2 H3 H4 H6
  refine start_ (n := 9) (S := fun w' => FAt w') (ds := []) #[false, false, false, false, false, false, false, false, false] (by kernel_rfl) rfl rfl (by rw [← hwd]; exact HF.out.below HD.out.1) (fun hHeld => ?_)
  rw [← hwd] at hHeld ⊢
  clear hwd
  refine pure_ (i := 0) (N := some 26) (v := ?_) (a' := ?_) #[true, false, false, false, false, false, false, false, false] rfl rfl (by kernel_rfl) (fun _ _ _ h => h) (Or.inl ⟨by rfl, ?_⟩) ?_ ?_
  rotate_left
  · intro w'
    go_simp
    with_reducible rfl
  rotate_left
  · simp only [Act.put, List.setIfInBounds_toArray, List.set_cons_zero, List.set_cons_succ, i64_w, i32_w]
    rfl
  refine pure_ (i := 1) (N := some 27) (v := ?_) (a' := ?_) #[true, true, false, false, false, false, false, false, false] rfl rfl (by kernel_rfl) (fun _ _ _ h => h) (Or.inl ⟨by rfl, ?_⟩) ?_ ?_
  rotate_left
  · intro w'
    go_simp
    with_reducible rfl
  rotate_left
  · simp only [Act.put, List.setIfInBounds_toArray, List.set_cons_zero, List.set_cons_succ, i64_w, i32_w]
    rfl
  refine take_ (i := 2) (N := some 28) (v := .agg (ncells kk 0 0 (List.replicate 32 0) (.slice none 0 0) (.slice none 0 0)).toArray) (a' := ?_) #[true, true, true, false, false, false, false, false, false] rfl rfl (by kernel_rfl) (fun _ _ _ h => h) (Or.inl ⟨by rfl, fun w' s0 => ?ld⟩) hHeld ?_ ?_
  case ld => exact exec_build 28 (.tmp 27) (.int .i64 (wrap64 (kk : Int))) _ rfl rfl (by have h := build_note1 w' (wrap64 (kk : Int)); rw [show ncells (wrap64 (kk : Int)) 0 0 = ncells kk 0 0 by rw [hwi]] at h; exact h)
  rotate_left
  · simp only [Act.put, List.setIfInBounds_toArray, List.set_cons_zero, List.set_cons_succ, i64_w, i32_w]
    rfl
  refine pure_ (i := 3) (N := some 29) (v := ?_) (a' := ?_) #[true, true, true, true, false, false, false, false, false] rfl rfl (by kernel_rfl) (fun _ _ _ h => h) (Or.inl ⟨by rfl, ?_⟩) ?_ ?_
  rotate_left
  · intro w'
    go_simp
    with_reducible rfl
  rotate_left
  · simp only [Act.put, List.setIfInBounds_toArray, List.set_cons_zero, List.set_cons_succ, i64_w, i32_w]
    rfl
  refine pure_ (i := 4) (N := some 30) (v := ?_) (a' := ?_) #[true, true, true, true, true, false, false, false, false] rfl rfl (by kernel_rfl) (fun _ _ _ h => h) (Or.inl ⟨by rfl, ?_⟩) ?_ ?_
  rotate_left
  · intro w'
    go_simp
    with_reducible rfl
  rotate_left
  · simp only [Act.put, List.setIfInBounds_toArray, List.set_cons_zero, List.set_cons_succ, i64_w, i32_w]
    rfl
  refine take_ (i := 5) (N := some 31) (v := ?_) (a' := ?_) #[true, true, true, true, true, true, false, false, false] rfl rfl (by kernel_rfl) (fun _ _ _ h => h) (Or.inl ⟨by rfl, ?_⟩) hHeld ?_ ?_
  rotate_left
  · rintro w' s0
    have hf0 := s0 kk (by omega); rw [← HFK.out] at hf0
    go_simp
    with_reducible rfl
  rotate_left
  · simp only [Act.put, List.setIfInBounds_toArray, List.set_cons_zero, List.set_cons_succ, i64_w, i32_w]
    rfl
  refine one_ (i := 6) (N := some 6) #[true, true, true, true, true, true, true, false, false] rfl rfl (by kernel_rfl) (by decide) (fun K hK => ?_)
  refine value_ (v := .pointer (some ⟨wd.heap.size, 0, none⟩)) (w1 := wd.alloc (.cells nz28.toArray 28)) (by rfl) rfl ?hr ?_
  case hr => first | kernel_rfl | (go_simp; done) | (go_simp; rfl)
  obtain ⟨gn, hgn⟩ : ∃ gn, gn = wd.heap.size := ⟨_, rfl⟩
  obtain ⟨w5, hw5⟩ : ∃ w5, w5 = wd.alloc (.cells nz28.toArray 28) := ⟨_, rfl⟩
  have hb5 : Below wd.heap.size wd w5 := by rw [hw5]; exact below_alloc (Below.refl _ _) _
  have hn5 : w5.heap[gn]? = some (.cells nz28.toArray 28 (0, 0)) := by rw [hw5, hgn]; exact blk_new wd _
  have H5 := Aside0.mk (And.intro hb5 (And.intro hn5 (And.intro (below_step HD.out.1 hb5) hgn)))
  rw [← hgn, ← hw5]
  clear hb5 hn5 hgn hw5
  refine hK.out _ _ (HF.out.below H5.out.2.2.1) (fun hHeld => ?_)
  clear hK K
  refine norm_ (a' := ?_) ?_ ?_
  rotate_left
  · show Act.put _ (some 6) _ = _
    simp only [Act.put, List.setIfInBounds_toArray, List.set_cons_zero, List.set_cons_succ, i64_w, i32_w]
    rfl
  refine one_ (i := 7) (N := none) #[true, true, true, true, true, true, true, true, false] rfl rfl (by kernel_rfl) (by decide) (fun K hK => ?_)
  refine skip_ (w1 := w5.setRow gn (ncells kk 0 0 (List.replicate 32 0) (.slice none 0 0) (.slice none 0 0)).toArray) (by rfl) rfl ?hr ?_
  case hr => exact exec_store_row w5 28 (.tmp 6) (.tmp 28) rfl gn _ rfl rfl 28 _ H5.out.2.1 (by kernel_rfl) rfl (by kernel_rfl)
  obtain ⟨w6, hw6⟩ : ∃ w6, w6 = w5.setRow gn (ncells kk 0 0 (List.replicate 32 0) (.slice none 0 0) (.slice none 0 0)).toArray := ⟨_, rfl⟩
  have hn6 : NoteAt w6 gn kk 0 0 zero32 (.slice none 0 0) (.slice none 0 0) := by rw [hw6]; exact setRow_heap _ _ _ _ _ _ H5.out.2.1
  have hk6 : Kept w5 w6 (fun x => x = gn) := by rw [hw6]; exact ⟨by simp, fun i _ hn => setRow_other _ _ _ _ hn⟩
  have hb6 : Below w.heap.size w w6 := by rw [hw6]; exact below_setRow H5.out.2.2.1 (by rw [H5.out.2.2.2]; exact HD.out.1.size) _
  have HP : Aside0 (GI w w6 F N0 gn g R0 kk 0 0 zero32 [] [] (.slice none 0 0) (.slice none 0 0) (.slice none 0 0)) := ⟨by
    obtain ⟨h1, h2, h3, h4, h5, h6⟩ := HD.out
    have hgn := H5.out.2.2.2
    refine ⟨hb6, blk_kept ((H5.out.1.block _ (blk_lt h2)).trans h2) hk6 (fun e => by omega), h6, by omega, (h3.below H5.out.1).kept hk6 (fun x hx e => by have := h4 x hx; omega), h4, hn6, Kd.R_nil _ _ _ _ _, World.ownsRow_nil _ _ _ _, rfl⟩⟩
  rw [← hw6]
  clear hn6 hk6 hb6 hw6
  refine hK.out _ _ (HF.out.below HP.out.w0) (fun hHeld => ?_)
  clear hK K
  refine pure_ (i := 8) (N := some 7) (v := ?_) (a' := ?_) #[true, true, true, true, true, true, true, true, true] rfl rfl (by kernel_rfl) (fun _ _ _ h => h) (Or.inl ⟨by rfl, ?_⟩) ?_ ?_
  rotate_left
  · intro w'
    go_simp
    with_reducible rfl
  rotate_left
  · simp only [Act.put, List.setIfInBounds_toArray, List.set_cons_zero, List.set_cons_succ, i64_w, i32_w]
    rfl
  refine done_ (by kernel_rfl) ?_
  clear hHeld HD H5 HF
  go_upto_if 34 with (fail)
  go_cut [] (fun wc => Aside0 (GI w wc F N0 gn g (g1 fk R0).1 kk 0 0 (g1 fk R0).2 [] [] (.slice none 0 0) (.slice none 0 0) (.slice none 0 0)))
  case first =>
    by_cases hc : 0 < bits .and .i64 fk 1
    · have hd : decide (0 < bits .and .i64 fk 1) = true := decide_eq_true hc
      go_wp2_with (first
        | (go_at_call 35; go_loud (refine HP.out.id.mono ?_; rintro e w9 ⟨rfl, h9⟩; have H9 := Aside0.mk h9; clear h9))
        | ((with_reducible refine gate_store (ty := 23) (x := .tmp 37) (y := .tmp 36) rfl ?_); go_loud (refine store_event rfl (t := 23) (p := 37) (v := .tmp 36) rfl rfl (w1 := w9.setCells gn 1 (nums .u8 R0.id.2)) ?hr ?_; (case hr => exact H9.out.putP (.tmp 37) (.tmp 36) rfl rfl rfl (RM.id_len R0)); intro w10 hw10; have H10 : Aside0 (GI w w10 F N0 gn g R0.id.1 kk 0 0 R0.id.2 [] [] (.slice none 0 0) (.slice none 0 0) (.slice none 0 0)) := ⟨by rw [hw10]; exact H9.out.cellP (RM.id_len R0)⟩; clear hw10)))
      go_meet
      case rel => exact ⟨by rw [g1_on (show fbit fk 1 = true from hd)]; exact H10.out⟩
    · have hd : decide (0 < bits .and .i64 fk 1) = false := decide_eq_false hc
      go_wp2
      go_meet
      case rel => exact ⟨by rw [g1_off (show fbit fk 1 = false from hd)]; exact HP.out⟩
  case rest =>
    have HP1 := hcut
    clear hcut HP
    go_upto_if 40 with (fail)
    go_cut [] (fun wc => Aside0 (GI w wc F N0 gn g (g2 fk 2 (g1 fk R0).1).1 kk (g2 fk 2 (g1 fk R0).1).2 0 (g1 fk R0).2 [] [] (.slice none 0 0) (.slice none 0 0) (.slice none 0 0)))
    case first =>
      by_cases hc : 0 < bits .and .i64 fk 2
      · have hd : decide (0 < bits .and .i64 fk 2) = true := decide_eq_true hc
        go_wp2_with (go_at_call 33; go_loud (refine HP1.out.uint.mono ?_; rintro e w9 ⟨rfl, h9⟩; obtain ⟨a0, a1, a2, a3, a4, a5⟩ := NoteAt.cells h9.nt h9.pl; have f33 : w9.frozen? ⟨gn, 33, none⟩ = false := blk_frozen h9.nt 33; have H9 := Aside0.mk h9; clear h9))
        go_meet
        case rel => exact ⟨by rw [g2_on (show fbit fk 2 = true from hd)]; exact H9.out.cellN _⟩
      · have hd : decide (0 < bits .and .i64 fk 2) = false := decide_eq_false hc
        go_wp2
        go_meet
        case rel => exact ⟨by rw [g2_off (show fbit fk 2 = false from hd)]; exact HP1.out⟩
    case rest =>
      have HP2 := hcut
      clear hcut HP1
      go_upto_if 46 with (fail)
      go_cut [] (fun wc => Aside0 (GI w wc F N0 gn g (g2 fk 4 (g2 fk 2 (g1 fk R0).1).1).1 kk (g2 fk 2 (g1 fk R0).1).2 (g2 fk 4 (g2 fk 2 (g1 fk R0).1).1).2 (g1 fk R0).2 [] [] (.slice none 0 0) (.slice none 0 0) (.slice none 0 0)))
      case first =>
        by_cases hc : 0 < bits .and .i64 fk 4
        · have hd : decide (0 < bits .and .i64 fk 4) = true := decide_eq_true hc
          go_wp2_with (go_at_call 33; go_loud (refine HP2.out.uint.mono ?_; rintro e w9 ⟨rfl, h9⟩; obtain ⟨a0, a1, a2, a3, a4, a5⟩ := NoteAt.cells h9.nt h9.pl; have f34 : w9.frozen? ⟨gn, 34, none⟩ = false := blk_frozen h9.nt 34; have H9 := Aside0.mk h9; clear h9))
          go_meet
          case rel => exact ⟨by rw [g2_on (show fbit fk 4 = true from hd)]; exact H9.out.cellO _⟩
        · have hd : decide (0 < bits .and .i64 fk 4) = false := decide_eq_false hc
          go_wp2
          go_meet
          case rel => exact ⟨by rw [g2_off (show fbit fk 4 = false from hd)]; exact HP2.out⟩
      case rest =>
        have HP3 := hcut
        clear hcut HP2
        go_upto_if 52 with (fail)
        obtain ⟨Q3, hQ3⟩ : ∃ Q3, Q3 = (g2 fk 4 (g2 fk 2 (g1 fk R0).1).1) := ⟨_, rfl⟩
        rw [← hQ3] at HP3
        obtain ⟨Q4, hQ4⟩ : ∃ Q4, Q4 = g4 fk kk Q3.1 := ⟨_, rfl⟩
        obtain ⟨nn, hnn⟩ : ∃ nn, nn = (g2 fk 2 (g1 fk R0).1).2 := ⟨_, rfl⟩
        obtain ⟨pp, hpp⟩ : ∃ pp, pp = (g1 fk R0).2 := ⟨_, rfl⟩
        rw [← hnn, ← hpp] at HP3
        have HQ := Aside0.mk (And.intro hQ3 (And.intro hQ4 (And.intro hnn hpp)))
        clear hQ3 hQ4 hnn hpp
        have HQ4 : Aside0 (Q4 = g4 fk kk Q3.1) := ⟨HQ.out.2.1⟩
        go_cut [] (fun wc => ∃ vB, Aside0 (GI w wc F N0 gn g Q4.1 kk nn Q3.2 pp Q4.2 [] vB (.slice none 0 0) (.slice none 0 0)))
        case first =>
          by_cases hc : 0 < bits .and .i64 fk 8
          · have hd : decide (0 < bits .and .i64 fk 8) = true := decide_eq_true hc
            have hmb : mostOf (kk : Int) ≤ 9223372036854775807 := by unfold mostOf; split <;> omega
            obtain ⟨mo, hmo⟩ : ∃ mo, mo = mostOf (kk : Int) := ⟨_, rfl⟩
            rw [← hmo] at hmb
            have HMO := Aside0.mk (And.intro hmb hmo)
            clear hmb hmo
            obtain ⟨a0, a1, a2, a3, a4, a5⟩ := NoteAt.cells HP3.out.nt HP3.out.pl
            clear a1 a2 a3 a4 a5
            go_wp2_with (first
              | (go_at_call 30; go_loud (have hx := notes_most.calls (kk : Int) _ wc (most_f (kk : Int)); rw [← HMO.out.2] at hx; refine hx.mono ?_; clear hx; rintro e w8 ⟨rfl, hdr⟩; have H8 := Aside0.mk (HP3.out.below hdr.below); clear hdr))
              | (go_at_call 36; go_loud (refine (H8.out.bytes mo HMO.out.1).mono ?_; rintro e w9 ⟨v9, rfl, hv9, h9⟩; obtain ⟨A9, n9, c9, hv9e⟩ : ∃ A9 n9 c9, v9 = .slice A9 n9 c9 := (by obtain ⟨A9, c9, hh, _⟩ := Kd.R_V (base' := 0) hv9; exact ⟨_, _, _, hh⟩); subst hv9e; obtain ⟨b0, b1, b2, b3, b4, b5⟩ := NoteAt.cells h9.nt h9.pl; have f35 : w9.frozen? ⟨gn, 35, none⟩ = false := blk_frozen h9.nt 35; have H9 := Aside0.mk h9; have HV9 := Aside0.mk hv9; clear h9 hv9 b0 b1 b2 b4 b5)))
            go_meet
            case rel => exact ⟨_, ⟨by have h1 := H9.out.cellB _ HV9.out; rw [HMO.out.2] at h1; rw [HQ4.out, g4_on (show fbit fk 8 = true from hd)]; exact h1⟩⟩
          · have hd : decide (0 < bits .and .i64 fk 8) = false := decide_eq_false hc
            go_wp2
            go_meet
            case rel => exact ⟨_, ⟨by rw [HQ4.out, g4_off (show fbit fk 8 = false from hd)]; exact HP3.out⟩⟩
        case rest =>
          obtain ⟨vB, HP4⟩ := hcut
          clear HP3
          obtain ⟨W, hW⟩ : ∃ W, W = gWay fk Q4.1 := ⟨_, rfl⟩
          have HM2 : Aside0 (M = if 64 < W.2 then (11, GM.none) else if (idsM W.2.toNat W.1).1.end_ ≠ 0 then ((idsM W.2.toNat W.1).1.end_, GM.none) else (0, ⟨kk, pp, nn, Q3.2, Q4.2, (idsM W.2.toNat W.1).2⟩)) := ⟨by
            obtain ⟨q3, q4, q1, q2⟩ := HQ.out
            have h := HM.out
            rw [show gR5 (kk : Int) R0 = Q4.1 by unfold gR5; rw [← HFK.out, ← q3, ← q4], ← hW, ← q3, ← q4, ← q1, ← q2] at h
            exact h⟩
          have HW := Aside0.mk hW
          clear HM HQ hW
          go_upto_if 61 with (fail)
          go_cut [] (fun wc => ∃ vW, Aside0 (W.2 ≤ 64 ∧ GI w wc F N0 gn g (idsM W.2.toNat W.1).1 kk nn Q3.2 pp Q4.2 (idsM W.2.toNat W.1).2 vB vW vW))
          case first =>
            by_cases hc : 0 < bits .and .i64 fk 16
            · have hd : decide (0 < bits .and .i64 fk 16) = true := decide_eq_true hc
              have HWe : Aside0 (W = Q4.1.uint) := ⟨by rw [HW.out, gWay_on (show fbit fk 16 = true from hd)]⟩
              obtain ⟨Rw, m⟩ := W
              dsimp only at HM2 ⊢
              have hm0 : 0 ≤ m ∧ m ≤ 18446744073709551615 := by have h := RM.uint_bd HP4.out.rd.byt; rw [← HWe.out] at h; exact h
              by_cases hbig : 64 < m
              · have d3 : decide (64 < m) = true := decide_eq_true hbig
                have HZ := Aside0.mk (And.intro hm0 hbig)
                clear hm0 hbig
                go_wp2_with (first
                  | (go_at_call 33; go_loud (have hx := HP4.out.uint; rw [← HWe.out] at hx; refine hx.mono ?_; clear hx; rintro e w9 ⟨rfl, h9⟩; have H9 := Aside0.mk h9; clear h9))
                  | ((with_reducible refine gate_store (ty := 28) (x := .tmp 2) (y := .tmp 66) rfl ?_); go_loud (refine wpList_store_row rfl 28 (.tmp 2) (.tmp 66) rfl w.heap.size nz28.toArray rfl rfl 28 nz28.toArray H9.out.res (by kernel_rfl) rfl nz28_one ?_; refine wpName (fun w10 hw10 => ?_); have H10 := Aside0.mk (And.intro (show w10.heap[w.heap.size]? = some (.cells nz28.toArray 28 (0, 0)) by rw [hw10]; exact setRow_heap _ _ _ _ _ _ H9.out.res) (show Below w.heap.size w w10 by rw [hw10]; exact below_setRow H9.out.w0 (Nat.le_refl _) _)); clear hw10)))
                refine bodyPost_ret (results_ct rfl _ _ w.heap.size 28 nz28.toArray (0, 0) _ rfl H10.out.1 Tryd.underlying28 rfl (by kernel_rfl)) rfl ?_
                rw [HM2.out, if_pos HZ.out.2]
                exact ⟨_, rfl, noteR_none _, H10.out.2⟩
              · have d3 : decide (64 < m) = false := decide_eq_false hbig
                have hRb : Byt Rw.b := by have h := RM.uint_byt HP4.out.rd.byt; rw [← HWe.out] at h; exact h
                have HZ := Aside0.mk (And.intro hm0 (And.intro hbig hRb))
                clear hm0 hbig hRb
                go_wp2_with ((go_at_call 33; go_loud (have hx := HP4.out.uint; rw [← HWe.out] at hx; refine hx.mono ?_; clear hx; rintro e w9 ⟨rfl, h9⟩; have H9 := Aside0.mk h9; clear h9)))
                clear HP4 HWe
                go_loopg [68] m.toNat (fun q v68 wr => ∃ (i : Nat) (vW : Value), v68 = .int .u64 i ∧ q + i = m.toNat ∧ Aside0 (GI w wr F N0 gn g (idsM i Rw).1 kk nn Q3.2 pp Q4.2 (idsM i Rw).2 vB vW vW))
                case atStart => exact ⟨0, _, rfl, by omega, H9⟩
                case round =>
                  clear H9
                  obtain ⟨i, vW, rfl, hq, hI⟩ := hrel
                  by_cases hlt : i < m.toNat
                  · have d2 : decide ((i : Int) < m) = true := decide_eq_true (by omega)
                    go_upto_region 22 with (fail)
                    obtain ⟨R1, hR1⟩ : ∃ R1, R1 = (idsM i Rw).1 := ⟨_, rfl⟩
                    obtain ⟨ids, hids⟩ : ∃ ids, ids = (idsM i Rw).2 := ⟨_, rfl⟩
                    obtain ⟨id, hid⟩ : ∃ id, id = R1.id.2 := ⟨_, rfl⟩
                    rw [← hR1, ← hids] at hI
                    have hil : ids.length ≤ 64 := by rw [hids, (idsM_ok HZ.out.2.2 i).2.1]; have := HZ.out.2.1; omega
                    have HR := Aside0.mk (And.intro hR1 (And.intro hids (And.intro hid (And.intro hil (show id.length = 32 by rw [hid]; exact RM.id_len R1)))))
                    clear hR1 hids hid hil
                    obtain ⟨wd, hwd⟩ : ∃ wd, wd = wr.drew := ⟨_, rfl⟩
                    have HId : Aside0 (GI w wd F N0 gn g R1 kk nn Q3.2 pp Q4.2 ids vB vW vW) := ⟨hI.out.below (by rw [hwd]; exact below_drew1 (Below.refl _ _))⟩
                    have hp := hI.out.pl
                    clear hI
                    refine start_ (n := 8) (S := fun w' => NoteAt w' gn kk nn Q3.2 pp vB vW) (ds := [7]) #[false, false, false, false, false, false, false, false] (by kernel_rfl) rfl rfl (by rw [← hwd]; exact HId.out.nt) (fun hHeld => ?_)
                    rw [← hwd] at hHeld ⊢
                    clear hwd
                    refine pure_ (i := 0) (N := some 70) (v := ?_) (a' := ?_) #[true, false, false, false, false, false, false, false] rfl rfl (by kernel_rfl) (fun _ _ _ h => h) (Or.inl ⟨by rfl, ?_⟩) ?_ ?_
                    rotate_left
                    · intro w'
                      go_simp
                      with_reducible rfl
                    rotate_left
                    · simp only [Act.put, List.setIfInBounds_toArray, List.set_cons_zero, List.set_cons_succ, i64_w, i32_w]
                      rfl
                    refine take_ (i := 1) (N := some 71) (v := ?_) (a' := ?_) #[true, true, false, false, false, false, false, false] rfl rfl (by kernel_rfl) (fun _ _ _ h => h) (Or.inl ⟨by rfl, ?_⟩) hHeld ?_ ?_
                    rotate_left
                    · rintro w' s0
                      obtain ⟨a0, a1, a2, a3, a4, a5⟩ := NoteAt.cells s0 hp
                      go_simp
                      with_reducible rfl
                    rotate_left
                    · simp only [Act.put, List.setIfInBounds_toArray, List.set_cons_zero, List.set_cons_succ, i64_w, i32_w]
                      rfl
                    refine pure_ (i := 2) (N := some 72) (v := ?_) (a' := ?_) #[true, true, true, false, false, false, false, false] rfl rfl (by kernel_rfl) (fun _ _ _ h => h) (Or.inl ⟨by rfl, ?_⟩) ?_ ?_
                    rotate_left
                    · intro w'
                      go_simp
                      with_reducible rfl
                    rotate_left
                    · simp only [Act.put, List.setIfInBounds_toArray, List.set_cons_zero, List.set_cons_succ, i64_w, i32_w]
                      rfl
                    refine one_ (i := 3) (N := some 73) #[true, true, true, true, false, false, false, false] rfl rfl (by kernel_rfl) (by decide) (fun K hK => ?_)
                    refine goes_ Tryd.func35 (by kernel_rfl) rfl #[.pointer (some ⟨g, 0, none⟩)] (by rfl) rfl rfl (by (try simp only [List.map_toArray, List.map_cons, List.map_nil]); first | rfl | (go_simp; done)) ?_
                    have hx := HId.out.id
                    rw [← HR.out.2.2.1] at hx
                    refine hx.mono ?_
                    clear hx
                    rintro e w8 ⟨rfl, h8⟩
                    refine ⟨_, rfl, ?_⟩
                    have H8 := Aside0.mk h8
                    clear h8
                    refine hK.out _ _ (H8.out.nt) (fun hHeld => ?_)
                    clear hK K
                    refine norm_ (a' := ?_) ?_ ?_
                    rotate_left
                    · show Act.put _ (some 73) _ = _
                      simp only [Act.put, List.setIfInBounds_toArray, List.set_cons_zero, List.set_cons_succ, i64_w, i32_w]
                      rfl
                    refine one_ (i := 4) (N := some 74) #[true, true, true, true, true, false, false, false] rfl rfl (by kernel_rfl) (by decide) (fun K hK => ?_)
                    refine value_ (v := .slice (some ⟨w8.heap.size, 0, none⟩) 1 1) (w1 := w8.alloc (.cells (nums .u8 id).toArray 23)) (by rfl) rfl ?hr ?_
                    case hr => exact exec_buildS (.tmp 73) HR.out.2.2.2.2 rfl rfl
                    refine hK.out _ _ (H8.out.nt.below (below_alloc (Below.refl _ _) _)) (fun hHeld => ?_)
                    clear hK K
                    refine norm_ (a' := ?_) ?_ ?_
                    rotate_left
                    · show Act.put _ (some 74) _ = _
                      simp only [Act.put, List.setIfInBounds_toArray, List.set_cons_zero, List.set_cons_succ, i64_w, i32_w]
                      rfl
                    refine one_ (i := 5) (N := some 75) #[true, true, true, true, true, true, false, false] rfl rfl (by kernel_rfl) (by decide) (fun K hK => ?_)
                    refine step_append_cells (w0 := w8) (W := w8) N0 (by rfl) (.tmp 71) (.tmp 74) 26 23 (.agg (nums .u8 zero32).toArray) 32 32 rfl Tryd.underlying26 (by kernel_rfl) (by kernel_rfl) (by omega) (by omega) vW ids.length (nums .u8 ids.flatten) (nums .u8 id) rfl rfl (by rw [nums_length]; exact HR.out.2.2.2.2) (nums_one id) H8.out.wy ?hB ?hbase (by have := HR.out.2.2.2.1; omega) ?_
                    case hB => exact Below.refl _ _
                    case hbase => have h1 := H8.out.gn0; have h2 := blk_lt H8.out.nt; omega
                    intro v1 w9 hv9 hb9 hg9 hat9
                    obtain ⟨A1, c1, rfl⟩ := own_slice hv9
                    have H9 := Aside0.mk (H8.out.grow hv9 (H8.out.w0.trans (hb9.mono (Nat.le_of_lt H8.out.lo))) hg9)
                    clear hv9 hb9 hg9 hat9
                    refine hK.out _ _ (H9.out.nt) (fun hHeld => ?_)
                    clear hK K
                    refine norm_ (a' := ?_) ?_ ?_
                    rotate_left
                    · show Act.put _ (some 75) _ = _
                      simp only [Act.put, List.setIfInBounds_toArray, List.set_cons_zero, List.set_cons_succ, i64_w, i32_w]
                      rfl
                    refine pure_ (i := 6) (N := some 76) (v := ?_) (a' := ?_) #[true, true, true, true, true, true, true, false] rfl rfl (by kernel_rfl) (fun _ _ _ h => h) (Or.inl ⟨by rfl, ?_⟩) ?_ ?_
                    rotate_left
                    · intro w'
                      go_simp
                      with_reducible rfl
                    rotate_left
                    · simp only [Act.put, List.setIfInBounds_toArray, List.set_cons_zero, List.set_cons_succ, i64_w, i32_w]
                      rfl
                    refine last_ (i := 7) (N := none) #[true, true, true, true, true, true, true, true] rfl rfl (by kernel_rfl) (by decide) (fun K hK => ?_)
                    refine skip_ (w1 := w9.setCell ⟨gn, 36, none⟩ (.slice A1 (ids.length + 1) c1)) (by rfl) rfl ?hr ?_
                    case hr => exact H9.out.putY (.tmp 76) (.tmp 75) rfl rfl rfl
                    have HA := Aside0.mk (H9.out.cellY (.slice A1 (ids.length + 1) c1))
                    refine hK.out _ _ ?_
                    clear hK K
                    refine done_ (by kernel_rfl) ?_
                    go_wp2
                    go_roundg (m.toNat - (i + 1))
                    case measure => omega
                    case rel =>
                      refine ⟨i + 1, .slice A1 (ids.length + 1) c1, ?_, by omega, ⟨?_⟩⟩
                      · rw [wraps_u64 _ (by omega) (by have := HZ.out.2.1; omega)]; rfl
                      · obtain ⟨e1, e2, e3, _⟩ := HR.out
                        rw [show (idsM (i + 1) Rw).1 = R1.id.1 by rw [e1]; rfl, show (idsM (i + 1) Rw).2 = ids ++ [id] by rw [e2, e3, e1]; rfl]
                        exact HA.out
                  · have d2 : decide ((i : Int) < m) = false := decide_eq_false (by omega)
                    go_wp2
                    go_meet
                    case rel =>
                      refine ⟨vW, ⟨⟨show m ≤ 64 by have := HZ.out.2.1; omega, ?_⟩⟩⟩
                      rw [show i = m.toNat by omega] at hI
                      exact hI.out
            · have hd : decide (0 < bits .and .i64 fk 16) = false := decide_eq_false hc
              go_wp2
              go_meet
              case rel => exact ⟨_, ⟨by rw [HW.out, gWay_off (show fbit fk 16 = false from hd)]; exact ⟨show (0 : Int) ≤ 64 by omega, HP4.out⟩⟩⟩
          case rest =>
            obtain ⟨vW, HP5⟩ := hcut
            have HBy : Aside0 (Byt W.1.b) := ⟨by
              rw [HW.out]
              unfold gWay
              split
              · exact RM.uint_byt HP4.out.rd.byt
              · exact HP4.out.rd.byt⟩
            clear HP4 HW
            have hbig : ¬ 64 < W.2 := by have := HP5.out.1; omega
            rw [if_neg hbig] at HM2
            obtain ⟨Z, hZ⟩ : ∃ Z, Z = idsM W.2.toNat W.1 := ⟨_, rfl⟩
            have hok := idsM_ok HBy.out W.2.toNat
            rw [← hZ] at HM2 HP5 hok
            have HOK := Aside0.mk hok.2.2
            clear hbig hok hZ
            obtain ⟨er, her⟩ : ∃ er, er = Z.1.end_ := ⟨_, rfl⟩
            rw [← her] at HM2
            have HE := Aside0.mk her
            clear her
            by_cases hz : er = 0
            · subst hz
              obtain ⟨cs, hcs⟩ : ∃ cs, cs = (ncells kk nn Q3.2 pp vB vW).toArray := ⟨_, rfl⟩
              have hp := HP5.out.2.pl
              have hsz : (Tryd.prog.info? 28).map (·.size) = some cs.size := by rw [hcs, List.size_toArray, ncells_len _ _ _ hp]; kernel_rfl
              have hone : cs.all (·.oneCell') = true := by
                rw [hcs, Array.all_eq_true_iff_forall_mem]
                intro v hv
                rw [List.mem_toArray] at hv
                unfold ncells at hv
                rcases List.mem_cons.1 hv with rfl | hv
                · rfl
                · rcases List.mem_append.1 hv with hv | hv
                  · exact nums_one pp v hv
                  · have hvB := (Kd.R_val HP5.out.2.bs).2
                    obtain ⟨A1, c1, hY⟩ := own_slice HP5.out.2.wy
                    simp only [List.mem_cons, List.not_mem_nil, or_false] at hv
                    rcases hv with rfl | rfl | rfl | rfl
                    · rfl
                    · rfl
                    · exact hvB
                    · rw [hY]; rfl
              have hsz2 : nz28.toArray.size = cs.size := by rw [hcs, List.size_toArray, List.size_toArray, ncells_len _ _ _ hp]; rfl
              have HCS := Aside0.mk (And.intro hcs (And.intro hsz (And.intro hone hsz2)))
              clear hcs hsz hone hsz2
              go_wp2_with (first
                | (go_at_call 37; go_loud (have hx := end_calls HP5.out.2.rd; rw [← HE.out] at hx; refine hx.mono ?_; clear hx; rintro e w9 ⟨rfl, rfl⟩))
                | ((with_reducible refine gate_dst (N := 84) rfl ?_); refine Kd.event_run rfl (v := .agg cs) (w1 := wc) ?hr ?_; (case hr => (rw [HCS.out.1]; exact load_note (P := Tryd.prog) HP5.out.2.nt hp (.tmp 6) rfl rfl)))
                | ((with_reducible refine gate_store (ty := 28) (x := .tmp 2) (y := .tmp 84) rfl ?_); go_loud (refine wpList_store_row rfl 28 (.tmp 2) (.tmp 84) rfl w.heap.size cs rfl rfl 28 nz28.toArray HP5.out.2.res HCS.out.2.1 HCS.out.2.2.2 HCS.out.2.2.1 ?_; refine wpName (fun w10 hw10 => ?_); have H10 := Aside0.mk (And.intro (show w10.heap[w.heap.size]? = some (.cells cs 28 (0, 0)) by rw [hw10]; exact setRow_heap _ _ _ _ _ _ HP5.out.2.res) (And.intro (show Below w.heap.size w w10 by rw [hw10]; exact below_setRow HP5.out.2.w0 (Nat.le_refl _) _) (show Kept wc w10 (fun x => x = w.heap.size) by rw [hw10]; exact ⟨by simp, fun i _ hn => setRow_other _ _ _ _ hn⟩))); clear hw10)))
              refine bodyPost_ret (results_ct rfl _ _ w.heap.size 28 cs (0, 0) _ rfl H10.out.1 Tryd.underlying28 rfl HCS.out.2.1) rfl ?_
              rw [HM2.out, if_neg (by decide)]
              exact ⟨_, rfl, by rw [HCS.out.1]; exact HP5.out.2.out H10.out.2.2 HOK.out, H10.out.2.1⟩
            · have d5 : (er != 0) = true := bne_iff_ne.2 hz
              have HZ := Aside0.mk hz
              clear hz
              go_wp2_with (first
                | (go_at_call 37; go_loud (have hx := end_calls HP5.out.2.rd; rw [← HE.out] at hx; refine hx.mono ?_; clear hx; rintro e w9 ⟨rfl, rfl⟩))
                | ((with_reducible refine gate_store (ty := 28) (x := .tmp 2) (y := .tmp 82) rfl ?_); go_loud (refine wpList_store_row rfl 28 (.tmp 2) (.tmp 82) rfl w.heap.size nz28.toArray rfl rfl 28 nz28.toArray HP5.out.2.res (by kernel_rfl) rfl nz28_one ?_; refine wpName (fun w10 hw10 => ?_); have H10 := Aside0.mk (And.intro (show w10.heap[w.heap.size]? = some (.cells nz28.toArray 28 (0, 0)) by rw [hw10]; exact setRow_heap _ _ _ _ _ _ HP5.out.2.res) (show Below w.heap.size w w10 by rw [hw10]; exact below_setRow HP5.out.2.w0 (Nat.le_refl _) _)); clear hw10)))
              refine bodyPost_ret (results_ct rfl _ _ w.heap.size 28 nz28.toArray (0, 0) _ rfl H10.out.1 Tryd.underlying28 rfl (by kernel_rfl)) rfl ?_
              rw [HM2.out, if_pos HZ.out]
              exact ⟨_, rfl, noteR_none _, H10.out.2⟩
end
end Go.Proofs.YtlcanfniphdelaaDoor.Not
