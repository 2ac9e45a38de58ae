/- The walk of NotesWays. -/
import Derived.Test.YtlcanfniphdelaaDoorLPuts
namespace Go.Proofs.YtlcanfniphdelaaDoor.Not
open Go.RowKit Go.Maps Go.Proofs.YtlcanfniphdelaaDoorW.PrintWords Go.Proofs.YtlcanfniphdelaaDoorW.PrintLast Go.Proofs.YtlcanfniphdelaaDoorW.PrintMore Go.Proofs.YtlcanfniphdelaaDoor.Mem Go.Proofs.YtlcanfniphdelaaDoor.Cod Go.Proofs.YtlcanfniphdelaaDoor.Ins Go.Proofs.YtlcanfniphdelaaDoor.Open Go.Proofs.YtlcanfniphdelaaDoor.PCod
set_option linter.unusedVariables false
set_option linter.unusedSimpArgs false
set_option maxRecDepth 8000
set_option maxHeartbeats 16000000
/-- So many noughts, and so many Ids of noughts. -/
def gW (k : Int) (n m : Nat) : GM := ⟨k, zero32, 0, 0, List.replicate n 0, List.replicate m zero32⟩
def nW (k : Int) (n m gB gY : Nat) : Array Value := (ncells k 0 0 (List.replicate 32 0) (.slice (some ⟨gB, 0, none⟩) n n) (.slice (some ⟨gY, 0, none⟩) m m)).toArray
theorem build_nW (W : World) (k : Int) (n m gB gY : Nat) : (Instr.build 28 #[(0, .int .i64 k), (4, .slice (some ⟨gB, 0, none⟩) n n), (5, .slice (some ⟨gY, 0, none⟩) m m)]).run Tryd.prog W = .ok (.agg (nW k n m gB gY)) W := by kernel_rfl
theorem exec_bW {o : Oper} {ev : Operand → Value} {W : World} {k : Int} {n m gB gY : Nat} (x y z : Operand) (ho : o.op = .build 28 #[(0, x), (4, y), (5, z)]) (hx : ev x = .int .i64 k) (hy : ev y = .slice (some ⟨gB, 0, none⟩) n n) (hz : ev z = .slice (some ⟨gY, 0, none⟩) m m) : (execOp ev o).run Tryd.prog W = .ok (.value (.agg (nW k n m gB gY))) W := by
  have h := build_nW W k n m gB gY
  unfold execOp
  simp [ho, hx, hy, hz, h]
theorem exec_mk {P : Program} {o : Oper} {ev : Operand → Value} {W W1 : World} {t : TypeId} {u v : Value} (x : Operand) (ho : o.op = .makeSlice t x x) (hx : ev x = u) (h : (Instr.makeSlice t u u).run P W = .ok v W1) : (execOp ev o).run P W = .ok (.value v) W1 := by
  unfold execOp
  simp [ho, hx, h]
theorem made_zero {z : Array Value} {c : Nat} (hz : ∀ j, j < z.size → z[j]? = some (.int .u8 0)) (hs : 0 < z.size) : madeCells z c = (nums .u8 (List.replicate c 0)).toArray := by
  apply Array.ext_getElem?
  intro j
  unfold madeCells nums
  by_cases hj : j < c
  · have hm : j % z.size < z.size := Nat.mod_lt _ hs
    have hzz := hz _ hm
    rw [Array.getElem?_eq_getElem hm] at hzz
    have h2 : z[j % z.size]! = .int .u8 0 := by rw [getElem!_pos z _ hm]; exact Option.some.inj hzz
    simp [hj, h2]
  · rw [Array.getElem?_eq_none (by simp; omega), Array.getElem?_eq_none (by simp; omega)]
theorem mk_bytes (W : World) {n : Nat} (hn : n ≤ 255) : (Instr.makeSlice 25 (.int .i64 n) (.int .i64 n)).run Tryd.prog W = .ok (.slice (some ⟨W.heap.size, 0, none⟩) n n) (W.alloc (.cells (nums .u8 (List.replicate n 0)).toArray 5)) := by
  have hi0 : (Tryd.prog.info? 5).map (fun i => (i.zero, i.size, i.bytes)) = some (some (.int .u8 0), 1, 1) := by kernel_rfl
  obtain ⟨i0, hi, hzz⟩ := Option.map_eq_some_iff.1 hi0
  simp only [Prod.mk.injEq] at hzz
  obtain ⟨hz0, hz1, hz2⟩ := hzz
  have hr := run_make (P := Tryd.prog) W 25 5 i0 (.int .u8 0) Tryd.underlying25 hi hz0 .i64 .i64 (n : Int) (n : Int) (by omega) (by omega) (by rw [hz2]; omega) (by omega)
  simp only [Int.toNat_natCast] at hr
  rw [hz1, Nat.mul_one, made_zero (z := (Value.int .u8 0).cells) (fun j hj => by have h1 : (Value.int .u8 0).cells.size = 1 := rfl; have h0 : j = 0 := (by omega); rw [h0]; rfl) (by decide)] at hr
  exact hr
theorem mk_ids (W : World) {m : Nat} (hm : m ≤ 255) : (Instr.makeSlice 26 (.int .i64 m) (.int .i64 m)).run Tryd.prog W = .ok (.slice (some ⟨W.heap.size, 0, none⟩) m m) (W.alloc (.cells (nums .u8 (List.replicate (m * 32) 0)).toArray 23)) := by
  have hi0 : (Tryd.prog.info? 23).map (fun i => (i.zero, i.size, i.bytes)) = some (some (.agg (nums .u8 zero32).toArray), 32, 32) := by kernel_rfl
  obtain ⟨i0, hi, hzz⟩ := Option.map_eq_some_iff.1 hi0
  simp only [Prod.mk.injEq] at hzz
  obtain ⟨hz0, hz1, hz2⟩ := hzz
  have hr := run_make (P := Tryd.prog) W 26 23 i0 (.agg (nums .u8 zero32).toArray) Tryd.underlying26 hi hz0 .i64 .i64 (m : Int) (m : Int) (by omega) (by omega) (by rw [hz2]; omega) (by omega)
  simp only [Int.toNat_natCast] at hr
  rw [hz1, made_zero (z := (Value.agg (nums .u8 zero32).toArray).cells) (fun j hj => by
    have h1 : (Value.agg (nums .u8 zero32).toArray).cells = (nums .u8 zero32).toArray := rfl
    rw [h1] at hj ⊢
    rw [List.size_toArray, nums_length] at hj
    rw [List.getElem?_toArray]
    unfold nums
    rw [List.getElem?_map, show zero32 = List.replicate 32 0 from rfl, List.getElem?_replicate, if_pos (by simpa [zero32] using hj)]
    rfl) (by decide)] at hr
  exact hr
theorem inW {w : World} {k : Int} {n m gB gY : Nat} (hk : -9223372036854775808 ≤ k ∧ k ≤ 9223372036854775807) (hn : n ≤ 255) (hm : m ≤ 255) (hB : w.heap[gB]? = some (.cells (nums .u8 (List.replicate n 0)).toArray 5 (0, 0))) (hY : w.heap[gY]? = some (.cells (nums .u8 (List.replicate (m * 32) 0)).toArray 23 (0, 0))) : InN w (gW k n m) (some ⟨gB, 0, none⟩) (some ⟨gY, 0, none⟩) := by
  have z8 : ∀ (c : Nat), Byt (List.replicate c 0) := fun c x hx => by rw [List.eq_of_mem_replicate hx]; omega
  refine ⟨hk, by show (0 : Int) ≤ 0 ∧ (0 : Int) ≤ _; omega, by show (0 : Int) ≤ 0 ∧ (0 : Int) ≤ _; omega, rfl, z8 32, ?_, z8 n, Nat.le_trans (Nat.le_of_eq (List.length_replicate (n := n) (a := (0 : Int)))) (by omega), fun i hi => ?_, Nat.le_trans (Nat.le_of_eq (List.length_replicate (n := m) (a := zero32))) (by omega)⟩
  · exact arr_row hB (Nat.le_trans (Nat.le_of_eq (List.length_replicate (n := n) (a := (0 : Int)))) (by omega))
  · have hi' : i < m := by have h : i < (List.replicate m zero32).length := hi; rwa [List.length_replicate] at h
    have e : (gW k n m).ids.getD i [] = zero32 := by show (List.replicate m zero32).getD i [] = _; rw [List.getD_eq_getElem?_getD, List.getElem?_replicate, if_pos hi']; rfl
    rw [e]
    refine ⟨rfl, z8 32, _, rfl, fun j v hv => ?_⟩
    have hj : j < 32 := by
      have := (List.getElem?_eq_some_iff.1 hv).1
      rw [nums_length] at this
      exact this
    rw [add_p, Nat.zero_add, blk_cell hY, List.getElem?_toArray]
    unfold nums at hv ⊢
    rw [List.getElem?_map, show zero32 = List.replicate 32 0 from rfl, List.getElem?_replicate, if_pos hj] at hv
    rw [List.getElem?_map, List.getElem?_replicate, if_pos (by omega)]
    exact hv
theorem nW_eq (k : Int) (n m gB gY : Nat) : nW k n m gB gY = (ncells (gW k n m).k (gW k n m).n (gW k n m).o (gW k n m).p (.slice (some ⟨gB, 0, none⟩) (gW k n m).b.length n) (.slice (some ⟨gY, 0, none⟩) (gW k n m).ids.length m)).toArray := by
  unfold nW gW
  simp only [List.length_replicate]
  rfl
/-- Whether it may be, as the statement says it. -/
def bodyW (k : Int) : Bool := decide (k = 4) || decide (k = 9) || decide (k = 11) || decide (k = 14)
def badW (k : Int) (n m : Nat) : Prop := if k = 7 then 64 < n ∨ 64 < m else k < 1 ∨ 14 < k ∨ m ≠ 0 ∨ (n ≠ 0 ∧ bodyW k = false)
theorem acc_W : ∀ k : Nat, k < 15 → 1 ≤ k → ∀ d e : Bool, (bits .andNot .i64 (accB false false false d e) (fld k) == 0) = ((decide (k = 7) || !e) && (decide (k = 7) || !d || bodyW k)) := by decide +kernel
theorem bad_W {k : Int} {n m : Nat} (hn : n ≤ 255) (hm : m ≤ 255) : chkBad k (accB false false false (decide (0 < n)) (decide (0 < m))) n m ↔ badW k n m := by
  unfold chkBad badW
  by_cases hk : 1 ≤ k ∧ k ≤ 14
  · obtain ⟨kk, rfl⟩ : ∃ kk : Nat, k = kk := ⟨k.toNat, by omega⟩
    have hx := acc_W kk (by omega) (by omega) (decide (0 < n)) (decide (0 < m))
    have hkk : kindOf (kk : Int) = true := by unfold kindOf; rw [decide_eq_true hk.1, decide_eq_true hk.2]; rfl
    generalize bits .andNot .i64 (accB false false false (decide (0 < n)) (decide (0 < m))) (fld (kk : Int)) = z at hx ⊢
    rw [hkk]
    by_cases h7 : kk = 7
    · subst h7
      have hz : z = 0 := by simpa using hx
      rw [hz]
      unfold mostOf
      simp
      omega
    · have h7i : ¬ (kk : Int) = 7 := by omega
      rw [if_neg h7i]
      unfold mostOf
      rw [if_neg h7i]
      rw [decide_eq_false h7, Bool.false_or, Bool.false_or] at hx
      cases hb : bodyW kk
      · rw [hb, Bool.or_false] at hx
        by_cases hz : z = 0
        · rw [hz] at hx ⊢
          simp at hx
          simp
          omega
        · have hz2 : (z == 0) = false := by simpa using hz
          rw [hz2] at hx
          have : n ≠ 0 ∨ m ≠ 0 := by
            by_cases h1 : n = 0
            · by_cases h2 : m = 0
              · subst h1 h2; simp at hx
              · exact .inr h2
            · exact .inl h1
          simp [hz]
          omega
      · rw [hb, Bool.or_true, Bool.and_true] at hx
        by_cases hz : z = 0
        · rw [hz] at hx ⊢
          simp at hx
          simp
          omega
        · have hz2 : (z == 0) = false := by simpa using hz
          rw [hz2] at hx
          simp at hx
          simp [hz]
          omega
  · have hkk : kindOf k = false := by
      unfold kindOf
      by_cases h1 : 1 ≤ k
      · rw [decide_eq_false (show ¬ k ≤ 14 by omega), Bool.and_false]
      · rw [decide_eq_false h1]; rfl
    have h7 : ¬ k = 7 := by omega
    rw [if_neg h7]
    refine ⟨fun _ => ?_, fun _ => .inr (.inl hkk)⟩
    omega
theorem chk_W {k : Int} {n m : Nat} (hn : n ≤ 255) (hm : m ≤ 255) : (badW k n m → chkG (gW k n m) = 1) ∧ (¬ badW k n m → chkG (gW k n m) = 0) := by
  have hl1 : (gW k n m).b.length = n := List.length_replicate
  have hl2 : (gW k n m).ids.length = m := List.length_replicate
  have ha : accN (gW k n m).n (gW k n m).o (gW k n m).p (gW k n m).b.length (gW k n m).ids.length = accB false false false (decide (0 < n)) (decide (0 < m)) := by
    rw [hl1, hl2]; rfl
  have hb := bad_W (k := k) hn hm
  unfold chkG chk
  rw [ha, hl1, hl2]
  exact ⟨fun h => if_pos (hb.2 h), fun h => if_neg (fun h2 => h (hb.1 h2))⟩
section
variable {w : World}
theorem ways_law {k : Int} {n m : Nat} (hk : -9223372036854775808 ≤ k ∧ k ≤ 9223372036854775807) (hn : n ≤ 255) (hm : m ≤ 255) (hF : FAt w) : Calls Tryd.prog 6 #[.int .i64 k, .int .u8 n, .int .u8 m] w fun e w' => e = .returned (.bool true) ∧ Below w.heap.size w w' := by
  have HF := Aside0.mk (And.intro hk hF)
  have HWN : Aside0 (wrap64 (n : Int) = n) := ⟨IntWalk.wrap64_in _ ⟨by omega, by omega⟩⟩
  have HWM : Aside0 (wrap64 (m : Int) = m) := ⟨IntWalk.wrap64_in _ ⟨by omega, by omega⟩⟩
  clear hk hF
  go_enter Tryd.func6, Tryd.ntmps6
  go_upto_region 4 with (first
    | (go_at_call 7; go_loud (refine (awake20_calls HF.out.2).mono ?_; rintro e w1 ⟨rfl, hb1⟩; have H1 := Aside0.mk hb1; clear hb1)))
  obtain ⟨wd, hwd⟩ : ∃ wd, wd = w1.drew := ⟨_, rfl⟩
  have Hwd := Aside0.mk (And.intro (show Below w.heap.size w wd by rw [hwd]; exact below_drew1 H1.out) trivial)
  clear H1
  refine start_ (n := 10) (S := fun w' => True) (ds := []) (bm 10 0) (by kernel_rfl) rfl (by kernel_rfl) (trivial) (fun hHeld => ?_)
  rw [← hwd]
  clear hwd
  refine pure_ (i := 0) (N := some 17) (v := ?_) (a' := ?_) (bm 10 1) rfl rfl (by kernel_rfl) (fun _ _ _ h => h) (Or.inl ⟨by rfl, ?_⟩) ?_ ?_
  rotate_left
  · intro w'
    go_simp
    with_reducible rfl
  rotate_left
  · simp only [Act.put, List.setIfInBounds_toArray, List.set_cons_zero, List.set_cons_succ, i64_w, i32_w]
    rfl
  refine pure_ (i := 1) (N := some 18) (v := ?_) (a' := ?_) (bm 10 3) rfl rfl (by kernel_rfl) (fun _ _ _ h => h) (Or.inl ⟨by rfl, ?_⟩) ?_ ?_
  rotate_left
  · intro w'
    go_simp
    with_reducible rfl
  rotate_left
  · simp only [Act.put, List.setIfInBounds_toArray, List.set_cons_zero, List.set_cons_succ, i64_w, i32_w]
    rfl
  refine pure_ (i := 2) (N := some 19) (v := ?_) (a' := ?_) (bm 10 7) rfl rfl (by kernel_rfl) (fun _ _ _ h => h) (Or.inl ⟨by rfl, ?_⟩) ?_ ?_
  rotate_left
  · intro w'
    go_simp
    with_reducible rfl
  rotate_left
  · simp only [Act.put, List.setIfInBounds_toArray, List.set_cons_zero, List.set_cons_succ, i64_w, i32_w]
    rfl
  refine pure_ (i := 4) (N := some 21) (v := ?_) (a' := ?_) (bm 10 23) rfl rfl (by kernel_rfl) (fun _ _ _ h => h) (Or.inl ⟨by rfl, ?_⟩) ?_ ?_
  rotate_left
  · intro w'
    go_simp
    with_reducible rfl
  rotate_left
  · simp only [Act.put, List.setIfInBounds_toArray, List.set_cons_zero, List.set_cons_succ, i64_w, i32_w]
    rfl
  refine pure_ (i := 5) (N := some 22) (v := ?_) (a' := ?_) (bm 10 55) rfl rfl (by kernel_rfl) (fun _ _ _ h => h) (Or.inl ⟨by rfl, ?_⟩) ?_ ?_
  rotate_left
  · intro w'
    go_simp
    with_reducible rfl
  rotate_left
  · simp only [Act.put, List.setIfInBounds_toArray, List.set_cons_zero, List.set_cons_succ, i64_w, i32_w]
    rfl
  refine join_ (σ := Nat × Nat × Nat) 1 (bm 10 511) (fun s => [(20, .slice (some ⟨s.1, 0, none⟩) n n), (23, .slice (some ⟨s.2.1, 0, none⟩) m m), (24, .agg (nW k n m s.1 s.2.1)), (8, .pointer (some ⟨s.2.2, 0, none⟩))]) (fun s w' => w'.heap[s.1]? = some (.cells (nums .u8 (List.replicate n 0)).toArray 5 (0, 0)) ∧ w'.heap[s.2.1]? = some (.cells (nums .u8 (List.replicate (m * 32) 0)).toArray 23 (0, 0)) ∧ w'.heap[s.2.2]? = some (.cells nz28.toArray 28 (0, 0)) ∧ Below w.heap.size w w' ∧ w.heap.size ≤ s.2.2) ?hcont (fun hJ => ?_)
  rotate_left
  refine three_ (i := 3) (j := 6) (k := 8) (Ni := (some 20)) (Nj := (some 23)) (Nk := (some 8)) (bm 10 63) (bm 10 119) (bm 10 311) rfl rfl rfl rfl rfl rfl (by kernel_rfl) (by decide) (by decide) (by decide) (fun K hK => ?_) (fun K hK => ?_) (fun K hK => ?_)
  · refine value_ (v := .slice (some ⟨wd.heap.size, 0, none⟩) n n) (w1 := wd.alloc (.cells (nums .u8 (List.replicate n 0)).toArray 5)) (by rfl) rfl ?hr ?_
    case hr => exact exec_mk (.tmp 19) rfl (u := .int .i64 (wrap64 (n : Int))) rfl (by rw [HWN.out]; exact mk_bytes wd hn)
    obtain ⟨gB, hgB⟩ : ∃ g, g = wd.heap.size := ⟨_, rfl⟩
    obtain ⟨w3, hw3⟩ : ∃ z, z = wd.alloc (.cells (nums .u8 (List.replicate n 0)).toArray 5) := ⟨_, rfl⟩
    have hbw3 : Below wd.heap.size wd w3 := by rw [hw3]; exact below_alloc (Below.refl _ _) _
    have hngB : w3.heap[gB]? = some (.cells (nums .u8 (List.replicate n 0)).toArray 5 (0, 0)) := by rw [hw3, hgB]; exact blk_new wd _
    have Hw3 := Aside0.mk (And.intro (below_step Hwd.out.1 hbw3) (And.intro (show w.heap.size ≤ gB by rw [hgB]; exact Hwd.out.1.size) hbw3))
    have NgB := Aside0.mk hngB
    rw [← hgB, ← hw3]
    clear hbw3 hngB hgB hw3
    refine hK.out _ _ trivial (fun hHeld => ?_)
    clear hK K
    refine norm_ (a' := ?_) ?_ ?_
    rotate_left
    · show Act.put _ (some 20) _ = _
      simp only [Act.put, List.setIfInBounds_toArray, List.set_cons_zero, List.set_cons_succ, i64_w, i32_w]
      rfl
    refine two_ (i := 6) (j := 8) (Ni := (some 23)) (Nj := (some 8)) (bm 10 127) (bm 10 319) rfl rfl rfl rfl (by kernel_rfl) (by decide) (by decide) (fun K hK => ?_) (fun K hK => ?_)
    · refine value_ (v := .slice (some ⟨w3.heap.size, 0, none⟩) m m) (w1 := w3.alloc (.cells (nums .u8 (List.replicate (m * 32) 0)).toArray 23)) (by rfl) rfl ?hr ?_
      case hr => exact exec_mk (.tmp 22) rfl (u := .int .i64 (wrap64 (m : Int))) rfl (by rw [HWM.out]; exact mk_ids w3 hm)
      obtain ⟨gY, hgY⟩ : ∃ g, g = w3.heap.size := ⟨_, rfl⟩
      obtain ⟨w4, hw4⟩ : ∃ z, z = w3.alloc (.cells (nums .u8 (List.replicate (m * 32) 0)).toArray 23) := ⟨_, rfl⟩
      have hbw4 : Below w3.heap.size w3 w4 := by rw [hw4]; exact below_alloc (Below.refl _ _) _
      have hngY : w4.heap[gY]? = some (.cells (nums .u8 (List.replicate (m * 32) 0)).toArray 23 (0, 0)) := by rw [hw4, hgY]; exact blk_new w3 _
      have Hw4 := Aside0.mk (And.intro (below_step Hw3.out.1 hbw4) (And.intro (show w.heap.size ≤ gY by rw [hgY]; exact Hw3.out.1.size) hbw4))
      have NgY := Aside0.mk hngY
      have NgB' := Aside0.mk ((Hw4.out.2.2.block _ (blk_lt NgB.out)).trans NgB.out)
      clear NgB
      have NgB := NgB'
      clear NgB'
      rw [← hgY, ← hw4]
      clear hbw4 hngY hgY hw4
      refine hK.out _ _ trivial (fun hHeld => ?_)
      clear hK K
      refine norm_ (a' := ?_) ?_ ?_
      rotate_left
      · show Act.put _ (some 23) _ = _
        simp only [Act.put, List.setIfInBounds_toArray, List.set_cons_zero, List.set_cons_succ, i64_w, i32_w]
        rfl
      refine take_ (i := 7) (N := some 24) (v := .agg (nW k n m gB gY)) (a' := ?_) (bm 10 255) rfl rfl (by kernel_rfl) (fun _ _ _ h => h) (Or.inl ⟨by rfl, fun w' s0 => ?ld⟩) hHeld ?_ ?_
      case ld => exact exec_bW (.tmp 17) (.tmp 20) (.tmp 23) rfl rfl rfl rfl
      rotate_left
      · simp only [Act.put, List.setIfInBounds_toArray, List.set_cons_zero, List.set_cons_succ, i64_w, i32_w]
        rfl
      refine one_ (i := 8) (N := (some 8)) (bm 10 511) rfl rfl (by kernel_rfl) (by decide) (fun K hK => ?_)
      refine value_ (v := .pointer (some ⟨w4.heap.size, 0, none⟩)) (w1 := w4.alloc (.cells nz28.toArray 28)) (by rfl) rfl ?hr ?_
      case hr => first | kernel_rfl | (go_simp; done) | (go_simp; rfl)
      obtain ⟨g8, hg8⟩ : ∃ g, g = w4.heap.size := ⟨_, rfl⟩
      obtain ⟨w5, hw5⟩ : ∃ z, z = w4.alloc (.cells nz28.toArray 28) := ⟨_, rfl⟩
      have hbw5 : Below w4.heap.size w4 w5 := by rw [hw5]; exact below_alloc (Below.refl _ _) _
      have hng8 : w5.heap[g8]? = some (.cells nz28.toArray 28 (0, 0)) := by rw [hw5, hg8]; exact blk_new w4 _
      have Hw5 := Aside0.mk (And.intro (below_step Hw4.out.1 hbw5) (And.intro (show w.heap.size ≤ g8 by rw [hg8]; exact Hw4.out.1.size) hbw5))
      have Ng8 := Aside0.mk hng8
      have NgB' := Aside0.mk ((Hw5.out.2.2.block _ (blk_lt NgB.out)).trans NgB.out)
      clear NgB
      have NgB := NgB'
      clear NgB'
      have NgY' := Aside0.mk ((Hw5.out.2.2.block _ (blk_lt NgY.out)).trans NgY.out)
      clear NgY
      have NgY := NgY'
      clear NgY'
      have HG8 := Aside0.mk Hw5.out.2.1
      rw [← hg8, ← hw5]
      clear hbw5 hng8 hg8 hw5
      refine hK.out _ _ trivial (fun hHeld => ?_)
      clear hK K
      refine norm_ (a' := ?_) ?_ ?_
      rotate_left
      · show Act.put _ (some 8) _ = _
        simp only [Act.put, List.setIfInBounds_toArray, List.set_cons_zero, List.set_cons_succ, i64_w, i32_w]
        rfl
      exact norm_ (a' := Go.Proofs.YtlcanfniphdelaaDoorW.PrintLast.putAll _ [(20, .slice (some ⟨gB, 0, none⟩) n n), (23, .slice (some ⟨gY, 0, none⟩) m m), (24, .agg (nW k n m gB gY)), (8, .pointer (some ⟨g8, 0, none⟩))]) rfl (hJ (gB, gY, g8) w5 ⟨NgB.out, NgY.out, Ng8.out, Hw5.out.1, HG8.out⟩)
    · refine value_ (v := .pointer (some ⟨w3.heap.size, 0, none⟩)) (w1 := w3.alloc (.cells nz28.toArray 28)) (by rfl) rfl ?hr ?_
      case hr => first | kernel_rfl | (go_simp; done) | (go_simp; rfl)
      obtain ⟨g8, hg8⟩ : ∃ g, g = w3.heap.size := ⟨_, rfl⟩
      obtain ⟨w4, hw4⟩ : ∃ z, z = w3.alloc (.cells nz28.toArray 28) := ⟨_, rfl⟩
      have hbw4 : Below w3.heap.size w3 w4 := by rw [hw4]; exact below_alloc (Below.refl _ _) _
      have hng8 : w4.heap[g8]? = some (.cells nz28.toArray 28 (0, 0)) := by rw [hw4, hg8]; exact blk_new w3 _
      have Hw4 := Aside0.mk (And.intro (below_step Hw3.out.1 hbw4) (And.intro (show w.heap.size ≤ g8 by rw [hg8]; exact Hw3.out.1.size) hbw4))
      have Ng8 := Aside0.mk hng8
      have NgB' := Aside0.mk ((Hw4.out.2.2.block _ (blk_lt NgB.out)).trans NgB.out)
      clear NgB
      have NgB := NgB'
      clear NgB'
      have HG8 := Aside0.mk Hw4.out.2.1
      rw [← hg8, ← hw4]
      clear hbw4 hng8 hg8 hw4
      refine hK.out _ _ trivial (fun hHeld => ?_)
      clear hK K
      refine norm_ (a' := ?_) ?_ ?_
      rotate_left
      · show Act.put _ (some 8) _ = _
        simp only [Act.put, List.setIfInBounds_toArray, List.set_cons_zero, List.set_cons_succ, i64_w, i32_w]
        rfl
      refine one_ (i := 6) (N := (some 23)) (bm 10 383) rfl rfl (by kernel_rfl) (by decide) (fun K hK => ?_)
      refine value_ (v := .slice (some ⟨w4.heap.size, 0, none⟩) m m) (w1 := w4.alloc (.cells (nums .u8 (List.replicate (m * 32) 0)).toArray 23)) (by rfl) rfl ?hr ?_
      case hr => exact exec_mk (.tmp 22) rfl (u := .int .i64 (wrap64 (m : Int))) rfl (by rw [HWM.out]; exact mk_ids w4 hm)
      obtain ⟨gY, hgY⟩ : ∃ g, g = w4.heap.size := ⟨_, rfl⟩
      obtain ⟨w5, hw5⟩ : ∃ z, z = w4.alloc (.cells (nums .u8 (List.replicate (m * 32) 0)).toArray 23) := ⟨_, rfl⟩
      have hbw5 : Below w4.heap.size w4 w5 := by rw [hw5]; exact below_alloc (Below.refl _ _) _
      have hngY : w5.heap[gY]? = some (.cells (nums .u8 (List.replicate (m * 32) 0)).toArray 23 (0, 0)) := by rw [hw5, hgY]; exact blk_new w4 _
      have Hw5 := Aside0.mk (And.intro (below_step Hw4.out.1 hbw5) (And.intro (show w.heap.size ≤ gY by rw [hgY]; exact Hw4.out.1.size) hbw5))
      have NgY := Aside0.mk hngY
      have NgB' := Aside0.mk ((Hw5.out.2.2.block _ (blk_lt NgB.out)).trans NgB.out)
      clear NgB
      have NgB := NgB'
      clear NgB'
      have Ng8' := Aside0.mk ((Hw5.out.2.2.block _ (blk_lt Ng8.out)).trans Ng8.out)
      clear Ng8
      have Ng8 := Ng8'
      clear Ng8'
      rw [← hgY, ← hw5]
      clear hbw5 hngY hgY hw5
      refine hK.out _ _ trivial (fun hHeld => ?_)
      clear hK K
      refine norm_ (a' := ?_) ?_ ?_
      rotate_left
      · show Act.put _ (some 23) _ = _
        simp only [Act.put, List.setIfInBounds_toArray, List.set_cons_zero, List.set_cons_succ, i64_w, i32_w]
        rfl
      refine take_ (i := 7) (N := some 24) (v := .agg (nW k n m gB gY)) (a' := ?_) (bm 10 511) rfl rfl (by kernel_rfl) (fun _ _ _ h => h) (Or.inl ⟨by rfl, fun w' s0 => ?ld⟩) hHeld ?_ ?_
      case ld => exact exec_bW (.tmp 17) (.tmp 20) (.tmp 23) rfl rfl rfl rfl
      rotate_left
      · simp only [Act.put, List.setIfInBounds_toArray, List.set_cons_zero, List.set_cons_succ, i64_w, i32_w]
        rfl
      exact norm_ (a' := Go.Proofs.YtlcanfniphdelaaDoorW.PrintLast.putAll _ [(20, .slice (some ⟨gB, 0, none⟩) n n), (23, .slice (some ⟨gY, 0, none⟩) m m), (24, .agg (nW k n m gB gY)), (8, .pointer (some ⟨g8, 0, none⟩))]) rfl (hJ (gB, gY, g8) w5 ⟨NgB.out, NgY.out, Ng8.out, Hw5.out.1, HG8.out⟩)
  · refine value_ (v := .slice (some ⟨wd.heap.size, 0, none⟩) m m) (w1 := wd.alloc (.cells (nums .u8 (List.replicate (m * 32) 0)).toArray 23)) (by rfl) rfl ?hr ?_
    case hr => exact exec_mk (.tmp 22) rfl (u := .int .i64 (wrap64 (m : Int))) rfl (by rw [HWM.out]; exact mk_ids wd hm)
    obtain ⟨gY, hgY⟩ : ∃ g, g = wd.heap.size := ⟨_, rfl⟩
    obtain ⟨w3, hw3⟩ : ∃ z, z = wd.alloc (.cells (nums .u8 (List.replicate (m * 32) 0)).toArray 23) := ⟨_, rfl⟩
    have hbw3 : Below wd.heap.size wd w3 := by rw [hw3]; exact below_alloc (Below.refl _ _) _
    have hngY : w3.heap[gY]? = some (.cells (nums .u8 (List.replicate (m * 32) 0)).toArray 23 (0, 0)) := by rw [hw3, hgY]; exact blk_new wd _
    have Hw3 := Aside0.mk (And.intro (below_step Hwd.out.1 hbw3) (And.intro (show w.heap.size ≤ gY by rw [hgY]; exact Hwd.out.1.size) hbw3))
    have NgY := Aside0.mk hngY
    rw [← hgY, ← hw3]
    clear hbw3 hngY hgY hw3
    refine hK.out _ _ trivial (fun hHeld => ?_)
    clear hK K
    refine norm_ (a' := ?_) ?_ ?_
    rotate_left
    · show Act.put _ (some 23) _ = _
      simp only [Act.put, List.setIfInBounds_toArray, List.set_cons_zero, List.set_cons_succ, i64_w, i32_w]
      rfl
    refine two_ (i := 3) (j := 8) (Ni := (some 20)) (Nj := (some 8)) (bm 10 127) (bm 10 375) rfl rfl rfl rfl (by kernel_rfl) (by decide) (by decide) (fun K hK => ?_) (fun K hK => ?_)
    · refine value_ (v := .slice (some ⟨w3.heap.size, 0, none⟩) n n) (w1 := w3.alloc (.cells (nums .u8 (List.replicate n 0)).toArray 5)) (by rfl) rfl ?hr ?_
      case hr => exact exec_mk (.tmp 19) rfl (u := .int .i64 (wrap64 (n : Int))) rfl (by rw [HWN.out]; exact mk_bytes w3 hn)
      obtain ⟨gB, hgB⟩ : ∃ g, g = w3.heap.size := ⟨_, rfl⟩
      obtain ⟨w4, hw4⟩ : ∃ z, z = w3.alloc (.cells (nums .u8 (List.replicate n 0)).toArray 5) := ⟨_, rfl⟩
      have hbw4 : Below w3.heap.size w3 w4 := by rw [hw4]; exact below_alloc (Below.refl _ _) _
      have hngB : w4.heap[gB]? = some (.cells (nums .u8 (List.replicate n 0)).toArray 5 (0, 0)) := by rw [hw4, hgB]; exact blk_new w3 _
      have Hw4 := Aside0.mk (And.intro (below_step Hw3.out.1 hbw4) (And.intro (show w.heap.size ≤ gB by rw [hgB]; exact Hw3.out.1.size) hbw4))
      have NgB := Aside0.mk hngB
      have NgY' := Aside0.mk ((Hw4.out.2.2.block _ (blk_lt NgY.out)).trans NgY.out)
      clear NgY
      have NgY := NgY'
      clear NgY'
      rw [← hgB, ← hw4]
      clear hbw4 hngB hgB hw4
      refine hK.out _ _ trivial (fun hHeld => ?_)
      clear hK K
      refine norm_ (a' := ?_) ?_ ?_
      rotate_left
      · show Act.put _ (some 20) _ = _
        simp only [Act.put, List.setIfInBounds_toArray, List.set_cons_zero, List.set_cons_succ, i64_w, i32_w]
        rfl
      refine take_ (i := 7) (N := some 24) (v := .agg (nW k n m gB gY)) (a' := ?_) (bm 10 255) rfl rfl (by kernel_rfl) (fun _ _ _ h => h) (Or.inl ⟨by rfl, fun w' s0 => ?ld⟩) hHeld ?_ ?_
      case ld => exact exec_bW (.tmp 17) (.tmp 20) (.tmp 23) rfl rfl rfl rfl
      rotate_left
      · simp only [Act.put, List.setIfInBounds_toArray, List.set_cons_zero, List.set_cons_succ, i64_w, i32_w]
        rfl
      refine one_ (i := 8) (N := (some 8)) (bm 10 511) rfl rfl (by kernel_rfl) (by decide) (fun K hK => ?_)
      refine value_ (v := .pointer (some ⟨w4.heap.size, 0, none⟩)) (w1 := w4.alloc (.cells nz28.toArray 28)) (by rfl) rfl ?hr ?_
      case hr => first | kernel_rfl | (go_simp; done) | (go_simp; rfl)
      obtain ⟨g8, hg8⟩ : ∃ g, g = w4.heap.size := ⟨_, rfl⟩
      obtain ⟨w5, hw5⟩ : ∃ z, z = w4.alloc (.cells nz28.toArray 28) := ⟨_, rfl⟩
      have hbw5 : Below w4.heap.size w4 w5 := by rw [hw5]; exact below_alloc (Below.refl _ _) _
      have hng8 : w5.heap[g8]? = some (.cells nz28.toArray 28 (0, 0)) := by rw [hw5, hg8]; exact blk_new w4 _
      have Hw5 := Aside0.mk (And.intro (below_step Hw4.out.1 hbw5) (And.intro (show w.heap.size ≤ g8 by rw [hg8]; exact Hw4.out.1.size) hbw5))
      have Ng8 := Aside0.mk hng8
      have NgY' := Aside0.mk ((Hw5.out.2.2.block _ (blk_lt NgY.out)).trans NgY.out)
      clear NgY
      have NgY := NgY'
      clear NgY'
      have NgB' := Aside0.mk ((Hw5.out.2.2.block _ (blk_lt NgB.out)).trans NgB.out)
      clear NgB
      have NgB := NgB'
      clear NgB'
      have HG8 := Aside0.mk Hw5.out.2.1
      rw [← hg8, ← hw5]
      clear hbw5 hng8 hg8 hw5
      refine hK.out _ _ trivial (fun hHeld => ?_)
      clear hK K
      refine norm_ (a' := ?_) ?_ ?_
      rotate_left
      · show Act.put _ (some 8) _ = _
        simp only [Act.put, List.setIfInBounds_toArray, List.set_cons_zero, List.set_cons_succ, i64_w, i32_w]
        rfl
      exact norm_ (a' := Go.Proofs.YtlcanfniphdelaaDoorW.PrintLast.putAll _ [(20, .slice (some ⟨gB, 0, none⟩) n n), (23, .slice (some ⟨gY, 0, none⟩) m m), (24, .agg (nW k n m gB gY)), (8, .pointer (some ⟨g8, 0, none⟩))]) rfl (hJ (gB, gY, g8) w5 ⟨NgB.out, NgY.out, Ng8.out, Hw5.out.1, HG8.out⟩)
    · refine value_ (v := .pointer (some ⟨w3.heap.size, 0, none⟩)) (w1 := w3.alloc (.cells nz28.toArray 28)) (by rfl) rfl ?hr ?_
      case hr => first | kernel_rfl | (go_simp; done) | (go_simp; rfl)
      obtain ⟨g8, hg8⟩ : ∃ g, g = w3.heap.size := ⟨_, rfl⟩
      obtain ⟨w4, hw4⟩ : ∃ z, z = w3.alloc (.cells nz28.toArray 28) := ⟨_, rfl⟩
      have hbw4 : Below w3.heap.size w3 w4 := by rw [hw4]; exact below_alloc (Below.refl _ _) _
      have hng8 : w4.heap[g8]? = some (.cells nz28.toArray 28 (0, 0)) := by rw [hw4, hg8]; exact blk_new w3 _
      have Hw4 := Aside0.mk (And.intro (below_step Hw3.out.1 hbw4) (And.intro (show w.heap.size ≤ g8 by rw [hg8]; exact Hw3.out.1.size) hbw4))
      have Ng8 := Aside0.mk hng8
      have NgY' := Aside0.mk ((Hw4.out.2.2.block _ (blk_lt NgY.out)).trans NgY.out)
      clear NgY
      have NgY := NgY'
      clear NgY'
      have HG8 := Aside0.mk Hw4.out.2.1
      rw [← hg8, ← hw4]
      clear hbw4 hng8 hg8 hw4
      refine hK.out _ _ trivial (fun hHeld => ?_)
      clear hK K
      refine norm_ (a' := ?_) ?_ ?_
      rotate_left
      · show Act.put _ (some 8) _ = _
        simp only [Act.put, List.setIfInBounds_toArray, List.set_cons_zero, List.set_cons_succ, i64_w, i32_w]
        rfl
      refine one_ (i := 3) (N := (some 20)) (bm 10 383) rfl rfl (by kernel_rfl) (by decide) (fun K hK => ?_)
      refine value_ (v := .slice (some ⟨w4.heap.size, 0, none⟩) n n) (w1 := w4.alloc (.cells (nums .u8 (List.replicate n 0)).toArray 5)) (by rfl) rfl ?hr ?_
      case hr => exact exec_mk (.tmp 19) rfl (u := .int .i64 (wrap64 (n : Int))) rfl (by rw [HWN.out]; exact mk_bytes w4 hn)
      obtain ⟨gB, hgB⟩ : ∃ g, g = w4.heap.size := ⟨_, rfl⟩
      obtain ⟨w5, hw5⟩ : ∃ z, z = w4.alloc (.cells (nums .u8 (List.replicate n 0)).toArray 5) := ⟨_, rfl⟩
      have hbw5 : Below w4.heap.size w4 w5 := by rw [hw5]; exact below_alloc (Below.refl _ _) _
      have hngB : w5.heap[gB]? = some (.cells (nums .u8 (List.replicate n 0)).toArray 5 (0, 0)) := by rw [hw5, hgB]; exact blk_new w4 _
      have Hw5 := Aside0.mk (And.intro (below_step Hw4.out.1 hbw5) (And.intro (show w.heap.size ≤ gB by rw [hgB]; exact Hw4.out.1.size) hbw5))
      have NgB := Aside0.mk hngB
      have NgY' := Aside0.mk ((Hw5.out.2.2.block _ (blk_lt NgY.out)).trans NgY.out)
      clear NgY
      have NgY := NgY'
      clear NgY'
      have Ng8' := Aside0.mk ((Hw5.out.2.2.block _ (blk_lt Ng8.out)).trans Ng8.out)
      clear Ng8
      have Ng8 := Ng8'
      clear Ng8'
      rw [← hgB, ← hw5]
      clear hbw5 hngB hgB hw5
      refine hK.out _ _ trivial (fun hHeld => ?_)
      clear hK K
      refine norm_ (a' := ?_) ?_ ?_
      rotate_left
      · show Act.put _ (some 20) _ = _
        simp only [Act.put, List.setIfInBounds_toArray, List.set_cons_zero, List.set_cons_succ, i64_w, i32_w]
        rfl
      refine take_ (i := 7) (N := some 24) (v := .agg (nW k n m gB gY)) (a' := ?_) (bm 10 511) rfl rfl (by kernel_rfl) (fun _ _ _ h => h) (Or.inl ⟨by rfl, fun w' s0 => ?ld⟩) hHeld ?_ ?_
      case ld => exact exec_bW (.tmp 17) (.tmp 20) (.tmp 23) rfl rfl rfl rfl
      rotate_left
      · simp only [Act.put, List.setIfInBounds_toArray, List.set_cons_zero, List.set_cons_succ, i64_w, i32_w]
        rfl
      exact norm_ (a' := Go.Proofs.YtlcanfniphdelaaDoorW.PrintLast.putAll _ [(20, .slice (some ⟨gB, 0, none⟩) n n), (23, .slice (some ⟨gY, 0, none⟩) m m), (24, .agg (nW k n m gB gY)), (8, .pointer (some ⟨g8, 0, none⟩))]) rfl (hJ (gB, gY, g8) w5 ⟨NgB.out, NgY.out, Ng8.out, Hw5.out.1, HG8.out⟩)
  · refine value_ (v := .pointer (some ⟨wd.heap.size, 0, none⟩)) (w1 := wd.alloc (.cells nz28.toArray 28)) (by rfl) rfl ?hr ?_
    case hr => first | kernel_rfl | (go_simp; done) | (go_simp; rfl)
    obtain ⟨g8, hg8⟩ : ∃ g, g = wd.heap.size := ⟨_, rfl⟩
    obtain ⟨w3, hw3⟩ : ∃ z, z = wd.alloc (.cells nz28.toArray 28) := ⟨_, rfl⟩
    have hbw3 : Below wd.heap.size wd w3 := by rw [hw3]; exact below_alloc (Below.refl _ _) _
    have hng8 : w3.heap[g8]? = some (.cells nz28.toArray 28 (0, 0)) := by rw [hw3, hg8]; exact blk_new wd _
    have Hw3 := Aside0.mk (And.intro (below_step Hwd.out.1 hbw3) (And.intro (show w.heap.size ≤ g8 by rw [hg8]; exact Hwd.out.1.size) hbw3))
    have Ng8 := Aside0.mk hng8
    have HG8 := Aside0.mk Hw3.out.2.1
    rw [← hg8, ← hw3]
    clear hbw3 hng8 hg8 hw3
    refine hK.out _ _ trivial (fun hHeld => ?_)
    clear hK K
    refine norm_ (a' := ?_) ?_ ?_
    rotate_left
    · show Act.put _ (some 8) _ = _
      simp only [Act.put, List.setIfInBounds_toArray, List.set_cons_zero, List.set_cons_succ, i64_w, i32_w]
      rfl
    refine two_ (i := 3) (j := 6) (Ni := (some 20)) (Nj := (some 23)) (bm 10 319) (bm 10 375) rfl rfl rfl rfl (by kernel_rfl) (by decide) (by decide) (fun K hK => ?_) (fun K hK => ?_)
    · refine value_ (v := .slice (some ⟨w3.heap.size, 0, none⟩) n n) (w1 := w3.alloc (.cells (nums .u8 (List.replicate n 0)).toArray 5)) (by rfl) rfl ?hr ?_
      case hr => exact exec_mk (.tmp 19) rfl (u := .int .i64 (wrap64 (n : Int))) rfl (by rw [HWN.out]; exact mk_bytes w3 hn)
      obtain ⟨gB, hgB⟩ : ∃ g, g = w3.heap.size := ⟨_, rfl⟩
      obtain ⟨w4, hw4⟩ : ∃ z, z = w3.alloc (.cells (nums .u8 (List.replicate n 0)).toArray 5) := ⟨_, rfl⟩
      have hbw4 : Below w3.heap.size w3 w4 := by rw [hw4]; exact below_alloc (Below.refl _ _) _
      have hngB : w4.heap[gB]? = some (.cells (nums .u8 (List.replicate n 0)).toArray 5 (0, 0)) := by rw [hw4, hgB]; exact blk_new w3 _
      have Hw4 := Aside0.mk (And.intro (below_step Hw3.out.1 hbw4) (And.intro (show w.heap.size ≤ gB by rw [hgB]; exact Hw3.out.1.size) hbw4))
      have NgB := Aside0.mk hngB
      have Ng8' := Aside0.mk ((Hw4.out.2.2.block _ (blk_lt Ng8.out)).trans Ng8.out)
      clear Ng8
      have Ng8 := Ng8'
      clear Ng8'
      rw [← hgB, ← hw4]
      clear hbw4 hngB hgB hw4
      refine hK.out _ _ trivial (fun hHeld => ?_)
      clear hK K
      refine norm_ (a' := ?_) ?_ ?_
      rotate_left
      · show Act.put _ (some 20) _ = _
        simp only [Act.put, List.setIfInBounds_toArray, List.set_cons_zero, List.set_cons_succ, i64_w, i32_w]
        rfl
      refine one_ (i := 6) (N := (some 23)) (bm 10 383) rfl rfl (by kernel_rfl) (by decide) (fun K hK => ?_)
      refine value_ (v := .slice (some ⟨w4.heap.size, 0, none⟩) m m) (w1 := w4.alloc (.cells (nums .u8 (List.replicate (m * 32) 0)).toArray 23)) (by rfl) rfl ?hr ?_
      case hr => exact exec_mk (.tmp 22) rfl (u := .int .i64 (wrap64 (m : Int))) rfl (by rw [HWM.out]; exact mk_ids w4 hm)
      obtain ⟨gY, hgY⟩ : ∃ g, g = w4.heap.size := ⟨_, rfl⟩
      obtain ⟨w5, hw5⟩ : ∃ z, z = w4.alloc (.cells (nums .u8 (List.replicate (m * 32) 0)).toArray 23) := ⟨_, rfl⟩
      have hbw5 : Below w4.heap.size w4 w5 := by rw [hw5]; exact below_alloc (Below.refl _ _) _
      have hngY : w5.heap[gY]? = some (.cells (nums .u8 (List.replicate (m * 32) 0)).toArray 23 (0, 0)) := by rw [hw5, hgY]; exact blk_new w4 _
      have Hw5 := Aside0.mk (And.intro (below_step Hw4.out.1 hbw5) (And.intro (show w.heap.size ≤ gY by rw [hgY]; exact Hw4.out.1.size) hbw5))
      have NgY := Aside0.mk hngY
      have Ng8' := Aside0.mk ((Hw5.out.2.2.block _ (blk_lt Ng8.out)).trans Ng8.out)
      clear Ng8
      have Ng8 := Ng8'
      clear Ng8'
      have NgB' := Aside0.mk ((Hw5.out.2.2.block _ (blk_lt NgB.out)).trans NgB.out)
      clear NgB
      have NgB := NgB'
      clear NgB'
      rw [← hgY, ← hw5]
      clear hbw5 hngY hgY hw5
      refine hK.out _ _ trivial (fun hHeld => ?_)
      clear hK K
      refine norm_ (a' := ?_) ?_ ?_
      rotate_left
      · show Act.put _ (some 23) _ = _
        simp only [Act.put, List.setIfInBounds_toArray, List.set_cons_zero, List.set_cons_succ, i64_w, i32_w]
        rfl
      refine take_ (i := 7) (N := some 24) (v := .agg (nW k n m gB gY)) (a' := ?_) (bm 10 511) rfl rfl (by kernel_rfl) (fun _ _ _ h => h) (Or.inl ⟨by rfl, fun w' s0 => ?ld⟩) hHeld ?_ ?_
      case ld => exact exec_bW (.tmp 17) (.tmp 20) (.tmp 23) rfl rfl rfl rfl
      rotate_left
      · simp only [Act.put, List.setIfInBounds_toArray, List.set_cons_zero, List.set_cons_succ, i64_w, i32_w]
        rfl
      exact norm_ (a' := Go.Proofs.YtlcanfniphdelaaDoorW.PrintLast.putAll _ [(20, .slice (some ⟨gB, 0, none⟩) n n), (23, .slice (some ⟨gY, 0, none⟩) m m), (24, .agg (nW k n m gB gY)), (8, .pointer (some ⟨g8, 0, none⟩))]) rfl (hJ (gB, gY, g8) w5 ⟨NgB.out, NgY.out, Ng8.out, Hw5.out.1, HG8.out⟩)
    · refine value_ (v := .slice (some ⟨w3.heap.size, 0, none⟩) m m) (w1 := w3.alloc (.cells (nums .u8 (List.replicate (m * 32) 0)).toArray 23)) (by rfl) rfl ?hr ?_
      case hr => exact exec_mk (.tmp 22) rfl (u := .int .i64 (wrap64 (m : Int))) rfl (by rw [HWM.out]; exact mk_ids w3 hm)
      obtain ⟨gY, hgY⟩ : ∃ g, g = w3.heap.size := ⟨_, rfl⟩
      obtain ⟨w4, hw4⟩ : ∃ z, z = w3.alloc (.cells (nums .u8 (List.replicate (m * 32) 0)).toArray 23) := ⟨_, rfl⟩
      have hbw4 : Below w3.heap.size w3 w4 := by rw [hw4]; exact below_alloc (Below.refl _ _) _
      have hngY : w4.heap[gY]? = some (.cells (nums .u8 (List.replicate (m * 32) 0)).toArray 23 (0, 0)) := by rw [hw4, hgY]; exact blk_new w3 _
      have Hw4 := Aside0.mk (And.intro (below_step Hw3.out.1 hbw4) (And.intro (show w.heap.size ≤ gY by rw [hgY]; exact Hw3.out.1.size) hbw4))
      have NgY := Aside0.mk hngY
      have Ng8' := Aside0.mk ((Hw4.out.2.2.block _ (blk_lt Ng8.out)).trans Ng8.out)
      clear Ng8
      have Ng8 := Ng8'
      clear Ng8'
      rw [← hgY, ← hw4]
      clear hbw4 hngY hgY hw4
      refine hK.out _ _ trivial (fun hHeld => ?_)
      clear hK K
      refine norm_ (a' := ?_) ?_ ?_
      rotate_left
      · show Act.put _ (some 23) _ = _
        simp only [Act.put, List.setIfInBounds_toArray, List.set_cons_zero, List.set_cons_succ, i64_w, i32_w]
        rfl
      refine one_ (i := 3) (N := (some 20)) (bm 10 383) rfl rfl (by kernel_rfl) (by decide) (fun K hK => ?_)
      refine value_ (v := .slice (some ⟨w4.heap.size, 0, none⟩) n n) (w1 := w4.alloc (.cells (nums .u8 (List.replicate n 0)).toArray 5)) (by rfl) rfl ?hr ?_
      case hr => exact exec_mk (.tmp 19) rfl (u := .int .i64 (wrap64 (n : Int))) rfl (by rw [HWN.out]; exact mk_bytes w4 hn)
      obtain ⟨gB, hgB⟩ : ∃ g, g = w4.heap.size := ⟨_, rfl⟩
      obtain ⟨w5, hw5⟩ : ∃ z, z = w4.alloc (.cells (nums .u8 (List.replicate n 0)).toArray 5) := ⟨_, rfl⟩
      have hbw5 : Below w4.heap.size w4 w5 := by rw [hw5]; exact below_alloc (Below.refl _ _) _
      have hngB : w5.heap[gB]? = some (.cells (nums .u8 (List.replicate n 0)).toArray 5 (0, 0)) := by rw [hw5, hgB]; exact blk_new w4 _
      have Hw5 := Aside0.mk (And.intro (below_step Hw4.out.1 hbw5) (And.intro (show w.heap.size ≤ gB by rw [hgB]; exact Hw4.out.1.size) hbw5))
      have NgB := Aside0.mk hngB
      have Ng8' := Aside0.mk ((Hw5.out.2.2.block _ (blk_lt Ng8.out)).trans Ng8.out)
      clear Ng8
      have Ng8 := Ng8'
      clear Ng8'
      have NgY' := Aside0.mk ((Hw5.out.2.2.block _ (blk_lt NgY.out)).trans NgY.out)
      clear NgY
      have NgY := NgY'
      clear NgY'
      rw [← hgB, ← hw5]
      clear hbw5 hngB hgB hw5
      refine hK.out _ _ trivial (fun hHeld => ?_)
      clear hK K
      refine norm_ (a' := ?_) ?_ ?_
      rotate_left
      · show Act.put _ (some 20) _ = _
        simp only [Act.put, List.setIfInBounds_toArray, List.set_cons_zero, List.set_cons_succ, i64_w, i32_w]
        rfl
      refine take_ (i := 7) (N := some 24) (v := .agg (nW k n m gB gY)) (a' := ?_) (bm 10 511) rfl rfl (by kernel_rfl) (fun _ _ _ h => h) (Or.inl ⟨by rfl, fun w' s0 => ?ld⟩) hHeld ?_ ?_
      case ld => exact exec_bW (.tmp 17) (.tmp 20) (.tmp 23) rfl rfl rfl rfl
      rotate_left
      · simp only [Act.put, List.setIfInBounds_toArray, List.set_cons_zero, List.set_cons_succ, i64_w, i32_w]
        rfl
      exact norm_ (a' := Go.Proofs.YtlcanfniphdelaaDoorW.PrintLast.putAll _ [(20, .slice (some ⟨gB, 0, none⟩) n n), (23, .slice (some ⟨gY, 0, none⟩) m m), (24, .agg (nW k n m gB gY)), (8, .pointer (some ⟨g8, 0, none⟩))]) rfl (hJ (gB, gY, g8) w5 ⟨NgB.out, NgY.out, Ng8.out, Hw5.out.1, HG8.out⟩)
  rintro ⟨gB, gY, g8⟩ w' ⟨hB, hY, h8, hbw, hlo⟩
  dsimp only at hB hY h8 hbw hlo
  have hfit : NFit (nW k n m gB gY) := by unfold nW; exact nfit k 0 0 rfl _ _ n n m m
  have hrun := fun (o : Oper) (ev : Operand → Value) (ho : o.op = .store 28 (.tmp 8) (.tmp 24)) (hx : ev (.tmp 8) = .pointer (some ⟨g8, 0, none⟩)) (hy : ev (.tmp 24) = .agg (nW k n m gB gY)) => exec_store_row (P := Tryd.prog) (o := o) (ev := ev) w' 28 (.tmp 8) (.tmp 24) ho g8 _ hx hy 28 _ h8 hfit.1 hfit.2.1 hfit.2.2
  obtain ⟨w9, hw9⟩ : ∃ w9, w9 = w'.setRow g8 (nW k n m gB gY) := ⟨_, rfl⟩
  rw [← hw9] at hrun
  have hk9 : Kept w' w9 (fun x => x = g8) := by rw [hw9]; exact ⟨by simp, fun i _ hn => setRow_other _ _ _ _ hn⟩
  have h9 : w9.heap[g8]? = some (.cells (nW k n m gB gY) 28 (0, 0)) := by rw [hw9]; exact setRow_heap _ _ _ _ _ _ h8
  have hI : InN w9 (gW k n m) (some ⟨gB, 0, none⟩) (some ⟨gY, 0, none⟩) := inW HF.out.1 hn hm (blk_kept hB hk9 (blk_ne hB h8 (by decide))) (blk_kept hY hk9 (blk_ne hY h8 (by decide)))
  have hb9 : Below w.heap.size w w9 := by rw [hw9]; exact below_setRow hbw hlo _
  have hF9 : FAt w9 := HF.out.2.below hb9
  obtain ⟨cs, hcs⟩ : ∃ cs, cs = nW k n m gB gY := ⟨_, rfl⟩
  rw [← hcs] at h9 hrun hfit
  obtain ⟨er, her⟩ : ∃ er, er = chkG (gW k n m) := ⟨_, rfl⟩
  obtain ⟨pl, hpl⟩ : ∃ pl, pl = (putB (gW k n m)).length := ⟨_, rfl⟩
  have HCk : Aside0 (∀ W, Below w9.heap.size w9 W → Calls Tryd.prog 11 #[.agg cs] W fun e w' => e = .returned (.int .i64 er) ∧ Below W.heap.size W w') := ⟨fun W hb => by
    rw [hcs, nW_eq, her]; have := hI.hbl; have := hI.hyl; exact check_calls _ _ _ hI.hk _ hI.hp _ _ _ _ _ _ (hF9.below hb) (by omega) (by omega)⟩
  have HP : Aside0 (∀ W, Below w9.heap.size w9 W → Calls Tryd.prog 8 #[.agg cs] W fun e w' => ∃ A' c, e = .returned (.tuple #[.slice A' pl c, .int .i64 er]) ∧ Below W.heap.size W w') := ⟨fun W hb => by
    rw [hcs, nW_eq, her, hpl]
    refine (put_any (gW k n m) _ _ n m (hI.below hb) (hF9.below hb)).mono ?_
    rintro e w' ⟨A', c, rfl, _, _, hb⟩
    exact ⟨A', c, rfl, hb⟩⟩
  have HER : Aside0 ((badW k n m → er = 1 ∧ pl = 0) ∧ (¬ badW k n m → er = 0)) := ⟨by
    obtain ⟨c1, c2⟩ := chk_W (k := k) hn hm
    refine ⟨fun h => ⟨by rw [her]; exact c1 h, ?_⟩, fun h => by rw [her]; exact c2 h⟩
    rw [hpl]
    unfold putB
    rw [if_neg (by rw [c1 h]; decide)]
    rfl⟩
  have H9 := Aside0.mk (And.intro h9 (And.intro hb9 hfit))
  rw [← hcs]
  have HR := Aside0.mk hrun
  clear hB hY h8 hbw hlo hw9 hk9 h9 hI hb9 hF9 hcs her hpl hfit hrun
  refine norm_ (a' := ?_) ?_ ?_
  rotate_left
  · simp only [Go.Proofs.YtlcanfniphdelaaDoorW.PrintLast.putAll, Act.put, List.setIfInBounds_toArray, List.set_cons_zero, List.set_cons_succ, i64_w, i32_w]
    rfl
  refine one_ (i := 9) (N := none) (bm 10 1023) rfl rfl (by kernel_rfl) (by decide) (fun K hK => ?_)
  refine skip_ (w1 := w9) (by rfl) rfl (HR.out _ _ rfl rfl rfl) ?_
  refine hK.out _ _ (trivial) (fun hHeld => ?_)
  clear hK K
  refine done_ (by kernel_rfl) ?_
  clear hHeld HR
  go_upto_region 6 with (first
    | ((with_reducible refine gate_dst (N := 25) rfl ?_); refine Kd.event_run rfl (v := .agg cs) (w1 := w9) ?hr ?_; (case hr => exact exec_load_row w9 28 (.tmp 8) rfl g8 rfl 28 _ (0, 0) _ H9.out.1 Tryd.underlying28 rfl H9.out.2.2.1))
    | (go_at_call 11; go_loud (refine (HCk.out w9 (Below.refl _ _)).mono ?_; rintro e w10 ⟨rfl, hb10⟩; have H10 := Aside0.mk hb10; clear hb10)))
  have HL : Aside0 (∀ (o : Oper) (ev : Operand → Value), o.op = .load 28 (.tmp 8) → ev (.tmp 8) = .pointer (some ⟨g8, 0, none⟩) → (execOp ev o).run Tryd.prog w10 = .ok (.value (.agg cs)) w10) := ⟨fun o ev ho hx => exec_load_row w10 28 (.tmp 8) ho g8 hx 28 _ (0, 0) _ ((H10.out.block _ (blk_lt H9.out.1)).trans H9.out.1) Tryd.underlying28 rfl H9.out.2.2.1⟩
  by_cases k7 : k = 7
  · subst k7
    by_cases hm0 : m = 0
    · by_cases hn0 : n = 0
      · have hcase := trivial
        have m0 : ((m : Int) == 0) = true := by rw [beq_iff_eq]; omega
        have n0 : ((n : Int) == 0) = true := by rw [beq_iff_eq]; omega
        have n64 : decide ((n : Int) ≤ 64) = true := decide_eq_true (by omega)
        have m64 : decide ((m : Int) ≤ 64) = true := decide_eq_true (by omega)
        have he0 := HER.out.2 (by unfold badW bodyW; first | (rw [if_pos rfl]; omega) | (rw [if_neg (by omega)]; rintro (h | h | h | ⟨h, h2⟩) <;> first | omega | (revert h2; decide)))
        subst he0
        go_wp2_with (first
          | ((with_reducible refine gate_dst (N := 67) rfl ?_); refine Kd.event_run rfl (v := .agg cs) (w1 := w10) ?hr ?_; (case hr => exact HL.out _ _ rfl rfl))
          | (go_at_call 8; go_loud (refine (HP.out w10 H10.out).mono ?_; rintro e w11 ⟨A11, c11, rfl, hb11⟩; have H11 := Aside0.mk (below_step H9.out.2.1 (below_step H10.out hb11)); clear hb11)))
        go_ret
        exact ⟨rfl, H11.out⟩
      · by_cases hn6 : n ≤ 64
        · have hcase := trivial
          have m0 : ((m : Int) == 0) = true := by rw [beq_iff_eq]; omega
          have n0 : ((n : Int) == 0) = false := beq_eq_false_iff_ne.2 (by omega)
          have n64 : decide ((n : Int) ≤ 64) = true := decide_eq_true (by omega)
          have m64 : decide ((m : Int) ≤ 64) = true := decide_eq_true (by omega)
          have he0 := HER.out.2 (by unfold badW bodyW; first | (rw [if_pos rfl]; omega) | (rw [if_neg (by omega)]; rintro (h | h | h | ⟨h, h2⟩) <;> first | omega | (revert h2; decide)))
          subst he0
          go_wp2_with (first
            | ((with_reducible refine gate_dst (N := 67) rfl ?_); refine Kd.event_run rfl (v := .agg cs) (w1 := w10) ?hr ?_; (case hr => exact HL.out _ _ rfl rfl))
            | (go_at_call 8; go_loud (refine (HP.out w10 H10.out).mono ?_; rintro e w11 ⟨A11, c11, rfl, hb11⟩; have H11 := Aside0.mk (below_step H9.out.2.1 (below_step H10.out hb11)); clear hb11)))
          go_ret
          exact ⟨rfl, H11.out⟩
        · have hcase := trivial
          have m0 : ((m : Int) == 0) = true := by rw [beq_iff_eq]; omega
          have n0 : ((n : Int) == 0) = false := beq_eq_false_iff_ne.2 (by omega)
          have n64 : decide ((n : Int) ≤ 64) = false := decide_eq_false (by omega)
          have m64 : decide ((m : Int) ≤ 64) = true := decide_eq_true (by omega)
          obtain ⟨he1, he2⟩ := HER.out.1 (by unfold badW bodyW; first | (rw [if_pos rfl]; omega) | (rw [if_neg (by omega)]; omega))
          subst he1
          subst he2
          go_wp2_with (first
            | ((with_reducible refine gate_dst (N := 67) rfl ?_); refine Kd.event_run rfl (v := .agg cs) (w1 := w10) ?hr ?_; (case hr => exact HL.out _ _ rfl rfl))
            | (go_at_call 8; go_loud (refine (HP.out w10 H10.out).mono ?_; rintro e w11 ⟨A11, c11, rfl, hb11⟩; have H11 := Aside0.mk (below_step H9.out.2.1 (below_step H10.out hb11)); clear hb11)))
          go_ret
          exact ⟨rfl, H11.out⟩
    · by_cases hn6 : n ≤ 64
      · by_cases hm6 : m ≤ 64
        · have hcase := trivial
          have m0 : ((m : Int) == 0) = false := beq_eq_false_iff_ne.2 (by omega)
          have n64 : decide ((n : Int) ≤ 64) = true := decide_eq_true (by omega)
          have m64 : decide ((m : Int) ≤ 64) = true := decide_eq_true (by omega)
          have he0 := HER.out.2 (by unfold badW bodyW; first | (rw [if_pos rfl]; omega) | (rw [if_neg (by omega)]; rintro (h | h | h | ⟨h, h2⟩) <;> first | omega | (revert h2; decide)))
          subst he0
          go_wp2_with (first
            | ((with_reducible refine gate_dst (N := 67) rfl ?_); refine Kd.event_run rfl (v := .agg cs) (w1 := w10) ?hr ?_; (case hr => exact HL.out _ _ rfl rfl))
            | (go_at_call 8; go_loud (refine (HP.out w10 H10.out).mono ?_; rintro e w11 ⟨A11, c11, rfl, hb11⟩; have H11 := Aside0.mk (below_step H9.out.2.1 (below_step H10.out hb11)); clear hb11)))
          go_ret
          exact ⟨rfl, H11.out⟩
        · have hcase := trivial
          have m0 : ((m : Int) == 0) = false := beq_eq_false_iff_ne.2 (by omega)
          have n64 : decide ((n : Int) ≤ 64) = true := decide_eq_true (by omega)
          have m64 : decide ((m : Int) ≤ 64) = false := decide_eq_false (by omega)
          obtain ⟨he1, he2⟩ := HER.out.1 (by unfold badW bodyW; first | (rw [if_pos rfl]; omega) | (rw [if_neg (by omega)]; omega))
          subst he1
          subst he2
          go_wp2_with (first
            | ((with_reducible refine gate_dst (N := 67) rfl ?_); refine Kd.event_run rfl (v := .agg cs) (w1 := w10) ?hr ?_; (case hr => exact HL.out _ _ rfl rfl))
            | (go_at_call 8; go_loud (refine (HP.out w10 H10.out).mono ?_; rintro e w11 ⟨A11, c11, rfl, hb11⟩; have H11 := Aside0.mk (below_step H9.out.2.1 (below_step H10.out hb11)); clear hb11)))
          go_ret
          exact ⟨rfl, H11.out⟩
      · have hcase := trivial
        have m0 : ((m : Int) == 0) = false := beq_eq_false_iff_ne.2 (by omega)
        have n64 : decide ((n : Int) ≤ 64) = false := decide_eq_false (by omega)
        obtain ⟨he1, he2⟩ := HER.out.1 (by unfold badW bodyW; first | (rw [if_pos rfl]; omega) | (rw [if_neg (by omega)]; omega))
        subst he1
        subst he2
        go_wp2_with (first
          | ((with_reducible refine gate_dst (N := 67) rfl ?_); refine Kd.event_run rfl (v := .agg cs) (w1 := w10) ?hr ?_; (case hr => exact HL.out _ _ rfl rfl))
          | (go_at_call 8; go_loud (refine (HP.out w10 H10.out).mono ?_; rintro e w11 ⟨A11, c11, rfl, hb11⟩; have H11 := Aside0.mk (below_step H9.out.2.1 (below_step H10.out hb11)); clear hb11)))
        go_ret
        exact ⟨rfl, H11.out⟩
  · by_cases klo : k < 1
    · have hcase := trivial
      have g1 : decide (1 ≤ k) = false := decide_eq_false (by omega)
      have g14 : decide (k ≤ 14) = true := decide_eq_true (by omega)
      have q4 : (k == 4) = false := beq_eq_false_iff_ne.2 (by omega)
      have q9 : (k == 9) = false := beq_eq_false_iff_ne.2 (by omega)
      have q11 : (k == 11) = false := beq_eq_false_iff_ne.2 (by omega)
      have q14 : (k == 14) = false := beq_eq_false_iff_ne.2 (by omega)
      have q7 : (k == 7) = false := beq_eq_false_iff_ne.2 (by omega)
      obtain ⟨he1, he2⟩ := HER.out.1 (by unfold badW bodyW; first | (rw [if_pos rfl]; omega) | (rw [if_neg (by omega)]; omega))
      subst he1
      subst he2
      go_wp2_with (first
        | ((with_reducible refine gate_dst (N := 67) rfl ?_); refine Kd.event_run rfl (v := .agg cs) (w1 := w10) ?hr ?_; (case hr => exact HL.out _ _ rfl rfl))
        | (go_at_call 8; go_loud (refine (HP.out w10 H10.out).mono ?_; rintro e w11 ⟨A11, c11, rfl, hb11⟩; have H11 := Aside0.mk (below_step H9.out.2.1 (below_step H10.out hb11)); clear hb11)))
      go_ret
      exact ⟨rfl, H11.out⟩
    · by_cases khi : 14 < k
      · have hcase := trivial
        have g1 : decide (1 ≤ k) = true := decide_eq_true (by omega)
        have g14 : decide (k ≤ 14) = false := decide_eq_false (by omega)
        have q4 : (k == 4) = false := beq_eq_false_iff_ne.2 (by omega)
        have q9 : (k == 9) = false := beq_eq_false_iff_ne.2 (by omega)
        have q11 : (k == 11) = false := beq_eq_false_iff_ne.2 (by omega)
        have q14 : (k == 14) = false := beq_eq_false_iff_ne.2 (by omega)
        have q7 : (k == 7) = false := beq_eq_false_iff_ne.2 (by omega)
        obtain ⟨he1, he2⟩ := HER.out.1 (by unfold badW bodyW; first | (rw [if_pos rfl]; omega) | (rw [if_neg (by omega)]; omega))
        subst he1
        subst he2
        go_wp2_with (first
          | ((with_reducible refine gate_dst (N := 67) rfl ?_); refine Kd.event_run rfl (v := .agg cs) (w1 := w10) ?hr ?_; (case hr => exact HL.out _ _ rfl rfl))
          | (go_at_call 8; go_loud (refine (HP.out w10 H10.out).mono ?_; rintro e w11 ⟨A11, c11, rfl, hb11⟩; have H11 := Aside0.mk (below_step H9.out.2.1 (below_step H10.out hb11)); clear hb11)))
        go_ret
        exact ⟨rfl, H11.out⟩
      · by_cases kb4 : k = 4
        · subst kb4
          by_cases hm0 : m = 0
          · by_cases hn0 : n = 0
            · have hcase := trivial
              have m0 : ((m : Int) == 0) = true := by rw [beq_iff_eq]; omega
              have n0 : ((n : Int) == 0) = true := by rw [beq_iff_eq]; omega
              have he0 := HER.out.2 (by unfold badW bodyW; first | (rw [if_pos rfl]; omega) | (rw [if_neg (by omega)]; rintro (h | h | h | ⟨h, h2⟩) <;> first | omega | (revert h2; decide)))
              subst he0
              go_wp2_with (first
                | ((with_reducible refine gate_dst (N := 67) rfl ?_); refine Kd.event_run rfl (v := .agg cs) (w1 := w10) ?hr ?_; (case hr => exact HL.out _ _ rfl rfl))
                | (go_at_call 8; go_loud (refine (HP.out w10 H10.out).mono ?_; rintro e w11 ⟨A11, c11, rfl, hb11⟩; have H11 := Aside0.mk (below_step H9.out.2.1 (below_step H10.out hb11)); clear hb11)))
              go_ret
              exact ⟨rfl, H11.out⟩
            · have hcase := trivial
              have m0 : ((m : Int) == 0) = true := by rw [beq_iff_eq]; omega
              have n0 : ((n : Int) == 0) = false := beq_eq_false_iff_ne.2 (by omega)
              have he0 := HER.out.2 (by unfold badW bodyW; first | (rw [if_pos rfl]; omega) | (rw [if_neg (by omega)]; rintro (h | h | h | ⟨h, h2⟩) <;> first | omega | (revert h2; decide)))
              subst he0
              go_wp2_with (first
                | ((with_reducible refine gate_dst (N := 67) rfl ?_); refine Kd.event_run rfl (v := .agg cs) (w1 := w10) ?hr ?_; (case hr => exact HL.out _ _ rfl rfl))
                | (go_at_call 8; go_loud (refine (HP.out w10 H10.out).mono ?_; rintro e w11 ⟨A11, c11, rfl, hb11⟩; have H11 := Aside0.mk (below_step H9.out.2.1 (below_step H10.out hb11)); clear hb11)))
              go_ret
              exact ⟨rfl, H11.out⟩
          · have hcase := trivial
            have m0 : ((m : Int) == 0) = false := beq_eq_false_iff_ne.2 (by omega)
            obtain ⟨he1, he2⟩ := HER.out.1 (by unfold badW bodyW; first | (rw [if_pos rfl]; omega) | (rw [if_neg (by omega)]; omega))
            subst he1
            subst he2
            go_wp2_with (first
              | ((with_reducible refine gate_dst (N := 67) rfl ?_); refine Kd.event_run rfl (v := .agg cs) (w1 := w10) ?hr ?_; (case hr => exact HL.out _ _ rfl rfl))
              | (go_at_call 8; go_loud (refine (HP.out w10 H10.out).mono ?_; rintro e w11 ⟨A11, c11, rfl, hb11⟩; have H11 := Aside0.mk (below_step H9.out.2.1 (below_step H10.out hb11)); clear hb11)))
            go_ret
            exact ⟨rfl, H11.out⟩
        · by_cases kb9 : k = 9
          · subst kb9
            by_cases hm0 : m = 0
            · by_cases hn0 : n = 0
              · have hcase := trivial
                have m0 : ((m : Int) == 0) = true := by rw [beq_iff_eq]; omega
                have n0 : ((n : Int) == 0) = true := by rw [beq_iff_eq]; omega
                have he0 := HER.out.2 (by unfold badW bodyW; first | (rw [if_pos rfl]; omega) | (rw [if_neg (by omega)]; rintro (h | h | h | ⟨h, h2⟩) <;> first | omega | (revert h2; decide)))
                subst he0
                go_wp2_with (first
                  | ((with_reducible refine gate_dst (N := 67) rfl ?_); refine Kd.event_run rfl (v := .agg cs) (w1 := w10) ?hr ?_; (case hr => exact HL.out _ _ rfl rfl))
                  | (go_at_call 8; go_loud (refine (HP.out w10 H10.out).mono ?_; rintro e w11 ⟨A11, c11, rfl, hb11⟩; have H11 := Aside0.mk (below_step H9.out.2.1 (below_step H10.out hb11)); clear hb11)))
                go_ret
                exact ⟨rfl, H11.out⟩
              · have hcase := trivial
                have m0 : ((m : Int) == 0) = true := by rw [beq_iff_eq]; omega
                have n0 : ((n : Int) == 0) = false := beq_eq_false_iff_ne.2 (by omega)
                have he0 := HER.out.2 (by unfold badW bodyW; first | (rw [if_pos rfl]; omega) | (rw [if_neg (by omega)]; rintro (h | h | h | ⟨h, h2⟩) <;> first | omega | (revert h2; decide)))
                subst he0
                go_wp2_with (first
                  | ((with_reducible refine gate_dst (N := 67) rfl ?_); refine Kd.event_run rfl (v := .agg cs) (w1 := w10) ?hr ?_; (case hr => exact HL.out _ _ rfl rfl))
                  | (go_at_call 8; go_loud (refine (HP.out w10 H10.out).mono ?_; rintro e w11 ⟨A11, c11, rfl, hb11⟩; have H11 := Aside0.mk (below_step H9.out.2.1 (below_step H10.out hb11)); clear hb11)))
                go_ret
                exact ⟨rfl, H11.out⟩
            · have hcase := trivial
              have m0 : ((m : Int) == 0) = false := beq_eq_false_iff_ne.2 (by omega)
              obtain ⟨he1, he2⟩ := HER.out.1 (by unfold badW bodyW; first | (rw [if_pos rfl]; omega) | (rw [if_neg (by omega)]; omega))
              subst he1
              subst he2
              go_wp2_with (first
                | ((with_reducible refine gate_dst (N := 67) rfl ?_); refine Kd.event_run rfl (v := .agg cs) (w1 := w10) ?hr ?_; (case hr => exact HL.out _ _ rfl rfl))
                | (go_at_call 8; go_loud (refine (HP.out w10 H10.out).mono ?_; rintro e w11 ⟨A11, c11, rfl, hb11⟩; have H11 := Aside0.mk (below_step H9.out.2.1 (below_step H10.out hb11)); clear hb11)))
              go_ret
              exact ⟨rfl, H11.out⟩
          · by_cases kb11 : k = 11
            · subst kb11
              by_cases hm0 : m = 0
              · by_cases hn0 : n = 0
                · have hcase := trivial
                  have m0 : ((m : Int) == 0) = true := by rw [beq_iff_eq]; omega
                  have n0 : ((n : Int) == 0) = true := by rw [beq_iff_eq]; omega
                  have he0 := HER.out.2 (by unfold badW bodyW; first | (rw [if_pos rfl]; omega) | (rw [if_neg (by omega)]; rintro (h | h | h | ⟨h, h2⟩) <;> first | omega | (revert h2; decide)))
                  subst he0
                  go_wp2_with (first
                    | ((with_reducible refine gate_dst (N := 67) rfl ?_); refine Kd.event_run rfl (v := .agg cs) (w1 := w10) ?hr ?_; (case hr => exact HL.out _ _ rfl rfl))
                    | (go_at_call 8; go_loud (refine (HP.out w10 H10.out).mono ?_; rintro e w11 ⟨A11, c11, rfl, hb11⟩; have H11 := Aside0.mk (below_step H9.out.2.1 (below_step H10.out hb11)); clear hb11)))
                  go_ret
                  exact ⟨rfl, H11.out⟩
                · have hcase := trivial
                  have m0 : ((m : Int) == 0) = true := by rw [beq_iff_eq]; omega
                  have n0 : ((n : Int) == 0) = false := beq_eq_false_iff_ne.2 (by omega)
                  have he0 := HER.out.2 (by unfold badW bodyW; first | (rw [if_pos rfl]; omega) | (rw [if_neg (by omega)]; rintro (h | h | h | ⟨h, h2⟩) <;> first | omega | (revert h2; decide)))
                  subst he0
                  go_wp2_with (first
                    | ((with_reducible refine gate_dst (N := 67) rfl ?_); refine Kd.event_run rfl (v := .agg cs) (w1 := w10) ?hr ?_; (case hr => exact HL.out _ _ rfl rfl))
                    | (go_at_call 8; go_loud (refine (HP.out w10 H10.out).mono ?_; rintro e w11 ⟨A11, c11, rfl, hb11⟩; have H11 := Aside0.mk (below_step H9.out.2.1 (below_step H10.out hb11)); clear hb11)))
                  go_ret
                  exact ⟨rfl, H11.out⟩
              · have hcase := trivial
                have m0 : ((m : Int) == 0) = false := beq_eq_false_iff_ne.2 (by omega)
                obtain ⟨he1, he2⟩ := HER.out.1 (by unfold badW bodyW; first | (rw [if_pos rfl]; omega) | (rw [if_neg (by omega)]; omega))
                subst he1
                subst he2
                go_wp2_with (first
                  | ((with_reducible refine gate_dst (N := 67) rfl ?_); refine Kd.event_run rfl (v := .agg cs) (w1 := w10) ?hr ?_; (case hr => exact HL.out _ _ rfl rfl))
                  | (go_at_call 8; go_loud (refine (HP.out w10 H10.out).mono ?_; rintro e w11 ⟨A11, c11, rfl, hb11⟩; have H11 := Aside0.mk (below_step H9.out.2.1 (below_step H10.out hb11)); clear hb11)))
                go_ret
                exact ⟨rfl, H11.out⟩
            · by_cases kb14 : k = 14
              · subst kb14
                by_cases hm0 : m = 0
                · by_cases hn0 : n = 0
                  · have hcase := trivial
                    have m0 : ((m : Int) == 0) = true := by rw [beq_iff_eq]; omega
                    have n0 : ((n : Int) == 0) = true := by rw [beq_iff_eq]; omega
                    have he0 := HER.out.2 (by unfold badW bodyW; first | (rw [if_pos rfl]; omega) | (rw [if_neg (by omega)]; rintro (h | h | h | ⟨h, h2⟩) <;> first | omega | (revert h2; decide)))
                    subst he0
                    go_wp2_with (first
                      | ((with_reducible refine gate_dst (N := 67) rfl ?_); refine Kd.event_run rfl (v := .agg cs) (w1 := w10) ?hr ?_; (case hr => exact HL.out _ _ rfl rfl))
                      | (go_at_call 8; go_loud (refine (HP.out w10 H10.out).mono ?_; rintro e w11 ⟨A11, c11, rfl, hb11⟩; have H11 := Aside0.mk (below_step H9.out.2.1 (below_step H10.out hb11)); clear hb11)))
                    go_ret
                    exact ⟨rfl, H11.out⟩
                  · have hcase := trivial
                    have m0 : ((m : Int) == 0) = true := by rw [beq_iff_eq]; omega
                    have n0 : ((n : Int) == 0) = false := beq_eq_false_iff_ne.2 (by omega)
                    have he0 := HER.out.2 (by unfold badW bodyW; first | (rw [if_pos rfl]; omega) | (rw [if_neg (by omega)]; rintro (h | h | h | ⟨h, h2⟩) <;> first | omega | (revert h2; decide)))
                    subst he0
                    go_wp2_with (first
                      | ((with_reducible refine gate_dst (N := 67) rfl ?_); refine Kd.event_run rfl (v := .agg cs) (w1 := w10) ?hr ?_; (case hr => exact HL.out _ _ rfl rfl))
                      | (go_at_call 8; go_loud (refine (HP.out w10 H10.out).mono ?_; rintro e w11 ⟨A11, c11, rfl, hb11⟩; have H11 := Aside0.mk (below_step H9.out.2.1 (below_step H10.out hb11)); clear hb11)))
                    go_ret
                    exact ⟨rfl, H11.out⟩
                · have hcase := trivial
                  have m0 : ((m : Int) == 0) = false := beq_eq_false_iff_ne.2 (by omega)
                  obtain ⟨he1, he2⟩ := HER.out.1 (by unfold badW bodyW; first | (rw [if_pos rfl]; omega) | (rw [if_neg (by omega)]; omega))
                  subst he1
                  subst he2
                  go_wp2_with (first
                    | ((with_reducible refine gate_dst (N := 67) rfl ?_); refine Kd.event_run rfl (v := .agg cs) (w1 := w10) ?hr ?_; (case hr => exact HL.out _ _ rfl rfl))
                    | (go_at_call 8; go_loud (refine (HP.out w10 H10.out).mono ?_; rintro e w11 ⟨A11, c11, rfl, hb11⟩; have H11 := Aside0.mk (below_step H9.out.2.1 (below_step H10.out hb11)); clear hb11)))
                  go_ret
                  exact ⟨rfl, H11.out⟩
              · skip
                by_cases hm0 : m = 0
                · by_cases hn0 : n = 0
                  · have hcase := trivial
                    have g1 : decide (1 ≤ k) = true := decide_eq_true (by omega)
                    have g14 : decide (k ≤ 14) = true := decide_eq_true (by omega)
                    have q4 : (k == 4) = false := beq_eq_false_iff_ne.2 (by omega)
                    have q9 : (k == 9) = false := beq_eq_false_iff_ne.2 (by omega)
                    have q11 : (k == 11) = false := beq_eq_false_iff_ne.2 (by omega)
                    have q14 : (k == 14) = false := beq_eq_false_iff_ne.2 (by omega)
                    have q7 : (k == 7) = false := beq_eq_false_iff_ne.2 (by omega)
                    have m0 : ((m : Int) == 0) = true := by rw [beq_iff_eq]; omega
                    have n0 : ((n : Int) == 0) = true := by rw [beq_iff_eq]; omega
                    have he0 := HER.out.2 (by unfold badW bodyW; first | (rw [if_pos rfl]; omega) | (rw [if_neg (by omega)]; rintro (h | h | h | ⟨h, h2⟩) <;> first | omega | (revert h2; decide)))
                    subst he0
                    go_wp2_with (first
                      | ((with_reducible refine gate_dst (N := 67) rfl ?_); refine Kd.event_run rfl (v := .agg cs) (w1 := w10) ?hr ?_; (case hr => exact HL.out _ _ rfl rfl))
                      | (go_at_call 8; go_loud (refine (HP.out w10 H10.out).mono ?_; rintro e w11 ⟨A11, c11, rfl, hb11⟩; have H11 := Aside0.mk (below_step H9.out.2.1 (below_step H10.out hb11)); clear hb11)))
                    go_ret
                    exact ⟨rfl, H11.out⟩
                  · have hcase := trivial
                    have g1 : decide (1 ≤ k) = true := decide_eq_true (by omega)
                    have g14 : decide (k ≤ 14) = true := decide_eq_true (by omega)
                    have q4 : (k == 4) = false := beq_eq_false_iff_ne.2 (by omega)
                    have q9 : (k == 9) = false := beq_eq_false_iff_ne.2 (by omega)
                    have q11 : (k == 11) = false := beq_eq_false_iff_ne.2 (by omega)
                    have q14 : (k == 14) = false := beq_eq_false_iff_ne.2 (by omega)
                    have q7 : (k == 7) = false := beq_eq_false_iff_ne.2 (by omega)
                    have m0 : ((m : Int) == 0) = true := by rw [beq_iff_eq]; omega
                    have n0 : ((n : Int) == 0) = false := beq_eq_false_iff_ne.2 (by omega)
                    obtain ⟨he1, he2⟩ := HER.out.1 (by unfold badW bodyW; first | (rw [if_pos rfl]; omega) | (rw [if_neg (by omega)]; exact .inr (.inr (.inr ⟨by omega, by simp; omega⟩))))
                    subst he1
                    subst he2
                    go_wp2_with (first
                      | ((with_reducible refine gate_dst (N := 67) rfl ?_); refine Kd.event_run rfl (v := .agg cs) (w1 := w10) ?hr ?_; (case hr => exact HL.out _ _ rfl rfl))
                      | (go_at_call 8; go_loud (refine (HP.out w10 H10.out).mono ?_; rintro e w11 ⟨A11, c11, rfl, hb11⟩; have H11 := Aside0.mk (below_step H9.out.2.1 (below_step H10.out hb11)); clear hb11)))
                    go_ret
                    exact ⟨rfl, H11.out⟩
                · have hcase := trivial
                  have g1 : decide (1 ≤ k) = true := decide_eq_true (by omega)
                  have g14 : decide (k ≤ 14) = true := decide_eq_true (by omega)
                  have q4 : (k == 4) = false := beq_eq_false_iff_ne.2 (by omega)
                  have q9 : (k == 9) = false := beq_eq_false_iff_ne.2 (by omega)
                  have q11 : (k == 11) = false := beq_eq_false_iff_ne.2 (by omega)
                  have q14 : (k == 14) = false := beq_eq_false_iff_ne.2 (by omega)
                  have q7 : (k == 7) = false := beq_eq_false_iff_ne.2 (by omega)
                  have m0 : ((m : Int) == 0) = false := beq_eq_false_iff_ne.2 (by omega)
                  obtain ⟨he1, he2⟩ := HER.out.1 (by unfold badW bodyW; first | (rw [if_pos rfl]; omega) | (rw [if_neg (by omega)]; omega))
                  subst he1
                  subst he2
                  go_wp2_with (first
                    | ((with_reducible refine gate_dst (N := 67) rfl ?_); refine Kd.event_run rfl (v := .agg cs) (w1 := w10) ?hr ?_; (case hr => exact HL.out _ _ rfl rfl))
                    | (go_at_call 8; go_loud (refine (HP.out w10 H10.out).mono ?_; rintro e w11 ⟨A11, c11, rfl, hb11⟩; have H11 := Aside0.mk (below_step H9.out.2.1 (below_step H10.out hb11)); clear hb11)))
                  go_ret
                  exact ⟨rfl, H11.out⟩
theorem ways_row {k n m : Int} (hk : (Lit.int .i64 k).wf = true) (hn : (Lit.int .u8 n).wf = true) (hm : (Lit.int .u8 m).wf = true) (hT : ∀ k : Nat, k < 15 → w.cell? ⟨0, k, none⟩ = some (.int .i64 (([0, 3, 1, 3, 9, 1, 7, 31, 1, 9, 1, 10, 2, 0, 10] : List Int).getD k 0))) :
    Calls Tryd.prog 6 #[.int .i64 k, .int .u8 n, .int .u8 m] w fun e w' => e = .returned (.bool true) ∧ Below w.heap.size w w' := by
  have i64 : -9223372036854775808 ≤ k ∧ k ≤ 9223372036854775807 := by simpa [Lit.wf, IntKind.min, IntKind.max, IntKind.signed, IntKind.bits] using hk
  have n8 : 0 ≤ n ∧ n ≤ 255 := by simpa [Lit.wf, IntKind.min, IntKind.max, IntKind.signed, IntKind.bits] using hn
  have m8 : 0 ≤ m ∧ m ≤ 255 := by simpa [Lit.wf, IntKind.min, IntKind.max, IntKind.signed, IntKind.bits] using hm
  obtain ⟨n', rfl⟩ : ∃ n' : Nat, n = n' := ⟨n.toNat, by omega⟩
  obtain ⟨m', rfl⟩ : ∃ m' : Nat, m = m' := ⟨m.toNat, by omega⟩
  exact ways_law i64 (by omega) (by omega) (fat_of hT)
end
end Go.Proofs.YtlcanfniphdelaaDoor.Not
