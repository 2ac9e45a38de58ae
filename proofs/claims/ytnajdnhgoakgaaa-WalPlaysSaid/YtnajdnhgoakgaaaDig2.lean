/- digits; Equal. -/
import Derived.Test.YtnajdnhgoakgaaaDig
namespace Go.Proofs.Ytnajdnhgoakgaaa.Wal
open Go.RowKit Go.Proofs.YtnajdnhgoakgaaaW.PrintWords Go.Proofs.YtnajdnhgoakgaaaW.PrintLast Go.Proofs.YtnajdnhgoakgaaaW.PrintMore Go.Proofs.Ytnajdnhgoakgaaa.Mem Go.Proofs.Ytnajdnhgoakgaaa.PWal
set_option linter.unusedVariables false
set_option linter.unusedSimpArgs false
set_option maxRecDepth 8000
set_option maxHeartbeats 4000000
/-- The bytes so far. -/
def digAt (x : Int) (i : Nat) : List Int := (num8 x).take i ++ List.replicate (8 - i) 0
def z8 : List Value := nums .u8 (List.replicate 8 0)
theorem wpName {P : Program} {ops : Array Oper} {Q : Exit → Act → World → Prop} {rest : List Oper} {a : Act} {w : World} (h : ∀ W, W = w → wpList P ops Q rest a W) : wpList P ops Q rest a w := h w rfl
theorem gate_store {P : Program} {ops : Array Oper} {Q : Exit → Act → World → Prop} {rest : List Oper} {o : Oper} {a : Act} {w : World} {ty : TypeId} {x y : Operand} (hs : o.op = .store ty x y) (h : wpList P ops Q (o :: rest) a w) : wpList P ops Q (o :: rest) a w := h
theorem nums_one (q : List Int) : ∀ v ∈ nums .u8 q, v.oneCell' = true := by
  intro v hv
  simp only [nums, List.mem_map] at hv
  obtain ⟨x, _, rfl⟩ := hv
  rfl
theorem dig_set (x : Int) (i : Nat) (hi : i < 8) : (digAt x i).set i ((num8 x).getD i 0) = digAt x (i + 1) := by
  have hcs : i = 0 ∨ i = 1 ∨ i = 2 ∨ i = 3 ∨ i = 4 ∨ i = 5 ∨ i = 6 ∨ i = 7 := by omega
  rcases hcs with rfl | rfl | rfl | rfl | rfl | rfl | rfl | rfl <;> rfl
section
variable {P : Program} {o : Oper} {ev : Operand → Value}
theorem exec_load_row (W : World) (ty : TypeId) (x : Operand) (ho : o.op = .load ty x) (g : Nat) (hx : ev x = .pointer (some ⟨g, 0, none⟩)) (t : TypeId) (cs : Array Value) (fr : Nat × Nat) (d : TypeDesc) (hg : W.heap[g]? = some (.cells cs t fr))
    (hu : P.underlying ty = some d) (hd : (match d with | .struct _ | .array _ _ => true | _ => false) = true) (hi : (P.info? ty).map (·.size) = some cs.size) : (execOp ev o).run P W = .ok (.value (.agg cs)) W := by
  unfold execOp
  simp only [ho, hx, Instr.loadAt, Instr.sureAddr, Sem.run_bind, Sem.run_pure, Result.andThen_ok, run_loadVar_row W g t ty cs fr d hg hu hd hi]
end
section
variable {w : World}
theorem digits_calls (x : Int) (h0 : 0 ≤ x) (h1 : x ≤ 18446744073709551615) : Calls Try.prog 58 #[.int .u64 x] w fun e w' => e = .returned (.agg (nums .u8 (num8 x)).toArray) ∧ Below w.heap.size w w' := by
  have HX := Aside0.mk (And.intro h0 h1)
  clear h0 h1
  go_enter Try.func58, Try.ntmps58
  go_wp2_with (first
    | ((with_reducible refine gate_dst (N := 2) rfl ?_); refine Kd.event_run rfl (v := .pointer (some ⟨w.heap.size, 0, none⟩)) (w1 := w.alloc (.cells z8.toArray 107)) ?hr ?_; (case hr => first | kernel_rfl | (go_simp; done) | (go_simp; rfl)); go_loud (refine wpName (fun w1 hw1 => ?_); obtain ⟨g2, hg2⟩ : ∃ g, g = w.heap.size := ⟨_, rfl⟩; have H1 := Aside0.mk (And.intro (show w1.heap[g2]? = some (.cells z8.toArray 107 (0, 0)) by rw [hw1, hg2]; exact blk_new w _) (And.intro (show Below w.heap.size w w1 by rw [hw1]; exact below_alloc (Below.refl _ _) _) hg2)); rw [← hg2]; clear hw1 hg2))
    | ((with_reducible refine gate_dst (N := 3) rfl ?_); refine Kd.event_run rfl (v := .pointer (some ⟨w1.heap.size, 0, none⟩)) (w1 := w1.alloc (.cells z8.toArray 107)) ?hr ?_; (case hr => first | kernel_rfl | (go_simp; done) | (go_simp; rfl)); go_loud (refine wpName (fun w2 hw2 => ?_); obtain ⟨g3, hg3⟩ : ∃ g, g = w1.heap.size := ⟨_, rfl⟩; have hb2 : Below w1.heap.size w1 w2 := (by rw [hw2]; exact below_alloc (Below.refl _ _) _); have H0 : Aside0 (w2.heap[g2]? = some (.cells z8.toArray 107 (0, 0)) ∧ w2.heap[g3]? = some (.cells (nums .u8 (digAt x 0)).toArray 107 (0, 0)) ∧ Below w.heap.size w w2) := ⟨(hb2.block _ (blk_lt H1.out.1)).trans H1.out.1, by rw [hw2, hg3]; exact blk_new w1 _, below_step H1.out.2.1 hb2⟩; have HG := Aside0.mk (And.intro H1.out.2.2 (show w.heap.size < g3 by rw [hg3]; have := blk_lt H1.out.1; have := H1.out.2.2; omega)); rw [← hg3]; clear hw2 hg3 hb2)))
  go_loopg [5] 8 (fun q v5 wr => ∃ i : Nat, v5 = .int .i64 i ∧ q + i = 8 ∧ Aside0 (wr.heap[g2]? = some (.cells z8.toArray 107 (0, 0)) ∧ wr.heap[g3]? = some (.cells (nums .u8 (digAt x i)).toArray 107 (0, 0)) ∧ Below w.heap.size w wr))
  case atStart => exact ⟨0, rfl, rfl, H0⟩
  case round =>
    clear H0
    obtain ⟨i, rfl, hq, hI⟩ := hrel
    by_cases hlt : i < 8
    · have hcell : wr.cell? ⟨g3, i, none⟩ = some (.int .u8 0) := by
        rw [blk_cell hI.out.2.1, List.getElem?_toArray]
        unfold nums digAt
        rw [List.getElem?_map, List.getElem?_append_right (by rw [List.length_take, num8_len]; omega), List.length_take, num8_len, List.getElem?_replicate, if_pos (by omega)]
        rfl
      have hfz : wr.frozen? ⟨g3, i, none⟩ = false := blk_frozen hI.out.2.1 i
      have hstep : ∀ u, u = (num8 x).getD i 0 → Aside0 ((wr.setCell ⟨g3, i, none⟩ (.int .u8 u)).heap[g2]? = some (.cells z8.toArray 107 (0, 0)) ∧ (wr.setCell ⟨g3, i, none⟩ (.int .u8 u)).heap[g3]? = some (.cells (nums .u8 (digAt x (i + 1))).toArray 107 (0, 0)) ∧ Below w.heap.size w (wr.setCell ⟨g3, i, none⟩ (.int .u8 u))) := fun u hu => ⟨by
        refine ⟨blk_far hI.out.1 (p := ⟨g3, i, none⟩) (by have h1 := HG.out.1; have h2 := HG.out.2; show g2 ≠ g3; omega) _, ?_, below_set hI.out.2.2 (by have h2 := HG.out.2; omega)⟩
        rw [blk_set hI.out.2.1 i]
        congr 2
        rw [List.setIfInBounds_toArray]
        congr 1
        unfold nums
        rw [← List.map_set]
        congr 1
        rw [hu]
        exact dig_set x i hlt⟩
      clear hI
      have hcs : i = 0 ∨ i = 1 ∨ i = 2 ∨ i = 3 ∨ i = 4 ∨ i = 5 ∨ i = 6 ∨ i = 7 := by omega
      rcases hcs with rfl | rfl | rfl | rfl | rfl | rfl | rfl | rfl
      all_goals
        go_wp2
        go_roundg (gk - 1)
        case measure => omega
        case rel => first | exact ⟨1, rfl, by omega, hstep _ rfl⟩ | exact ⟨2, rfl, by omega, hstep _ rfl⟩ | exact ⟨3, rfl, by omega, hstep _ rfl⟩ | exact ⟨4, rfl, by omega, hstep _ rfl⟩ | exact ⟨5, rfl, by omega, hstep _ rfl⟩ | exact ⟨6, rfl, by omega, hstep _ rfl⟩ | exact ⟨7, rfl, by omega, hstep _ rfl⟩ | exact ⟨8, rfl, by omega, hstep _ rfl⟩
    · have d2 : decide ((i : Int) < 8) = false := decide_eq_false (by omega)
      obtain rfl : i = 8 := by omega
      have hI8 : Aside0 (wr.heap[g2]? = some (.cells z8.toArray 107 (0, 0)) ∧ wr.heap[g3]? = some (.cells (nums .u8 (num8 x)).toArray 107 (0, 0)) ∧ Below w.heap.size w wr) := hI
      obtain ⟨cs, hcs⟩ : ∃ cs, cs = (nums .u8 (num8 x)).toArray := ⟨_, rfl⟩
      rw [← hcs] at hI8
      have HF := Aside0.mk (And.intro (show (Try.prog.info? 107).map (·.size) = some cs.size by rw [hcs]; kernel_rfl) (And.intro (show z8.toArray.size = cs.size by rw [hcs]; rfl) (And.intro (show cs.all (·.oneCell') = true by rw [hcs, Array.all_eq_true_iff_forall_mem]; intro v hv; exact nums_one _ v (List.mem_toArray.1 hv)) hcs)))
      clear hcs hI
      go_wp2_with (first
        | ((with_reducible refine gate_dst (N := 17) rfl ?_); refine Kd.event_run rfl (v := .agg cs) (w1 := wr) ?hr ?_; (case hr => exact exec_load_row wr 107 (.tmp 3) rfl g3 rfl 107 _ (0, 0) _ hI8.out.2.1 Try.underlying107 rfl HF.out.1))
        | ((with_reducible refine gate_store (ty := 107) (x := .tmp 2) (y := .tmp 17) rfl ?_); go_loud (refine wpList_store_row rfl 107 (.tmp 2) (.tmp 17) rfl g2 cs rfl rfl 107 z8.toArray hI8.out.1 HF.out.1 HF.out.2.1 HF.out.2.2.1 ?_; refine wpName (fun w5 hw5 => ?_); have H5 := Aside0.mk (And.intro (show w5.heap[g2]? = some (.cells cs 107 (0, 0)) by rw [hw5]; exact setRow_heap _ _ _ _ _ _ hI8.out.1) (show Below w.heap.size w w5 by rw [hw5]; exact below_setRow hI8.out.2.2 (by rw [HG.out.1]; exact Nat.le_refl _) _)); clear hw5)))
      refine bodyPost_ret (results_cell_row rfl _ _ g2 107 cs (0, 0) _ rfl H5.out.1 Try.underlying107 rfl HF.out.1) rfl ?_
      exact ⟨by rw [HF.out.2.2.2], H5.out.2⟩
end
end Go.Proofs.Ytnajdnhgoakgaaa.Wal
