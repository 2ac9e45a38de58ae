/- objects.Below. -/
import Derived.Test.YtgjdcdhfijkoiaaDoorObC
import Derived.Test.YtgjdcdhfijkoiaaDoorCoB
section
namespace Go.Proofs.YtgjdcdhfijkoiaaDoor.Obj
open Go.RowKit Go.Proofs.YtgjdcdhfijkoiaaDoorW.PrintWords Go.Proofs.YtgjdcdhfijkoiaaDoorW.PrintLast Go.Proofs.YtgjdcdhfijkoiaaDoorW.PrintMore Go.Proofs.YtgjdcdhfijkoiaaDoor.Mem Go.Proofs.YtgjdcdhfijkoiaaDoor.Cod Go.Proofs.YtgjdcdhfijkoiaaDoor.PCod Go.Proofs.YtgjdcdhfijkoiaaDoor.Str Go.Proofs.YtgjdcdhfijkoiaaDoor.Open
set_option linter.unusedVariables false
set_option linter.unusedSimpArgs false
def belowM (x : OM) : List (List Int) := x.ids ++ x.es.map (·.id)
section
variable {w : World} {x : OM} {cs : Array Value} {A Y E : Option Addr} {bc yc ec : Nat}
set_option maxRecDepth 100000 in
set_option maxHeartbeats 8000000 in
theorem obelow_calls (hcs : OV cs x A Y E bc yc ec) (hI : InO w x A Y E) (hy : x.ids.length ≤ 1000000) (he : x.es.length ≤ 1000000) :
    Calls Tryd.prog 38 #[.agg cs] w fun e w' => ∃ v, e = .returned v ∧ Kd.R kId 74 w' w.heap.size (fun _ => True) v (belowM x) ∧ Below w.heap.size w w' := by
  obtain ⟨el, hel⟩ : ∃ k, k = x.es.length := ⟨_, rfl⟩
  obtain ⟨yl, hyl⟩ : ∃ k, k = x.ids.length := ⟨_, rfl⟩
  have HCS := Aside0.mk (And.intro hcs (And.intro hI (And.intro hel hyl)))
  rw [← hyl] at hy
  rw [← hel] at he
  clear hcs hI hel hyl
  go_enter Tryd.func38, Tryd.ntmps38
  go_wp2_with (first
    | ((with_reducible refine gate_dst (N := 1) rfl ?_); refine box_event ?hg (N := 1) ?hd (cs := cs) (t := 57) ?hr ?_; (case hd => rfl); (case hg => rfl); (case hr => exact exec_box _ _ _ rfl cs rfl); intro gb hgb w1 hbox hb1; have H1 := Aside0.mk (show OB w1 gb x A Y E bc yc ec ∧ Below w.heap.size w w1 from And.intro (OB.of HCS.out.1 hbox) hb1); have a3 := H1.out.1.cells.2.2.2.1; rw [← HCS.out.2.2.2] at a3; clear hbox hb1 hgb)
    | ((with_reducible refine gate_builtin (b := .append) (xs := #[.tmp 6, .tmp 8]) rfl ?_); at_builtin; go_loud ( refine Kd.R_append_rows kId (Rr := kId.K w1) (w0 := w) (W := w1) w.heap.size ?q1 (.tmp 6) (.tmp 8) 54 74 (.agg zid) 32 ?q2 Tryd.underlying54 ?q3 ?q4 (by decide) (by decide) (.slice none 0 0) [] x.ids Y yl yc (fun _ => True) (fun _ => False) ?q5 ?q6 ?aH ?aR (fun _ _ h => h) (fun _ hk => hk.elim) (fun _ _ => trivial) ?aB ?aS ?aL ?_; (case q1 => rfl); (case q2 => rfl); (case q3 => exact info_kid); (case q4 => rfl); (case q5 => rfl); (case q6 => rfl); (case aH => exact Kd.R_nil _ _ _ _ _); (case aR => have h := Kd.C_below HCS.out.2.1.yC H1.out.2; rw [← HCS.out.2.2.2] at h; exact h); (case aB => exact H1.out.2); (case aS => exact H1.out.2.size); (case aL => simp; omega); intro v2 w2 ho2 hb2 hg2 _; have hk2 : Kept w1 w2 (fun k => some k = (Value.slice none 0 0).ownBlock) := Kept.of_grown hg2 (Kept.refl _ _) (fun k e => .inl e.symm); have H2 := Aside0.mk (show OB w2 gb x A Y E bc yc ec ∧ Below w.heap.size w w2 ∧ Kd.R kId 74 w2 w.heap.size (fun _ => True) v2 x.ids from ⟨blk_kept H1.out.1 hk2 (fun e => by cases e), hb2, ho2⟩); have a4 := H2.out.1.cells.2.2.2.2.1; rw [← HCS.out.2.2.1] at a4; clear a3 ho2 hb2 hg2 hk2)))
  clear a4
  go_loopg [3, 13] el (fun q v3 v13 wr => ∃ i : Nat, v13 = .int .i64 i ∧ q + i = el ∧ Aside0 (Below w.heap.size w wr ∧ Kd.R kId 74 wr w.heap.size (fun _ => True) v3 (x.ids ++ (x.es.take i).map (·.id))))
  case atStart => exact ⟨0, rfl, rfl, ⟨H2.out.2.1, by rw [List.take_zero, List.map_nil, List.append_nil]; exact H2.out.2.2⟩⟩
  case round =>
    clear H1 H2
    obtain ⟨i, rfl, hq, hI⟩ := hrel
    by_cases hlt : i < el
    · have d1 : decide ((i : Int) < (el : Int)) = true := decide_eq_true (by omega)
      have hil : i < x.es.length := by have := HCS.out.2.2.1; omega
      obtain ⟨ad, e0, h32, hcell, _⟩ := at_e HCS.out.2.1.eC hil
      cases e0
      have hnx := takeG eNone hil
      obtain ⟨en, hen⟩ : ∃ en, en = x.es.getD i eNone := ⟨_, rfl⟩
      rw [← hen] at h32 hcell hnx
      have HZ := Aside0.mk (And.intro hcell (And.intro h32 hnx))
      have HL := Aside0.mk (show ((x.ids ++ (x.es.take i).map (·.id)).length + 1) * 32 ≤ 140737488355328 from by
        have h1 := HCS.out.2.2.2
        rw [List.length_append, List.length_map, List.length_take]
        omega)
      obtain ⟨pre, hpre⟩ : ∃ z, z = x.ids ++ (x.es.take i).map (·.id) := ⟨_, rfl⟩
      rw [← hpre] at HL hI
      have HP := Aside0.mk hpre
      clear hcell h32 hnx hen hpre
      go_wp2_with (first
        | ((with_reducible refine gate_dst (N := 16) rfl ?_); refine Kd.event_run rfl (v := .agg (ecells en).toArray) (w1 := wr) ?hr ?_; (case hr => exact exec_load_any wr 76 (.tmp 15) rfl (ad.add (i * 34)) rfl (ecells en) _ (fun j v hj => by have h := HZ.out.1 j v hj; rw [Go.Deep.add_add]; exact (hI.out.1.cell (World.block_lt_of_cell? w _ h)).trans h) Tryd.underlying76 rfl (by rw [ecells_len HZ.out.2.1]; kernel_rfl)))
        | ((with_reducible refine gate_dst (N := 5) rfl ?_); go_loud (refine Kd.event_run (v := .pointer (some ⟨wr.heap.size, 0, none⟩)) (w1 := wr.alloc (.cells ez34 76)) rfl ?hr ?_; (case hr => first | kernel_rfl | (go_simp; done) | (go_simp; rfl))))
        | ((with_reducible refine gate_store (ty := 76) (x := .tmp 5) (y := .tmp 16) rfl ?_); refine wpList_store_row rfl 76 (.tmp 5) (.tmp 16) rfl wr.heap.size (ecells en).toArray rfl rfl 76 ez34 (blk_new wr _) (ecells_fit HZ.out.2.1).1 (ecells_fit HZ.out.2.1).2.1 (ecells_fit HZ.out.2.1).2.2 ?_; go_loud (refine wpName (fun W5 hW5 => ?_); obtain ⟨g9, hg9⟩ : ∃ g, g = wr.heap.size := ⟨_, rfl⟩; have hb5 : Below wr.heap.size wr W5 := (by rw [hW5]; exact below_setRow (below_alloc (Below.refl _ _) _) (Nat.le_refl _) _); have hr5 : EAt W5 g9 en := (by rw [hW5, hg9]; exact setRow_heap _ _ _ _ _ _ (blk_new wr _)); have H5 := Aside0.mk (show EAt W5 g9 en ∧ Below w.heap.size w W5 ∧ Kd.R kId 74 W5 w.heap.size (fun _ => True) u3 pre from ⟨hr5, below_step hI.out.1 hb5, Kd.R_below hI.out.2 hb5⟩); rw [← hg9]; clear hW5 hb5 hr5 hg9))
        | ((with_reducible refine gate_dst (N := 19) rfl ?_); refine Kd.event_run rfl (v := .agg (nums .u8 en.id).toArray) (w1 := W5) ?hr ?_; (case hr => exact exec_load_any W5 74 (.tmp 18) rfl ⟨g9, 2, none⟩ rfl (nums .u8 en.id) _ (fun j v hj => by rw [add_0, blk_cell H5.out.1, List.getElem?_toArray, Nat.add_comm]; exact hj) Tryd.underlying74 rfl (by rw [nums_length, HZ.out.2.1]; kernel_rfl)))
        | ((with_reducible refine gate_dst (N := 20) rfl ?_); refine Kd.event_run rfl (v := .slice (some ⟨W5.heap.size, 0, none⟩) 1 1) (w1 := W5.alloc (.cells (nums .u8 en.id).toArray 74)) ?hr ?_; (case hr => exact exec_buildS (.tmp 19) HZ.out.2.1 rfl rfl))
        | ((with_reducible refine gate_builtin (b := .append) (xs := #[.tmp 17, .tmp 20]) rfl ?_); at_builtin; go_loud ( refine Kd.R_append kId (w0 := w) (W := W5) w.heap.size ?q1 (.tmp 17) (.tmp 20) 54 74 (.agg zid) 32 ?q2 Tryd.underlying54 ?q3 ?q4 (by decide) (by decide) u3 pre en.id (nums .u8 en.id) (fun _ => True) (fun _ => False) ?q5 ?q6 ?aM (fun _ hk => hk.elim) ?aF ?aH ?aB ?aS ?aL ?_; (case q1 => rfl); (case q2 => rfl); (case q3 => exact info_kid); (case q4 => rfl); (case q5 => rfl); (case q6 => rfl); (case aH => exact H5.out.2.2); (case aM => exact (show Kd.M kId _ _ _ en.id (nums .u8 en.id) from ⟨rfl, by rw [nums_length]; exact HZ.out.2.1⟩)); (case aF => exact fun _ _ => trivial); (case aB => exact H5.out.2.1); (case aS => exact H5.out.2.1.size); (case aL => exact HL.out); intro v6 w6 ho6 hb6 hg6 _; have H6 := Aside0.mk (show Below w.heap.size w w6 ∧ Kd.R kId 74 w6 w.heap.size (fun _ => True) v6 (pre ++ [en.id]) from ⟨hb6, ho6⟩); clear ho6 hb6 hg6)))
      go_roundg (el - (i + 1))
      case measure => omega
      case rel => exact ⟨i + 1, by go_num, by omega, ⟨H6.out.1, by have h := H6.out.2; rw [HZ.out.2.2, List.map_append, ← List.append_assoc, ← HP.out]; exact h⟩⟩
    · have d1 : decide ((i : Int) < (el : Int)) = false := decide_eq_false (by omega)
      have HF := Aside0.mk (show Kd.R kId 74 wr w.heap.size (fun _ => True) u3 (belowM x) from by
        have h := hI.out.2
        rw [List.take_of_length_le (by have := HCS.out.2.2.1; omega)] at h
        exact h)
      go_wp2
      go_ret
      exact ⟨_, rfl, HF.out, hI.out.1⟩
end
end Go.Proofs.YtgjdcdhfijkoiaaDoor.Obj
end
section
namespace Go.Proofs.YtgjdcdhfijkoiaaDoor.Obj
open Go.RowKit Go.Proofs.YtgjdcdhfijkoiaaDoorW.PrintWords Go.Proofs.YtgjdcdhfijkoiaaDoorW.PrintLast Go.Proofs.YtgjdcdhfijkoiaaDoorW.PrintMore Go.Proofs.YtgjdcdhfijkoiaaDoor.Mem Go.Proofs.YtgjdcdhfijkoiaaDoor.Cod Go.Proofs.YtgjdcdhfijkoiaaDoor.PCod Go.Proofs.YtgjdcdhfijkoiaaDoor.Str Go.Proofs.YtgjdcdhfijkoiaaDoor.Open Go.Proofs.YtgjdcdhfijkoiaaDoor.Conv
set_option linter.unusedVariables false
set_option linter.unusedSimpArgs false
def oneO : OM := ⟨1, [120], 0, [], [], ByteArray.empty⟩
def id1 : List Int := 1 :: List.replicate 31 0
def snO : OM := ⟨4, [], 0, [id1], [], ByteArray.empty⟩
theorem aw_c : errC oneO = 0 := by kernel_rfl
theorem aw_p : putO oneO = [1, 1, 120] := by kernel_rfl
theorem aw_g : getO [1, 1, 120] = (oneO, 0) := by kernel_rfl
theorem aw_n : getO [9] = (zeroO, 11) := by kernel_rfl
theorem build_kb (W : World) (k : Int) (A : Option Addr) (n c : Nat) : (Instr.build 57 #[(0, .int .u8 k), (1, .slice A n c)]).run Tryd.prog W = .ok (.agg (ocells k 0 (.slice A n c) (.slice none 0 0) (.slice none 0 0) ByteArray.empty).toArray) W := by kernel_rfl
theorem build_ky (W : World) (k : Int) (A : Option Addr) (n c : Nat) : (Instr.build 57 #[(0, .int .u8 k), (3, .slice A n c)]).run Tryd.prog W = .ok (.agg (ocells k 0 (.slice none 0 0) (.slice A n c) (.slice none 0 0) ByteArray.empty).toArray) W := by kernel_rfl
theorem build_id1 (W : World) : (Instr.build 74 #[(0, .int .u8 1)]).run Tryd.prog W = .ok (.agg (nums .u8 id1).toArray) W := by kernel_rfl
theorem exec_b2 {o : Oper} {ev : Operand → Value} {W : World} {ty : TypeId} {i j : Nat} (x y : Operand) {u v r : Value} (h : (Instr.build ty #[(i, u), (j, v)]).run Tryd.prog W = .ok r W) (ho : o.op = .build ty #[(i, x), (j, y)]) (hx : ev x = u) (hy : ev y = v) : (execOp ev o).run Tryd.prog W = .ok (.value r) W := by
  unfold execOp
  simp [ho, hx, hy, h]
theorem exec_b1 {o : Oper} {ev : Operand → Value} {W : World} {ty : TypeId} {i : Nat} (x : Operand) {u r : Value} (h : (Instr.build ty #[(i, u)]).run Tryd.prog W = .ok r W) (ho : o.op = .build ty #[(i, x)]) (hx : ev x = u) : (execOp ev o).run Tryd.prog W = .ok (.value r) W := by
  unfold execOp
  simp [ho, hx, h]
theorem inO_one {w : World} {A : Option Addr} (h : Kd.C (Kd.int .u8) w A 1 [120]) : InO w oneO A none none :=
  ⟨h, Kd.C_nil _ _, Kd.C_nil _ _, fun x hx => by simp [oneO] at hx; omega, fun x h => (by cases h), fun x h => (by cases h), by decide, by decide, by decide, by decide, by decide⟩
theorem id1_byt : Byt id1 := by
  intro x hx
  unfold id1 at hx
  rcases List.mem_cons.1 hx with rfl | hx
  · omega
  · rw [List.eq_of_mem_replicate hx]; omega
theorem inO_sn {w : World} {Y : Option Addr} (h : Kd.C kId w Y 1 [id1]) : InO w snO none Y none :=
  ⟨Kd.C_nil _ _, h, Kd.C_nil _ _, fun x h => (by cases h), fun x hx => by rw [List.mem_singleton.1 hx]; exact id1_byt, fun x h => (by cases h), by decide, by decide, by decide, by decide, by decide⟩
set_option maxRecDepth 100000 in
set_option maxHeartbeats 8000000 in
theorem awake12_calls (w : World) : Calls Tryd.prog 28 #[] w fun e w' => e = .returned (.bool true) ∧ Below w.heap.size w w' := by
  have hqe : ∀ W : World, (Op.equalIn 10000 74 (.agg (nums .u8 id1).toArray) (.agg (nums .u8 id1).toArray)).run Tryd.prog W = .ok true W := fun W => by have h := eq_id id1 id1 rfl rfl W; simpa using h
  go_enter Tryd.func28, Tryd.ntmps28
  go_wp2_with (first
    | ((with_reducible refine gate_dst (N := 9) rfl ?_); go_loud (refine Kd.R_lit (Kd.int .u8) _ 5 ?hg (N := 9) ?hd (xs := ([120] : List Int)) (inner := [.int .u8 120]) (ok := fun k => w.heap.size ≤ k) (okp := fun _ => False) ?hr ?hp (fun _ hk => hk.elim) (Nat.le_refl _) (Below.refl _ _) (Nat.le_refl _) (by decide) ?_; (case hd => rfl); (case hg => rfl); (case hr => first | (go_simp; done) | (go_simp; rfl)); (case hp => exact Reps.one (show Kd.M (Kd.int .u8) _ _ _ 120 [.int .u8 120] from rfl) (Reps.none _ _)); intro v3 w3 ho3 hb3 hg3 hnew3; obtain ⟨A3, c3, rfl, hc3, _⟩ := Kd.R_reads ho3; have H3 := Aside0.mk (And.intro ho3 hb3); clear ho3 hb3 hg3 hnew3 hc3))
    | ((with_reducible refine gate_dst (N := 10) rfl ?_); go_loud (refine conv_event (w0 := w) (base := w.heap.size) rfl rfl Tryd.underlying27 Tryd.underlying5 rfl H3.out.1 (by decide) H3.out.2 (below_size H3.out.2) ?_; intro w4 hn4 hc4 hC4 hg4 hb4; have H4 := Aside0.mk (And.intro hC4 hb4); clear hn4 hc4 hC4 hg4 hb4))
    | ((with_reducible refine gate_dst (N := 11) rfl ?_); refine Kd.event_run rfl (v := .agg (ocells 1 0 (.slice A3 1 c3) (.slice none 0 0) (.slice none 0 0) ByteArray.empty).toArray) (w1 := w4) ?hr ?_; (case hr => exact exec_b2 (.const (.int .u8 1)) (.tmp 10) (build_kb w4 1 A3 1 c3) rfl rfl rfl))
    | (go_at_call 30; go_loud (have hx := oput_calls (w := w4) (x := oneO) (A := A3) (Y := none) (E := none) (bc := c3) (yc := 0) (ec := 0) rfl (inO_one H4.out.1); rw [aw_c, if_pos rfl, aw_p] at hx; refine hx.mono ?_; clear hx; rintro e w5 ⟨v5, rfl, hv5, hb5⟩; obtain ⟨Ap, cp, rfl, hcp, hCp⟩ := Kd.R_reads hv5; have H5 := Aside0.mk (show ([1, 1, 120] : List Int).length ≤ cp ∧ Kd.C (Kd.int .u8) w5 Ap ([1, 1, 120] : List Int).length [1, 1, 120] ∧ Below w.heap.size w w5 from ⟨hcp, hCp, below_step H4.out.2 hb5⟩); clear hv5 hb5 hcp hCp))
    | (go_at_call 35; have _t := H11; go_loud (clear _t; have hx := oget_calls (w := w11) (b := [9]) (A0 := A11) (c0 := c11) H11.out.2.1 H11.out.1 (by decide) (fun x hx => by simp at hx; omega); refine hx.mono ?_; clear hx; rintro e w12 ⟨cs12, A12, Y12, E12, b12, y12, e12, rfl, hov, hin, hb12⟩; rw [aw_n] at hov ⊢; have H12 := Aside0.mk (show OV cs12 zeroO A12 Y12 E12 b12 y12 e12 ∧ OB w12 g3 oneO A6 Y6 E6 b6 y6 e6 ∧ Kd.C (Kd.int .u8) w12 A6 1 [120] ∧ Kd.C (Kd.int .u8) w12 Ap ([1, 1, 120] : List Int).length [1, 1, 120] ∧ Below w.heap.size w w12 from ⟨hov, H11.out.2.2.1.below hb12, Kd.C_below H11.out.2.2.2.1 hb12, Kd.C_below H11.out.2.2.2.2.1 hb12, below_step H11.out.2.2.2.2.2 hb12⟩); clear hov hin hb12))
    | (go_at_call 35; go_loud (have hx := oget_calls (w := w5) (b := [1, 1, 120]) (A0 := Ap) (c0 := cp) H5.out.2.1 H5.out.1 (by decide) (fun x hx => by simp at hx; omega); refine hx.mono ?_; clear hx; rintro e w6 ⟨cs6, A6, Y6, E6, b6, y6, e6, rfl, hov, hin, hb6⟩; rw [aw_g] at hov hin ⊢; have H6 := Aside0.mk (show OV cs6 oneO A6 Y6 E6 b6 y6 e6 ∧ Kd.C (Kd.int .u8) w6 A6 1 [120] ∧ Kd.C (Kd.int .u8) w6 Ap ([1, 1, 120] : List Int).length [1, 1, 120] ∧ Below w.heap.size w w6 from ⟨hov, hin.bC, Kd.C_below H5.out.2.1 hb6, below_step H5.out.2.2 hb6⟩); clear hov hin hb6))
    | ((with_reducible refine gate_dst (N := 3) rfl ?_); refine Kd.event_run rfl (v := .pointer (some ⟨w6.heap.size, 0, none⟩)) (w1 := w6.alloc (.cells oz 57)) ?hr ?_; (case hr => first | kernel_rfl | (go_simp; done) | (go_simp; rfl)); go_loud (refine wpName (fun w7 hw7 => ?_); obtain ⟨g3, hg3⟩ : ∃ z, z = w6.heap.size := ⟨_, rfl⟩; have H7 := Aside0.mk (show w7.heap[g3]? = some (.cells oz 57 (0, 0)) ∧ Below w6.heap.size w6 w7 ∧ g3 = w6.heap.size from ⟨by rw [hw7, hg3]; exact blk_new w6 _, by rw [hw7]; exact below_alloc (Below.refl _ _) _, hg3⟩); rw [← hg3]; clear hw7 hg3))
    | ((with_reducible refine gate_store (ty := 57) (x := .tmp 3) (y := .tmp 18) rfl ?_); go_loud (refine wpList_store_row rfl 57 (.tmp 3) (.tmp 18) rfl g3 cs6 rfl rfl 57 oz H7.out.1 (ov_all H6.out.1).1 (ov_all H6.out.1).2.1 (ov_all H6.out.1).2.2 ?_; refine wpName (fun w8 hw8 => ?_); have hb8 : Below w6.heap.size w6 w8 := (by rw [hw8]; exact below_setRow H7.out.2.1 (by rw [H7.out.2.2]; exact Nat.le_refl _) _); have H8 := Aside0.mk (show OB w8 g3 oneO A6 Y6 E6 b6 y6 e6 ∧ Kd.C (Kd.int .u8) w8 A6 1 [120] ∧ Kd.C (Kd.int .u8) w8 Ap ([1, 1, 120] : List Int).length [1, 1, 120] ∧ Below w.heap.size w w8 from ⟨OB.of H6.out.1 (by rw [hw8]; exact setRow_heap _ _ _ _ _ _ H7.out.1), Kd.C_below H6.out.2.1 hb8, Kd.C_below H6.out.2.2.1 hb8, below_step H6.out.2.2.2 hb8⟩); clear hw8 hb8))
    | ((with_reducible refine gate_dst (N := 21) rfl ?_); go_loud (refine Kd.R_lit (Kd.int .u8) _ 5 ?hg (N := 21) ?hd (xs := ([9] : List Int)) (inner := [.int .u8 9]) (ok := fun k => True) (okp := fun _ => False) ?hr ?hp (fun _ hk => hk.elim) trivial (Below.refl _ _) (Nat.le_refl _) (by decide) ?_; (case hd => rfl); (case hg => rfl); (case hr => first | (go_simp; done) | (go_simp; rfl)); (case hp => exact Reps.one (show Kd.M (Kd.int .u8) _ _ _ 9 [.int .u8 9] from rfl) (Reps.none _ _)); intro v11 w11 ho11 hb11 hg11 hnew11; obtain ⟨A11, c11, rfl, hc11, hC11⟩ := Kd.R_reads ho11; have H11 := Aside0.mk (show ([9] : List Int).length ≤ c11 ∧ Kd.C (Kd.int .u8) w11 A11 ([9] : List Int).length [9] ∧ OB w11 g3 oneO A6 Y6 E6 b6 y6 e6 ∧ Kd.C (Kd.int .u8) w11 A6 1 [120] ∧ Kd.C (Kd.int .u8) w11 Ap ([1, 1, 120] : List Int).length [1, 1, 120] ∧ Below w.heap.size w w11 from ⟨hc11, hC11, H8.out.1.below hb11, Kd.C_below H8.out.2.1 hb11, Kd.C_below H8.out.2.2.1 hb11, below_step H8.out.2.2.2 hb11⟩); clear ho11 hb11 hg11 hnew11 hc11 hC11))
    | ((with_reducible refine gate_dst (N := 5) rfl ?_); refine Kd.event_run rfl (v := .pointer (some ⟨w12.heap.size, 0, none⟩)) (w1 := w12.alloc (.cells oz 57)) ?hr ?_; (case hr => first | kernel_rfl | (go_simp; done) | (go_simp; rfl)); go_loud (refine wpName (fun w13 hw13 => ?_); obtain ⟨g5, hg5⟩ : ∃ z, z = w12.heap.size := ⟨_, rfl⟩; have H13 := Aside0.mk (show w13.heap[g5]? = some (.cells oz 57 (0, 0)) ∧ Below w12.heap.size w12 w13 ∧ g5 = w12.heap.size from ⟨by rw [hw13, hg5]; exact blk_new w12 _, by rw [hw13]; exact below_alloc (Below.refl _ _) _, hg5⟩); rw [← hg5]; clear hw13 hg5))
    | ((with_reducible refine gate_store (ty := 57) (x := .tmp 5) (y := .tmp 23) rfl ?_); go_loud (refine wpList_store_row rfl 57 (.tmp 5) (.tmp 23) rfl g5 cs12 rfl rfl 57 oz H13.out.1 (ov_all H12.out.1).1 (ov_all H12.out.1).2.1 (ov_all H12.out.1).2.2 ?_; refine wpName (fun w14 hw14 => ?_); have hb14 : Below w12.heap.size w12 w14 := (by rw [hw14]; exact below_setRow H13.out.2.1 (by rw [H13.out.2.2]; exact Nat.le_refl _) _); have H14 := Aside0.mk (show OB w14 g3 oneO A6 Y6 E6 b6 y6 e6 ∧ Kd.C (Kd.int .u8) w14 A6 1 [120] ∧ Kd.C (Kd.int .u8) w14 Ap ([1, 1, 120] : List Int).length [1, 1, 120] ∧ Below w.heap.size w w14 from ⟨H12.out.2.1.below hb14, Kd.C_below H12.out.2.2.1 hb14, Kd.C_below H12.out.2.2.2.1 hb14, below_step H12.out.2.2.2.2 hb14⟩); clear hw14 hb14))
    | ((with_reducible refine gate_dst (N := 25) rfl ?_); refine Kd.event_run rfl (v := .agg (nums .u8 id1).toArray) (w1 := w14) ?hr ?_; (case hr => exact exec_b1 (.const (.int .u8 1)) (build_id1 w14) rfl rfl))
    | ((with_reducible refine gate_dst (N := 26) rfl ?_); refine Kd.event_run rfl (v := .slice (some ⟨w14.heap.size, 0, none⟩) 1 1) (w1 := w14.alloc (.cells (nums .u8 id1).toArray 74)) ?hr ?_; (case hr => exact exec_buildS (.tmp 25) rfl rfl rfl); go_loud (refine wpName (fun w15 hw15 => ?_); have hb15 : Below w14.heap.size w14 w15 := (by rw [hw15]; exact below_alloc (Below.refl _ _) _); have H15 := Aside0.mk (show Kd.C kId w15 (some ⟨w14.heap.size, 0, none⟩) 1 [id1] ∧ OB w15 g3 oneO A6 Y6 E6 b6 y6 e6 ∧ Kd.C (Kd.int .u8) w15 A6 1 [120] ∧ Kd.C (Kd.int .u8) w15 Ap ([1, 1, 120] : List Int).length [1, 1, 120] ∧ Below w.heap.size w w15 from ⟨one_id (by rw [hw15]; exact blk_new w14 _) rfl, H14.out.1.below hb15, Kd.C_below H14.out.2.1 hb15, Kd.C_below H14.out.2.2.1 hb15, below_step H14.out.2.2.2 hb15⟩); clear hw15 hb15))
    | ((with_reducible refine gate_dst (N := 27) rfl ?_); refine Kd.event_run rfl (v := .agg (ocells 4 0 (.slice none 0 0) (.slice (some ⟨w14.heap.size, 0, none⟩) 1 1) (.slice none 0 0) ByteArray.empty).toArray) (w1 := w15) ?hr ?_; (case hr => exact exec_b2 (.const (.int .u8 4)) (.tmp 26) (build_ky w15 4 (some ⟨w14.heap.size, 0, none⟩) 1 1) rfl rfl rfl))
    | (go_at_call 38; go_loud (have hx := obelow_calls (w := w15) (x := snO) (A := none) (Y := some ⟨w14.heap.size, 0, none⟩) (E := none) (bc := 0) (yc := 1) (ec := 0) rfl (inO_sn H15.out.1) (by decide) (by decide); rw [show belowM snO = [id1] from rfl] at hx; refine hx.mono ?_; clear hx; rintro e w16 ⟨v16, rfl, hv16, hb16⟩; obtain ⟨A16, c16, rfl, hc16, hC16⟩ := Kd.R_reads hv16; obtain ⟨ad, e16, _, hcell⟩ := at_id hC16 (i := 0) (by decide); cases e16; have H16 := Aside0.mk (show (∀ (j : Nat) (v : Value), (nums .u8 id1)[j]? = some v → w16.cell? (ad.add (0 * 32 + j)) = some v) ∧ Below w.heap.size w w16 from ⟨hcell, below_step H15.out.2.2.2.2 hb16⟩); obtain ⟨_, a1, _, _, _, _⟩ := (H15.out.2.1.below hb16).cells; rw [show oneO.b.length = 1 from rfl] at a1; have hcv1 := conv_row (c := cp) (n := 3) rfl (Kd.C_below H15.out.2.2.2.1 hb16) (Below.refl _ _); have hcv2 := conv_row (c := b6) (n := 1) rfl (Kd.C_below H15.out.2.2.1 hb16) (Below.refl _ _); rw [show S [1, 1, 120] = ⟨#[1, 1, 120]⟩ by kernel_rfl] at hcv1; rw [show S [120] = ⟨#[120]⟩ by kernel_rfl] at hcv2; clear hv16 hb16 hc16 hC16 hcell))
    | ((with_reducible refine gate_dst (N := 58) rfl ?_); (try (refine gate_guard (by rfl) ?_; dsimp only)); refine Kd.event_run rfl (v := .agg (nums .u8 id1).toArray) (w1 := w16) ?hr ?_; (case hr => exact exec_load_any w16 74 (.tmp 57) rfl ad rfl (nums .u8 id1) _ (fun j v hj => by have h := H16.out.1 j v hj; rw [Nat.zero_mul, Nat.zero_add] at h; exact h) Tryd.underlying74 rfl (by kernel_rfl)))
    | ((with_reducible refine gate_dst (N := 59) rfl ?_); (try (refine gate_guard (by rfl) ?_; dsimp only)); refine Kd.event_run rfl (v := .agg (nums .u8 id1).toArray) (w1 := w16) ?hr ?_; (case hr => exact exec_b1 (.const (.int .u8 1)) (build_id1 w16) rfl rfl)))
  go_ret
  exact ⟨rfl, H16.out.2⟩
end Go.Proofs.YtgjdcdhfijkoiaaDoor.Obj
end
section
namespace Go.Proofs.YtgjdcdhfijkoiaaDoor.Obj
open Go.RowKit Go.Proofs.YtgjdcdhfijkoiaaDoorW.PrintWords Go.Proofs.YtgjdcdhfijkoiaaDoorW.PrintLast Go.Proofs.YtgjdcdhfijkoiaaDoorW.PrintMore Go.Proofs.YtgjdcdhfijkoiaaDoor.Mem Go.Proofs.YtgjdcdhfijkoiaaDoor.Cod Go.Proofs.YtgjdcdhfijkoiaaDoor.PCod Go.Proofs.YtgjdcdhfijkoiaaDoor.Str Go.Proofs.YtgjdcdhfijkoiaaDoor.Open
set_option linter.unusedVariables false
set_option linter.unusedSimpArgs false
def sumGo : Int → List EM → Int
  | n, [] => n
  | n, e :: r => sumGo (wrap64 (n + (e.nm.size : Int))) r
def smallM (x : OM) : Bool := decide (sumGo (wrap64 ((x.b.length : Int) + (x.s.size : Int))) x.es ≤ 1000) && decide ((x.ids.length : Int) ≤ 40) && decide ((x.es.length : Int) ≤ 40)
section
variable {w : World} {x : OM} {cs : Array Value} {A Y E : Option Addr} {bc yc ec : Nat}
end
end Go.Proofs.YtgjdcdhfijkoiaaDoor.Obj
end
