/- The walk of 'has'. -/
import Derived.Test.YtlcanfniphdelaaDoorHas
import Derived.Test.YtlcanfniphdelaaDoorOpen
namespace Go.Proofs.YtlcanfniphdelaaDoor.Not
open Go.RowKit Go.Maps Go.Proofs.YtlcanfniphdelaaDoorW.PrintWords Go.Proofs.YtlcanfniphdelaaDoorW.PrintLast Go.Proofs.YtlcanfniphdelaaDoorW.PrintMore Go.Proofs.YtlcanfniphdelaaDoor.Mem Go.Proofs.YtlcanfniphdelaaDoor.Cod Go.Proofs.YtlcanfniphdelaaDoor.Ins Go.Proofs.YtlcanfniphdelaaDoor.Open
set_option linter.unusedVariables false
set_option linter.unusedSimpArgs false
set_option maxRecDepth 8000
set_option maxHeartbeats 2000000
section
variable {w : World}
/-- A note's cells. -/
def ncells (k n o : Int) (p : List Int) (vB vY : Value) : List Value := .int .i64 k :: (nums .u8 p ++ [.int .u64 n, .int .u64 o, vB, vY])
def NoteAt (w : World) (b : Nat) (k n o : Int) (p : List Int) (vB vY : Value) : Prop := w.heap[b]? = some (.cells (ncells k n o p vB vY).toArray 28 (0, 0))
theorem NoteAt.below {w w' : World} {b : Nat} {k n o : Int} {p : List Int} {vB vY : Value} (h : NoteAt w b k n o p vB vY) (hb : Below w.heap.size w w') : NoteAt w' b k n o p vB vY := (hb.block _ (blk_lt h)).trans h
theorem NoteAt.cells {b : Nat} {k n o : Int} {p : List Int} {vB vY : Value} (h : NoteAt w b k n o p vB vY) (hp : p.length = 32) :
    w.cell? ⟨b, 0, none⟩ = some (.int .i64 k) ∧ w.cell? ⟨b, 33, none⟩ = some (.int .u64 n) ∧ w.cell? ⟨b, 34, none⟩ = some (.int .u64 o) ∧ w.cell? ⟨b, 35, none⟩ = some vB ∧ w.cell? ⟨b, 36, none⟩ = some vY ∧ ∀ (j : Nat) (v : Value), (nums .u8 p)[j]? = some v → w.cell? ⟨b, 1 + j, none⟩ = some v := by
  have hn : (nums .u8 p).length = 32 := by rw [nums_length, hp]
  have hg : ∀ j, w.cell? ⟨b, j, none⟩ = (ncells k n o p vB vY)[j]? := fun j => by rw [blk_cell h j]; simp
  have ht : ∀ j, 32 ≤ j → (ncells k n o p vB vY)[j + 1]? = [Value.int .u64 n, .int .u64 o, vB, vY][j - 32]? := fun j hj => by
    show (nums .u8 p ++ _)[j]? = _
    rw [List.getElem?_append_right (by omega), hn]
  refine ⟨by rw [hg]; rfl, by rw [hg, ht 32 (by omega)]; rfl, by rw [hg, ht 33 (by omega)]; rfl, by rw [hg, ht 34 (by omega)]; rfl, by rw [hg, ht 35 (by omega)]; rfl, fun j v hv => ?_⟩
  rw [hg, show 1 + j = j + 1 by omega]
  show (nums .u8 p ++ _)[j]? = _
  rw [List.getElem?_append_left (by by_cases hj : j < (nums .u8 p).length; exact hj; rw [List.getElem?_eq_none (by omega)] at hv; cases hv)]
  exact hv
theorem exec_box {P : Program} {o : Oper} {ev : Operand → Value} (W : World) (ty : TypeId) (x : Operand) (ho : o.op = .box ty x) (cs : Array Value) (hx : ev x = .agg cs) : (execOp ev o).run P W = .ok (.value (.pointer (some ⟨W.heap.size, 0, none⟩))) (W.alloc (.cells cs ty)) := by
  unfold execOp
  simp [ho, hx, Instr.box, newVar, newRow, newObj, Value.cells, Sem.run]
def accB (a b c d e : Bool) : Int := (if a then 1 else 0) + (if b then 2 else 0) + (if c then 4 else 0) + (if d then 8 else 0) + (if e then 16 else 0)
def vOf (a b c d e : Bool) (i : Nat) : Bool := if i = 5 then a else if i = 9 then b else if i = 13 then c else if i = 18 then d else e
/-- The map literal under way. -/
def HasM (w0 : World) (bm : Nat) (a b c d e : Bool) (J : List Nat) (w : World) : Prop := ∃ D : DataW Unit, w.ownsMap Tryd.prog 3 (plainElem Tryd.prog 4) bm (5 - J.length) D ∧ MD (vOf a b c d e) J D ∧ Below w0.heap.size w0 w ∧ w0.heap.size ≤ bm
theorem keyed : Keyed Tryd.prog 3 := int_keyed Tryd.underlying3
def subsOf : List Nat → List (List Nat)
  | [] => [[]]
  | a :: r => subsOf r ++ (subsOf r).map (a :: ·)
def subs : List (List Nat) := subsOf alls
def lay (J : List Nat) : Array Bool := ((List.range 26).map fun i => !(J.contains i || i == 24 || i == 25)).toArray
theorem add_p (b o j : Nat) : (⟨b, o, none⟩ : Addr).add j = ⟨b, o + j, none⟩ := by unfold Addr.add; split <;> simp_all
theorem subs_ok : ∀ J ∈ subs, J.Nodup ∧ J.length ≤ 5 ∧ ∀ i ∈ J, i ∈ alls := by decide
theorem HasM.step {w0 w : World} {bm : Nat} {a b c d e : Bool} {J : List Nat} (h : HasM w0 bm a b c d e J w) (hJ : J ∈ subs) {i : Nat} (hi : i ∈ J) :
    ∃ w1, (Instr.mapUpdate 82 (.map (some bm)) (.int .i64 (keyN i)) (.bool (vOf a b c d e i))).run Tryd.prog w = .ok () w1 ∧ HasM w0 bm a b c d e (J.erase i) w1 ∧ w.grownBy w1 (some bm) := by
  obtain ⟨D, h1, h2, h3, h4⟩ := h
  obtain ⟨hn, hl, ha⟩ := subs_ok J hJ
  have hlt : 1 ≤ J.length := List.length_pos_of_mem hi
  obtain ⟨w1, hr, ho, hg⟩ := h1.update (t := 82) (e := 4) keyed Tryd.underlying82 (by unfold maxLen; omega) (keyOf_int_mk Tryd.underlying3 (key_wf i (ha i hi))) (plainElem_bool Tryd.underlying4 (vOf a b c d e i))
  refine ⟨w1, hr, ⟨_, ?_, h2.put hn hi (ha i hi), h3.grown hg h3.size (fun k e => by cases e; exact h4), h4⟩, hg⟩
  rw [List.length_erase_of_mem hi]
  exact ho.mono (by omega)
def accL (v : Nat → Bool) (left : Lit → Bool) : Int := accB (!left (keyL 5) && v 5) (!left (keyL 9) && v 9) (!left (keyL 13) && v 13) (!left (keyL 18) && v 18) (!left (keyL 23) && v 23)
theorem same_key : ∀ j ∈ alls, ∀ i ∈ alls, (keyL j).sameKey (keyL i) = (j == i) := by decide
theorem acc_1 : ∀ b c d e : Bool, bits .or .i64 (accB false b c d e) 1 = accB true b c d e := by decide +kernel
theorem acc_2 : ∀ a c d e : Bool, bits .or .i64 (accB a false c d e) 2 = accB a true c d e := by decide +kernel
theorem acc_3 : ∀ a b d e : Bool, bits .or .i64 (accB a b false d e) 4 = accB a b true d e := by decide +kernel
theorem acc_4 : ∀ a b c e : Bool, bits .or .i64 (accB a b c false e) 8 = accB a b c true e := by decide +kernel
theorem acc_5 : ∀ a b c d : Bool, bits .or .i64 (accB a b c d false) 16 = accB a b c d true := by decide +kernel
theorem accL_step (v : Nat → Bool) (left : Lit → Bool) (i : Nat) (hi : i ∈ alls) (hl : left (keyL i) = true) :
    (v i = true → bits .or .i64 (accL v left) (keyN i) = accL v (fun z => left z && !z.sameKey (keyL i))) ∧ (v i = false → accL v left = accL v (fun z => left z && !z.sameKey (keyL i))) := by
  unfold accL
  simp only [same_key 5 (by decide) i hi, same_key 9 (by decide) i hi, same_key 13 (by decide) i hi, same_key 18 (by decide) i hi, same_key 23 (by decide) i hi]
  simp only [alls, List.mem_cons, List.not_mem_nil, or_false] at hi
  rcases hi with rfl | rfl | rfl | rfl | rfl
  · refine ⟨fun h => ?_, fun h => ?_⟩ <;> simp [hl, h]
    exact acc_1 _ _ _ _
  · refine ⟨fun h => ?_, fun h => ?_⟩ <;> simp [hl, h]
    exact acc_2 _ _ _ _
  · refine ⟨fun h => ?_, fun h => ?_⟩ <;> simp [hl, h]
    exact acc_3 _ _ _ _
  · refine ⟨fun h => ?_, fun h => ?_⟩ <;> simp [hl, h]
    exact acc_4 _ _ _ _
  · refine ⟨fun h => ?_, fun h => ?_⟩ <;> simp [hl, h]
    exact acc_5 _ _ _ _
theorem plainElem_bool_inv {H : Type} {P : Program} {e : TypeId} (he : P.underlying e = some .bool) {v : Value} {z : DataW H × List MemPlace} (h : plainElem P e v = some z) : ∃ c, v = .bool c ∧ z = (.lit (.bool c), []) := by
  unfold plainElem at h
  rw [he] at h
  cases v <;> simp at h
  exact ⟨_, rfl, h.symm⟩
/-- The range under way. -/
def HasL (w0 : World) (bm rm : Nat) (v : Nat → Bool) (left : Lit → Bool) (cnt : Nat) (wr : World) : Prop := ∃ D : DataW Unit, wr.ranges Tryd.prog 3 (plainElem Tryd.prog 4) bm rm 5 D left cnt ∧ (∀ i ∈ alls, ∀ z, D.atKey (keyL i) z = .lit (.bool (v i))) ∧ (∀ kl, left kl = true → ∃ i ∈ alls, kl = keyL i) ∧ Below w0.heap.size w0 wr ∧ w0.heap.size ≤ rm
theorem has_calls (k n o : Int) (p : List Int) (hp : p.length = 32) (A : Option Addr) (bl bc : Nat) (Y : Option Addr) (yl yc : Nat) :
    Calls Tryd.prog 29 #[.agg (ncells k n o p (.slice A bl bc) (.slice Y yl yc)).toArray] w fun e w' => e = .returned (.int .i64 (accB (p != List.replicate 32 0) (n != 0) (o != 0) (decide (0 < bl)) (decide (0 < yl)))) ∧ Below w.heap.size w w' := by
  obtain ⟨cs, hcs⟩ : ∃ cs, cs = (ncells k n o p (.slice A bl bc) (.slice Y yl yc)).toArray := ⟨_, rfl⟩
  rw [← hcs]
  have HCS := Aside0.mk hcs
  clear hcs
  go_enter Tryd.func29, Tryd.ntmps29
  go_upto_region 2 with (first | ((with_reducible refine gate_dst (N := 1) rfl ?_); refine box_event ?hg (N := 1) ?hd (cs := cs) (t := 28) ?hr ?_; (case hd => rfl); (case hg => rfl); (case hr => exact exec_box _ _ _ rfl cs rfl); intro gb hgb w1 hbox hb1; have H1 := Aside0.mk (And.intro (show NoteAt w1 gb k n o p (.slice A bl bc) (.slice Y yl yc) by rw [HCS.out] at hbox; exact hbox) hb1); clear hbox hb1 hgb))
  obtain ⟨wd, hwd⟩ : ∃ wd, wd = w1.drew := ⟨_, rfl⟩
  have hbd : Below w1.heap.size w1 wd := by rw [hwd]; exact below_drew1 (Below.refl _ _)
  have HD := Aside0.mk (And.intro (H1.out.1.below hbd) (below_step H1.out.2 hbd))
  clear hbd H1
  obtain ⟨z, hz⟩ : ∃ z, z = (p == List.replicate 32 0) := ⟨_, rfl⟩
  have HZ := Aside0.mk hz
  clear hz
  have hq0 : ∀ W : World, (Op.equalIn 10000 23 (.agg (nums .u8 p).toArray) (.agg #[.int .u8 0, .int .u8 0, .int .u8 0, .int .u8 0, .int .u8 0, .int .u8 0, .int .u8 0, .int .u8 0, .int .u8 0, .int .u8 0, .int .u8 0, .int .u8 0, .int .u8 0, .int .u8 0, .int .u8 0, .int .u8 0, .int .u8 0, .int .u8 0, .int .u8 0, .int .u8 0, .int .u8 0, .int .u8 0, .int .u8 0, .int .u8 0, .int .u8 0, .int .u8 0, .int .u8 0, .int .u8 0, .int .u8 0, .int .u8 0, .int .u8 0, .int .u8 0])).run Tryd.prog W = .ok z W := fun W => by
    rw [HZ.out]
    have h := eq_id p (List.replicate 32 0) hp (by simp) W
    rw [zid_cells] at h
    exact h
  refine start_ (n := 26) (S := fun w' => NoteAt w' gb k n o p (.slice A bl bc) (.slice Y yl yc)) (ds := []) #[false, false, false, false, false, false, false, false, false, false, false, false, false, false, false, false, false, false, false, false, false, false, false, false, false, false] (by kernel_rfl) rfl (by kernel_rfl) (by rw [← hwd]; exact HD.out.1) (fun hHeld => ?_)
  rw [← hwd] at hHeld ⊢
  clear hwd
  refine pure_ (i := 1) (N := some 7) (v := ?_) (a' := ?_) #[false, true, false, false, false, false, false, false, false, false, false, false, false, false, false, false, false, false, false, false, false, false, false, false, false, false] rfl rfl (by kernel_rfl) (fun _ _ _ h => h) (Or.inl ⟨by rfl, ?_⟩) ?_ ?_
  rotate_left
  · intro w'
    go_simp
    with_reducible rfl
  rotate_left
  · simp only [Act.put, List.setIfInBounds_toArray, List.set_cons_zero, List.set_cons_succ, i64_w, i32_w]
    rfl
  refine pure_ (i := 3) (N := some 9) (v := ?_) (a' := ?_) #[false, true, false, true, false, false, false, false, false, false, false, false, false, false, false, false, false, false, false, false, false, false, false, false, false, false] rfl rfl (by kernel_rfl) (fun _ _ _ h => h) (Or.inl ⟨by rfl, ?_⟩) ?_ ?_
  rotate_left
  · intro w'
    go_simp
    with_reducible rfl
  rotate_left
  · simp only [Act.put, List.setIfInBounds_toArray, List.set_cons_zero, List.set_cons_succ, i64_w, i32_w]
    rfl
  refine pure_ (i := 6) (N := some 11) (v := ?_) (a' := ?_) #[false, true, false, true, false, false, true, false, false, false, false, false, false, false, false, false, false, false, false, false, false, false, false, false, false, false] rfl rfl (by kernel_rfl) (fun _ _ _ h => h) (Or.inl ⟨by rfl, ?_⟩) ?_ ?_
  rotate_left
  · intro w'
    go_simp
    with_reducible rfl
  rotate_left
  · simp only [Act.put, List.setIfInBounds_toArray, List.set_cons_zero, List.set_cons_succ, i64_w, i32_w]
    rfl
  refine take_ (i := 7) (N := some 12) (v := ?_) (a' := ?_) #[false, true, false, true, false, false, true, true, false, false, false, false, false, false, false, false, false, false, false, false, false, false, false, false, false, false] rfl rfl (by kernel_rfl) (fun _ _ _ h => h) (Or.inl ⟨by rfl, ?_⟩) hHeld ?_ ?_
  rotate_left
  · rintro w' s0
    obtain ⟨a0, a1, a2, a3, a4, a5⟩ := NoteAt.cells s0 hp
    go_simp
    with_reducible rfl
  rotate_left
  · simp only [Act.put, List.setIfInBounds_toArray, List.set_cons_zero, List.set_cons_succ, i64_w, i32_w]
    rfl
  refine pure_ (i := 8) (N := some 13) (v := ?_) (a' := ?_) #[false, true, false, true, false, false, true, true, true, false, false, false, false, false, false, false, false, false, false, false, false, false, false, false, false, false] rfl rfl (by kernel_rfl) (fun _ _ _ h => h) (Or.inl ⟨by rfl, ?_⟩) ?_ ?_
  rotate_left
  · intro w'
    go_simp
    with_reducible rfl
  rotate_left
  · simp only [Act.put, List.setIfInBounds_toArray, List.set_cons_zero, List.set_cons_succ, i64_w, i32_w]
    rfl
  refine pure_ (i := 10) (N := some 14) (v := ?_) (a' := ?_) #[false, true, false, true, false, false, true, true, true, false, true, false, false, false, false, false, false, false, false, false, false, false, false, false, false, false] rfl rfl (by kernel_rfl) (fun _ _ _ h => h) (Or.inl ⟨by rfl, ?_⟩) ?_ ?_
  rotate_left
  · intro w'
    go_simp
    with_reducible rfl
  rotate_left
  · simp only [Act.put, List.setIfInBounds_toArray, List.set_cons_zero, List.set_cons_succ, i64_w, i32_w]
    rfl
  refine take_ (i := 11) (N := some 15) (v := ?_) (a' := ?_) #[false, true, false, true, false, false, true, true, true, false, true, true, false, false, false, false, false, false, false, false, false, false, false, false, false, false] rfl rfl (by kernel_rfl) (fun _ _ _ h => h) (Or.inl ⟨by rfl, ?_⟩) hHeld ?_ ?_
  rotate_left
  · rintro w' s0
    obtain ⟨a0, a1, a2, a3, a4, a5⟩ := NoteAt.cells s0 hp
    go_simp
    with_reducible rfl
  rotate_left
  · simp only [Act.put, List.setIfInBounds_toArray, List.set_cons_zero, List.set_cons_succ, i64_w, i32_w]
    rfl
  refine pure_ (i := 12) (N := some 16) (v := ?_) (a' := ?_) #[false, true, false, true, false, false, true, true, true, false, true, true, true, false, false, false, false, false, false, false, false, false, false, false, false, false] rfl rfl (by kernel_rfl) (fun _ _ _ h => h) (Or.inl ⟨by rfl, ?_⟩) ?_ ?_
  rotate_left
  · intro w'
    go_simp
    with_reducible rfl
  rotate_left
  · simp only [Act.put, List.setIfInBounds_toArray, List.set_cons_zero, List.set_cons_succ, i64_w, i32_w]
    rfl
  refine pure_ (i := 14) (N := some 17) (v := ?_) (a' := ?_) #[false, true, false, true, false, false, true, true, true, false, true, true, true, false, true, false, false, false, false, false, false, false, false, false, false, false] rfl rfl (by kernel_rfl) (fun _ _ _ h => h) (Or.inl ⟨by rfl, ?_⟩) ?_ ?_
  rotate_left
  · intro w'
    go_simp
    with_reducible rfl
  rotate_left
  · simp only [Act.put, List.setIfInBounds_toArray, List.set_cons_zero, List.set_cons_succ, i64_w, i32_w]
    rfl
  refine take_ (i := 15) (N := some 18) (v := ?_) (a' := ?_) #[false, true, false, true, false, false, true, true, true, false, true, true, true, false, true, true, false, false, false, false, false, false, false, false, false, false] rfl rfl (by kernel_rfl) (fun _ _ _ h => h) (Or.inl ⟨by rfl, ?_⟩) hHeld ?_ ?_
  rotate_left
  · rintro w' s0
    obtain ⟨a0, a1, a2, a3, a4, a5⟩ := NoteAt.cells s0 hp
    go_simp
    with_reducible rfl
  rotate_left
  · simp only [Act.put, List.setIfInBounds_toArray, List.set_cons_zero, List.set_cons_succ, i64_w, i32_w]
    rfl
  refine pure_ (i := 16) (N := some 19) (v := ?_) (a' := ?_) #[false, true, false, true, false, false, true, true, true, false, true, true, true, false, true, true, true, false, false, false, false, false, false, false, false, false] rfl rfl (by kernel_rfl) (fun _ _ _ h => h) (Or.inl ⟨by rfl, ?_⟩) ?_ ?_
  rotate_left
  · intro w'
    go_simp
    with_reducible rfl
  rotate_left
  · simp only [Act.put, List.setIfInBounds_toArray, List.set_cons_zero, List.set_cons_succ, i64_w, i32_w]
    rfl
  refine pure_ (i := 17) (N := some 20) (v := ?_) (a' := ?_) #[false, true, false, true, false, false, true, true, true, false, true, true, true, false, true, true, true, true, false, false, false, false, false, false, false, false] rfl rfl (by kernel_rfl) (fun _ _ _ h => h) (Or.inl ⟨by rfl, ?_⟩) ?_ ?_
  rotate_left
  · intro w'
    go_simp
    with_reducible rfl
  rotate_left
  · simp only [Act.put, List.setIfInBounds_toArray, List.set_cons_zero, List.set_cons_succ, i64_w, i32_w]
    rfl
  refine pure_ (i := 19) (N := some 21) (v := ?_) (a' := ?_) #[false, true, false, true, false, false, true, true, true, false, true, true, true, false, true, true, true, true, false, true, false, false, false, false, false, false] rfl rfl (by kernel_rfl) (fun _ _ _ h => h) (Or.inl ⟨by rfl, ?_⟩) ?_ ?_
  rotate_left
  · intro w'
    go_simp
    with_reducible rfl
  rotate_left
  · simp only [Act.put, List.setIfInBounds_toArray, List.set_cons_zero, List.set_cons_succ, i64_w, i32_w]
    rfl
  refine take_ (i := 20) (N := some 22) (v := ?_) (a' := ?_) #[false, true, false, true, false, false, true, true, true, false, true, true, true, false, true, true, true, true, false, true, true, false, false, false, false, false] rfl rfl (by kernel_rfl) (fun _ _ _ h => h) (Or.inl ⟨by rfl, ?_⟩) hHeld ?_ ?_
  rotate_left
  · rintro w' s0
    obtain ⟨a0, a1, a2, a3, a4, a5⟩ := NoteAt.cells s0 hp
    go_simp
    with_reducible rfl
  rotate_left
  · simp only [Act.put, List.setIfInBounds_toArray, List.set_cons_zero, List.set_cons_succ, i64_w, i32_w]
    rfl
  refine pure_ (i := 21) (N := some 23) (v := ?_) (a' := ?_) #[false, true, false, true, false, false, true, true, true, false, true, true, true, false, true, true, true, true, false, true, true, true, false, false, false, false] rfl rfl (by kernel_rfl) (fun _ _ _ h => h) (Or.inl ⟨by rfl, ?_⟩) ?_ ?_
  rotate_left
  · intro w'
    go_simp
    with_reducible rfl
  rotate_left
  · simp only [Act.put, List.setIfInBounds_toArray, List.set_cons_zero, List.set_cons_succ, i64_w, i32_w]
    rfl
  refine pure_ (i := 22) (N := some 24) (v := ?_) (a' := ?_) #[false, true, false, true, false, false, true, true, true, false, true, true, true, false, true, true, true, true, false, true, true, true, true, false, false, false] rfl rfl (by kernel_rfl) (fun _ _ _ h => h) (Or.inl ⟨by rfl, ?_⟩) ?_ ?_
  rotate_left
  · intro w'
    go_simp
    with_reducible rfl
  rotate_left
  · simp only [Act.put, List.setIfInBounds_toArray, List.set_cons_zero, List.set_cons_succ, i64_w, i32_w]
    rfl
  refine take_ (i := 2) (N := some 8) (v := .agg (nums .u8 p).toArray) (a' := ?_) #[false, true, true, true, false, false, true, true, true, false, true, true, true, false, true, true, true, true, false, true, true, true, true, false, false, false] rfl rfl (by kernel_rfl) (fun _ _ _ h => h) (Or.inl ⟨by rfl, fun w' s0 => ?ld⟩) hHeld ?_ ?_
  case ld => exact exec_load_any w' 23 (.tmp 7) rfl ⟨gb, 1, none⟩ rfl (nums .u8 p) _ (fun j v hj => by have h := (NoteAt.cells s0 hp).2.2.2.2.2 j v hj; rw [← add_p] at h; exact h) Tryd.underlying23 rfl (by rw [nums_length, hp]; kernel_rfl)
  rotate_left
  · simp only [Act.put, List.setIfInBounds_toArray, List.set_cons_zero, List.set_cons_succ, i64_w, i32_w]
    rfl
  refine pure_ (i := 4) (N := some 10) (v := ?_) (a' := ?_) #[false, true, true, true, true, false, true, true, true, false, true, true, true, false, true, true, true, true, false, true, true, true, true, false, false, false] rfl rfl (by kernel_rfl) (fun _ _ _ h => h) (Or.inl ⟨by rfl, ?_⟩) ?_ ?_
  rotate_left
  · intro w'
    go_simp
    with_reducible rfl
  rotate_left
  · simp only [Act.put, List.setIfInBounds_toArray, List.set_cons_zero, List.set_cons_succ, i64_w, i32_w]
    rfl
  clear hq0
  refine one_ (i := 0) (N := some 6) #[true, true, true, true, true, false, true, true, true, false, true, true, true, false, true, true, true, true, false, true, true, true, true, false, false, false] rfl rfl (by kernel_rfl) (by decide) (fun K hK => ?_)
  have hmm := @run_makeMap Tryd.prog
  refine value_ (w1 := ?_) (v := ?_) (by rfl) rfl ?_ ?_
  rotate_left 2
  · go_simp
    constructor
    · rfl
    · rfl
  clear hmm
  have hbm : Below wd.heap.size wd (wd.alloc (.map #[] 0)) := below_alloc (Below.refl _ _) _
  obtain ⟨bm, hbme⟩ : ∃ bm, bm = wd.heap.size := ⟨_, rfl⟩
  have HM0 : Aside0 (HasM w bm (!z) (n != 0) (o != 0) (decide (0 < bl)) (decide (0 < yl)) alls (wd.alloc (.map #[] 0))) := ⟨⟨.map [], by rw [hbme]; exact World.ownsMap_made wd _ _ _, MD.start _, below_step HD.out.2 hbm, by rw [hbme]; exact below_size HD.out.2⟩⟩
  have HN := Aside0.mk (HD.out.1.below hbm)
  rw [← hbme]
  clear hbm hbme
  refine hK.out _ _ (HN.out) (fun hHeld => ?_)
  clear hK K
  refine norm_ (a' := ?_) ?_ ?_
  rotate_left
  · show Act.put _ (some 6) _ = _
    simp only [Act.put, List.setIfInBounds_toArray, List.set_cons_zero, List.set_cons_succ, i64_w, i32_w]
    rfl
  have hlay : (lay alls : Array Bool) = #[true, true, true, true, true, false, true, true, true, false, true, true, true, false, true, true, true, true, false, true, true, true, true, false, false, false] := by kernel_rfl
  rw [← hlay]
  clear hlay
  refine inserts_ (f := 2) subs lay (HasM w bm (!z) (n != 0) (o != 0) (decide (0 < bl)) (decide (0 < yl))) (by kernel_rfl) ?hstep ?hend rfl 5 alls (by decide) rfl _ HM0.out HN.out
  case hstep =>
    intro J hJ i hi V hM hS
    obtain ⟨V1, hr, hM1, hg⟩ := hM.step hJ hi
    have hbm : gb ≠ bm := fun e => by
      obtain ⟨D, ⟨es, clock, hb, _⟩, _⟩ := hM
      have h2 : V.heap[gb]? = _ := hS
      rw [e, hb] at h2
      cases h2
    have hS1 : NoteAt V1 gb k n o p (.slice A bl bc) (.slice Y yl yc) := (hg.block gb (blk_lt hS) (fun e => hbm (by cases e; rfl))).trans hS
    have ha := (subs_ok J hJ).2.2 i hi
    simp only [alls, List.mem_cons, List.not_mem_nil, or_false] at ha
    rcases ha with rfl | rfl | rfl | rfl | rfl
    all_goals
      refine ⟨_, V1, rfl, by rfl, rfl, ?_, hM1, hS1⟩
      unfold execOp
      simp [Act.eval, vOf, keyN] at hr ⊢
      simp [hr]
  case hend =>
    intro V hM hS
    have hlay : (lay [] : Array Bool) = #[true, true, true, true, true, true, true, true, true, true, true, true, true, true, true, true, true, true, true, true, true, true, true, true, false, false] := by kernel_rfl
    rw [hlay]
    simp only [Act.put]
    clear hlay HM0 HN
    obtain ⟨D, hown, hmd, hbw, hlb⟩ := hM
    obtain ⟨V1, hrun, hrg, hg, hsz⟩ := hown.range (t := 82) (e := 4) keyed Tryd.underlying82
    obtain ⟨rm, hrm⟩ : ∃ rm, rm = V.heap.size := ⟨_, rfl⟩
    rw [← hrm] at hrun hrg
    have hS1 : NoteAt V1 gb k n o p (.slice A bl bc) (.slice Y yl yc) := (hg.block gb (blk_lt hS) (fun e => by cases e)).trans hS
    have hb1 : Below w.heap.size w V1 := hbw.grown hg hbw.size (fun k e => by cases e)
    have hz2 : HZ.out = HZ.out := rfl
    clear hz2
    obtain ⟨v, hv⟩ : ∃ v, v = vOf (!z) (n != 0) (o != 0) (decide (0 < bl)) (decide (0 < yl)) := ⟨_, rfl⟩
    rw [← hv] at hmd
    have HL0 : Aside0 (HasL w bm rm v (Maps.has D) (Maps.size D) V1) := ⟨⟨D, hrg, fun i hi z => (hmd.at_ i hi (by simp)).2 z, fun kl hk => by obtain ⟨i, h1, _, h2⟩ := hmd.has kl hk; exact ⟨i, h1, h2⟩, hb1, by rw [hrm]; exact hbw.size⟩⟩
    have hacc0 : (0 : Int) = accL v (Maps.has D) := by
      have h := fun i hi => (hmd.at_ i hi (by simp)).1
      unfold accL
      rw [h 5 (by decide), h 9 (by decide), h 13 (by decide), h 18 (by decide), h 23 (by decide)]
      rfl
    have HVV := Aside0.mk (And.intro hacc0 hv)
    have HN1 := Aside0.mk hS1
    clear hown hmd hbw hlb hrg hg hS hS1 hb1 hacc0 hv
    refine pure_ (i := 24) (N := some 25) (v := ?_) (a' := ?_) #[true, true, true, true, true, true, true, true, true, true, true, true, true, true, true, true, true, true, true, true, true, true, true, true, true, false] rfl rfl (by kernel_rfl) (fun _ _ _ h => h) (Or.inl ⟨by rfl, ?_⟩) ?_ ?_
    rotate_left
    · intro w'
      go_simp
      with_reducible rfl
    rotate_left
    · simp only [Act.put, List.setIfInBounds_toArray, List.set_cons_zero, List.set_cons_succ, i64_w, i32_w]
      rfl
    refine one_ (i := 25) (N := some 26) #[true, true, true, true, true, true, true, true, true, true, true, true, true, true, true, true, true, true, true, true, true, true, true, true, true, true] rfl rfl (by kernel_rfl) (by decide) (fun K hK => ?_)
    refine value_ (w1 := V1) (v := .pointer (some ⟨rm, 0, none⟩)) (by rfl) rfl ?_ ?_
    · unfold execOp
      simp [Act.eval, hrun]
    refine hK.out _ _ (HN1.out) (fun hHeld => ?_)
    clear hK K
    refine norm_ (a' := ?_) ?_ ?_
    rotate_left
    · show Act.put _ (some 26) _ = _
      simp only [Act.put, List.setIfInBounds_toArray, List.set_cons_zero, List.set_cons_succ, i64_w, i32_w]
      rfl
    clear hrun hrm hsz
    refine done_ (by kernel_rfl) ?_
    go_wp2
    clear hHeld HN1
    obtain ⟨hacc0, hvv⟩ := HVV.out
    rw [hacc0]
    have HV := Aside0.mk hvv
    clear hacc0 hvv HVV
    go_loopg [3] (Maps.size D) (fun q v3 wr => ∃ left, v3 = .int .i64 (accL v left) ∧ Aside0 (HasL w bm rm v left q wr))
    case atStart => exact ⟨_, rfl, HL0⟩
    case round =>
      clear HL0
      obtain ⟨left, rfl, hI⟩ := hrel
      obtain ⟨D2, hrg, hat, hlf, hbw, hrmb⟩ := hI.out
      rcases hrg.next keyed 0 with ⟨h0, hl, hrun⟩ | ⟨key, vv, kl, y, w', cnt', hkey, hlk, hR, haty, hrun, hrg2, hlt, hgr, hsz, hent⟩
      · have HL := Aside0.mk hl
        clear hrg hat hlf hbw hrmb h0 hl
        go_wp2
        go_ret
        obtain ⟨D2, hrg, hat, hlf, hbw, hrmb⟩ := hI.out
        refine ⟨?_, hbw⟩
        unfold accL
        rw [HL.out, HL.out, HL.out, HL.out, HL.out, HV.out, HZ.out]
        rfl
      · obtain ⟨x, rfl, rfl, hwf⟩ := keyOf_int_inv Tryd.underlying3 hkey
        obtain ⟨i, hi, e⟩ := hlf _ hlk
        have hx : x = keyN i := by simpa [keyL] using e
        obtain ⟨cv, rfl, rfl⟩ := plainElem_bool_inv Tryd.underlying4 hR
        have hc : v i = cv := by
          have h1 := haty (.lit (.bool true))
          rw [e, hat i hi] at h1
          simpa using h1
        rw [e] at hlk hrg2
        have hstep := accL_step v left i hi hlk
        have HL2 : Aside0 (HasL w bm rm v (fun z => left z && !z.sameKey (keyL i)) cnt' w') := ⟨⟨D2, hrg2, hat, fun kl h => hlf kl (by simp at h; exact h.1), hbw.grown hgr hbw.size (fun k e => by cases e; exact hrmb), hrmb⟩⟩
        have HH := Aside0.mk (And.intro hstep (And.intro hc (And.intro hx hlt)))
        clear hrg hat hlf hbw hrmb hI hkey hwf e hx hR haty hc hlk hrg2 hstep hgr hsz hlt
        cases cv with
        | true =>
          go_wp2
          go_roundg cnt'
          case measure => exact HH.out.2.2.2
          case rel =>
            obtain ⟨hs, hc, hx, _⟩ := HH.out
            exact ⟨_, by rw [hx, hs.1 hc], HL2⟩
        | false =>
          go_wp2
          go_roundg cnt'
          case measure => exact HH.out.2.2.2
          case rel =>
            obtain ⟨hs, hc, hx, _⟩ := HH.out
            exact ⟨_, by rw [hs.2 hc], HL2⟩
end
end Go.Proofs.YtlcanfniphdelaaDoor.Not
