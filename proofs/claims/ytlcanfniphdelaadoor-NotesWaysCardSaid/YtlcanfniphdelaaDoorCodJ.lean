/- The codec's reference: Id. -/
import Derived.Test.YtlcanfniphdelaaDoorCodR
namespace Go.Proofs.YtlcanfniphdelaaDoor.Cod
open Go.RowKit Go.Proofs.YtlcanfniphdelaaDoorW.PrintWords Go.Proofs.YtlcanfniphdelaaDoorW.PrintLast Go.Proofs.YtlcanfniphdelaaDoorW.PrintMore Go.Proofs.YtlcanfniphdelaaDoor.Mem Go.Proofs.YtlcanfniphdelaaDoor.PCod
set_option linter.unusedVariables false
set_option linter.unusedSimpArgs false
section
variable {w : World} {R : RM} {b r xs : List Int}
def idAt (xs : List Int) (i : Nat) : List Int := xs.take i ++ List.replicate (32 - i) 0
theorem idAt_0 (xs : List Int) : nums .u8 (idAt xs 0) = zidL := by unfold idAt; rw [List.take_zero, List.nil_append]; exact zid_cells
theorem idAt_set (xs : List Int) (i : Nat) (hi : i < xs.length) (h32 : xs.length ≤ 32) : (idAt xs i).set i (xs.getD i 0) = idAt xs (i + 1) := by
  unfold idAt
  apply List.ext_getElem?
  intro j
  have hl : (xs.take i).length = i := by rw [List.length_take]; omega
  rw [List.getElem?_set]
  by_cases hj : i = j
  · subst hj
    rw [if_pos rfl, if_pos (by simp; omega), List.getElem?_append_left (by rw [List.length_take]; omega), List.getElem?_take, if_pos (by omega), List.getD_eq_getElem?_getD, List.getElem?_eq_getElem hi]
    rfl
  · rw [if_neg hj]
    rcases Nat.lt_or_ge j i with h | h
    · rw [List.getElem?_append_left (by omega), List.getElem?_append_left (by rw [List.length_take]; omega), List.getElem?_take, List.getElem?_take, if_pos h, if_pos (by omega)]
    · rw [List.getElem?_append_right (by omega), List.getElem?_append_right (by rw [List.length_take]; omega), hl, List.length_take, List.getElem?_replicate, List.getElem?_replicate, Nat.min_eq_left (by omega)]
      by_cases h2 : j < 32
      · rw [if_pos (by omega), if_pos (by omega)]
      · rw [if_neg (by omega), if_neg (by omega)]
theorem idAt_end (h : xs = [] ∨ xs.length = 32) : idAt xs xs.length = idOf xs := by
  unfold idAt idOf
  rcases h with rfl | h
  · rfl
  · rw [if_neg (fun e => by rw [e] at h; cases h), List.take_of_length_le (Nat.le_refl _), h]
    simp
/-- What is there behind a call of Id's. -/
def IdW (w : World) (A B : Array Value) (w1 : World) : Prop := w1.heap[w.heap.size]? = some (.cells A 68 (0, 0)) ∧ w1.heap[w.heap.size + 1]? = some (.cells B 68 (0, 0)) ∧ w1.heap[w.heap.size + 2]? = some (.cells zidL.toArray 23 (0, 0)) ∧ Below w.heap.size w w1
theorem idW_1 (A B : Array Value) (w1 : World) (hb : Below (((w.alloc (.cells A 68)).alloc (.cells B 68)).alloc (.cells zidL.toArray 23)).heap.size (((w.alloc (.cells A 68)).alloc (.cells B 68)).alloc (.cells zidL.toArray 23)) w1) : IdW w A B w1 := by
  have e1 : (((w.alloc (.cells A 68)).alloc (.cells B 68)).alloc (.cells zidL.toArray 23)).heap[w.heap.size]? = some (.cells A 68 (0, 0)) := by rw [Below.heap_alloc _ _ _ (by simp; omega), Below.heap_alloc _ _ _ (by simp)]; exact blk_new w _
  have e2 : (((w.alloc (.cells A 68)).alloc (.cells B 68)).alloc (.cells zidL.toArray 23)).heap[w.heap.size + 1]? = some (.cells B 68 (0, 0)) := by
    rw [Below.heap_alloc _ _ _ (by simp)]
    have := blk_new (w.alloc (.cells A 68)) (.cells B 68)
    simpa using this
  have e3 : (((w.alloc (.cells A 68)).alloc (.cells B 68)).alloc (.cells zidL.toArray 23)).heap[w.heap.size + 2]? = some (.cells zidL.toArray 23 (0, 0)) := by
    have := blk_new ((w.alloc (.cells A 68)).alloc (.cells B 68)) (.cells zidL.toArray 23)
    simpa using this
  exact ⟨(hb.block _ (by simp; omega)).trans e1, (hb.block _ (by simp)).trans e2, (hb.block _ (by simp)).trans e3, below_step (below_alloc (below_alloc (below_alloc (Below.refl _ _) _) _) _) hb⟩
theorem idW_2 {A A2 B : Array Value} {w1 : World} (hA : A.size = 2) (h : IdW w A B w1) (u v : Value) (h2 : (A.setIfInBounds 0 u).setIfInBounds 1 v = A2) :
    IdW w A2 B (((w1.setCell ⟨w.heap.size, 0, none⟩ u).setCell ⟨w.heap.size, 1, none⟩ v).alloc (.cells zidL.toArray 23)) ∧
    (((w1.setCell ⟨w.heap.size, 0, none⟩ u).setCell ⟨w.heap.size, 1, none⟩ v).alloc (.cells zidL.toArray 23)).heap[w1.heap.size]? = some (.cells zidL.toArray 23 (0, 0)) ∧ w.heap.size + 2 < w1.heap.size := by
  obtain ⟨k1, k2, k3, k4⟩ := h
  have hsz : ((w1.setCell ⟨w.heap.size, 0, none⟩ u).setCell ⟨w.heap.size, 1, none⟩ v).heap.size = w1.heap.size := by simp
  have l3 := blk_lt k3
  have hk : ∀ {g : Nat} {o : Obj}, g ≠ w.heap.size → w1.heap[g]? = some o → (((w1.setCell ⟨w.heap.size, 0, none⟩ u).setCell ⟨w.heap.size, 1, none⟩ v).alloc (.cells zidL.toArray 23)).heap[g]? = some o := fun {g o} hne hg => by
    rw [Below.heap_alloc _ _ _ (by rw [hsz]; exact blk_lt hg), Below.heap_setCell _ _ _ _ hne, Below.heap_setCell _ _ _ _ hne]
    exact hg
  refine ⟨⟨?_, hk (by omega) k2, hk (by omega) k3, below_alloc (below_set (below_set k4 (Nat.le_refl _)) (Nat.le_refl _)) _⟩, ?_, l3⟩
  · rw [Below.heap_alloc _ _ _ (by rw [hsz]; omega), ← h2]
    exact blk_set (blk_set k1 0 u) 1 v
  · have := blk_new ((w1.setCell ⟨w.heap.size, 0, none⟩ u).setCell ⟨w.heap.size, 1, none⟩ v) (.cells zidL.toArray 23)
    rwa [hsz] at this
theorem IdW.set {A B : Array Value} {w1 : World} (h : IdW w A B w1) {g k : Nat} (hp : w.heap.size + 2 < g) (u : Value) : IdW w A B (w1.setCell ⟨g, k, none⟩ u) :=
  ⟨blk_far h.1 (p := ⟨g, k, none⟩) (show w.heap.size ≠ g by omega) u, blk_far h.2.1 (p := ⟨g, k, none⟩) (show w.heap.size + 1 ≠ g by omega) u, blk_far h.2.2.1 (p := ⟨g, k, none⟩) (show w.heap.size + 2 ≠ g by omega) u, below_set h.2.2.2 (by omega)⟩
section
variable {P : Program} {o : Oper} {ev : Operand → Value}
theorem exec_load_row (W : World) (ty : TypeId) (x : Operand) (ho : o.op = .load ty x) (g : Nat) (hx : ev x = .pointer (some ⟨g, 0, none⟩)) (t : TypeId) (cs : Array Value) (fr : Nat × Nat) (d : TypeDesc) (hg : W.heap[g]? = some (.cells cs t fr))
    (hu : P.underlying ty = some d) (hd : (match d with | .struct _ | .array _ _ => true | _ => false) = true) (hi : (P.info? ty).map (·.size) = some cs.size) : (execOp ev o).run P W = .ok (.value (.agg cs)) W := by
  unfold execOp
  simp only [ho, hx, Instr.loadAt, Instr.sureAddr, Sem.run_bind, Sem.run_pure, Result.andThen_ok, run_loadVar_row W g t ty cs fr d hg hu hd hi]
theorem exec_store_row (W : World) (ty : TypeId) (x y : Operand) (ho : o.op = .store ty x y) (g : Nat) (cells : Array Value) (hx : ev x = .pointer (some ⟨g, 0, none⟩)) (hy : ev y = .agg cells)
    (t : TypeId) (old : Array Value) (hg : W.heap[g]? = some (.cells old t (0, 0))) (hi : (P.info? ty).map (·.size) = some cells.size) (hold : old.size = cells.size) (h1 : cells.all (·.oneCell') = true) :
    (execOp ev o).run P W = .ok .skip (W.setRow g cells) := by
  unfold execOp
  simp only [ho, hx, hy, Instr.storeAt, Instr.sureAddr, Sem.run_bind, Sem.run_pure, Result.andThen_ok, run_storeVar_row W g t ty old cells hg hi hold h1]
end
set_option maxHeartbeats 2000000 in
set_option maxRecDepth 100000 in
theorem ref_id (hb : Byt R.b) : Calls Tryd.prog 39 #[stV R] w fun e w' => e = .returned (.tuple #[stV R.id.1, .agg (nums .u8 R.id.2).toArray]) ∧ Below w.heap.size w w' := by
  have h1 := fun W => Aside0.mk (ref_fixed (w := W) hb 32)
  have hlen : (R.fixed 32).2 = [] ∨ (R.fixed 32).2.length = 32 := fixed_len R 32
  have hxb := (RM.fixed_byt hb 32).2
  obtain ⟨xs, hxs⟩ : ∃ xs, xs = (R.fixed 32).2 := ⟨_, rfl⟩
  have hid : R.id = ((R.fixed 32).1, idOf xs) := by rw [hxs]; rfl
  rw [hid]
  rw [← hxs] at h1 hlen hxb
  obtain ⟨R1, hR1⟩ : ∃ R1, R1 = (R.fixed 32).1 := ⟨_, rfl⟩
  rw [← hR1] at h1 ⊢
  clear hR1 hid hxs
  obtain ⟨X, hX⟩ : ∃ X, X = S xs := ⟨_, rfl⟩
  rw [← hX] at h1
  have hsz : X.size ≤ 32 := by rw [hX, S_size]; rcases hlen with h | h <;> rw [h] <;> simp
  have HX := Aside0.mk (And.intro hX (And.intro hlen hxb))
  clear hX hlen hxb hb
  go_enter Tryd.func39, Tryd.ntmps39
  go_wp2_with (go_at_call 47; go_loud (refine (h1 _).out.mono ?_; rintro e w1 ⟨rfl, hb1⟩; obtain ⟨k1, k2, k3, k4⟩ := idW_1 _ _ _ hb1; have c10 : w1.cell? ⟨w.heap.size, 0, none⟩ = some (.string (S R.b)) := (blk_cell k1 0).trans rfl; have c11 : w1.cell? ⟨w.heap.size, 1, none⟩ = some (.int .i64 R.e) := (blk_cell k1 1).trans rfl; have f10 := blk_frozen k1 0; have f11 := blk_frozen k1 1; have HB1 := Aside0.mk (And.intro k1 (And.intro k2 (And.intro k3 k4))); clear hb1 k1 k2 k3 k4))
  have HW2 := Aside0.mk (idW_2 (A2 := #[.string (S R1.b), .int .i64 R1.e]) rfl HB1.out (.string (S R1.b)) (.int .i64 R1.e) rfl)
  go_loopg [6] X.size (fun q v6 wr => ∃ i : Nat, v6 = .int .i64 i ∧ q + i = X.size ∧ Aside0 (IdW w #[.string (S R1.b), .int .i64 R1.e] #[.string ByteArray.empty, .int .i64 0] wr) ∧ Aside0 (wr.heap[w1.heap.size]? = some (.cells (nums .u8 (idAt xs i)).toArray 23 (0, 0))))
  case atStart => exact ⟨0, rfl, by omega, ⟨HW2.out.1⟩, ⟨by rw [idAt_0]; exact HW2.out.2.1⟩⟩
  case round =>
    obtain ⟨i, rfl, hq, hW, hC⟩ := hrel
    by_cases hlt : i < X.size
    · have hcell : wr.cell? ⟨w1.heap.size, i, none⟩ = some (.int .u8 ((idAt xs i).getD i 0)) := by
        rw [blk_cell hC.out i, List.getElem?_toArray]
        have hxl : X.size = xs.length := by rw [HX.out.1, S_size]
        have h32 : i < (idAt xs i).length := by unfold idAt; rw [List.length_append, List.length_take, List.length_replicate]; omega
        unfold nums
        rw [List.getElem?_map, List.getElem?_eq_getElem h32, List.getD_eq_getElem?_getD, List.getElem?_eq_getElem h32]
        rfl
      have hfz := blk_frozen hC.out i
      have hbt := fun h : i < X.size => bt_at X i (by simpa using h)
      have hlb := HW2.out.2.2
      have HLB := Aside0.mk hlb
      clear hlb
      go_wp2
      have hxl : X.size = xs.length := by rw [HX.out.1, S_size]
      have hv : bt X i = xs.getD i 0 := by
        have hb := HX.out.2.2
        have hi : i < xs.length := by omega
        have e0 := hbt hlt
        rw [← bt_at X i (by simpa using hlt)]
        have e : X.data[i]? = some (UInt8.ofNat (xs.getD i 0).toNat) := by
          rw [HX.out.1, ← Array.getElem?_toList, strOfNums_data, List.getElem?_map, List.getD_eq_getElem?_getD, List.getElem?_eq_getElem hi]
          rfl
        have hh : i < X.data.size := hlt
        have h3 : X.data[i]? = some (X.data[i]'hh) := Array.getElem?_eq_getElem hh
        rw [e] at h3
        have e2 : X[(i : Int).toNat]'(by simpa using hlt) = X.data[i]'hh := rfl
        rw [e2, ← Option.some.inj h3, UInt8.toNat_ofNat']
        have := hb (xs.getD i 0) (by rw [List.getD_eq_getElem?_getD, List.getElem?_eq_getElem hi]; exact List.getElem_mem hi)
        omega
      go_roundg (X.size - (i + 1))
      case measure => omega
      case rel =>
        refine ⟨i + 1, by go_num, by omega, ⟨hW.out.set HLB.out _⟩, ⟨?_⟩⟩
        rw [show ((X[i]'hlt).toNat : Int) = bt X i from hbt hlt]
        have h := blk_set hC.out i (.int .u8 (bt X i))
        rw [← idAt_set xs i (by omega) (by omega), ← hv]
        unfold nums at h ⊢
        rw [List.map_set]
        simpa using h
    · go_wp2
      have hie : (nums .u8 (idAt xs i)) = nums .u8 (idOf xs) := by
        have hxl : X.size = xs.length := by rw [HX.out.1, S_size]
        rw [← idAt_end HX.out.2.1, show i = xs.length by omega]
      obtain ⟨arr, harr⟩ : ∃ arr, arr = (nums .u8 (idOf xs)).toArray := ⟨_, rfl⟩
      rw [hie, ← harr] at hC
      have hasz : arr.size = 32 := by rw [harr]; simp [nums, ← idAt_end HX.out.2.1, idAt]; rcases HX.out.2.1 with h | h <;> rw [h] <;> simp
      have ha1 : arr.all (·.oneCell') = true := by
        rw [harr, Array.all_eq_true_iff_forall_mem]
        intro v hv
        simp only [List.mem_toArray, nums, List.mem_map] at hv
        obtain ⟨x, _, rfl⟩ := hv
        rfl
      have hi61 : (Tryd.prog.info? 23).map (·.size) = some arr.size := by rw [hasz]; kernel_rfl
      have hold : zidL.toArray.size = arr.size := by rw [hasz]; rfl
      have HH := Aside0.mk (And.intro hi61 (And.intro hold (And.intro ha1 harr)))
      clear hi61 hold ha1 hasz harr hie
      obtain ⟨wd, hwd⟩ : ∃ wd, wd = wr.drew := ⟨_, rfl⟩
      have HWd : Aside0 (IdW w #[.string (S R1.b), .int .i64 R1.e] #[.string ByteArray.empty, .int .i64 0] wd) := ⟨by rw [hwd]; exact ⟨hW.out.1, hW.out.2.1, hW.out.2.2.1, below_drew1 hW.out.2.2.2⟩⟩
      have HCd : Aside0 (wd.heap[w1.heap.size]? = some (.cells arr 23 (0, 0))) := ⟨by rw [hwd]; exact hC.out⟩
      have hg23 : w.heap.size + 1 ≠ w.heap.size + 1 + 1 := by omega
      refine start_ (n := 4) (S := fun w' => w'.heap[w.heap.size]? = some (.cells #[.string (S R1.b), .int .i64 R1.e] 68 (0, 0)) ∧ w'.heap[w1.heap.size]? = some (.cells arr 23 (0, 0))) (ds := []) #[false, false, false, false] (by kernel_rfl) rfl rfl (by rw [← hwd]; exact ⟨HWd.out.1, HCd.out⟩) (fun hHeld => ?_)
      rw [← hwd] at hHeld ⊢
      clear hwd hC hW
      refine take_ (i := 0) (N := some 23) (v := .agg #[.string (S R1.b), .int .i64 R1.e]) (a' := ?_) #[true, false, false, false] rfl rfl (by kernel_rfl) (fun _ _ _ h => h) (Or.inl ⟨by rfl, fun w' s0 => exec_load_row w' 68 (.tmp 1) rfl w.heap.size rfl 68 _ (0, 0) _ s0.1 Tryd.underlying68 rfl (by kernel_rfl)⟩) hHeld ?_ ?_
      rotate_left
      · simp only [Act.put, List.setIfInBounds_toArray, List.set_cons_zero, List.set_cons_succ, i64_w, i32_w]
        rfl
      refine take_ (i := 1) (N := some 24) (v := .agg arr) (a' := ?_) #[true, true, false, false] rfl rfl (by kernel_rfl) (fun _ _ _ h => h) (Or.inl ⟨by rfl, fun w' s0 => exec_load_row w' 23 (.tmp 5) rfl w1.heap.size rfl 23 arr (0, 0) _ s0.2 Tryd.underlying23 rfl HH.out.1⟩) hHeld ?_ ?_
      rotate_left
      · simp only [Act.put, List.setIfInBounds_toArray, List.set_cons_zero, List.set_cons_succ, i64_w, i32_w]
        rfl
      have hlb := HW2.out.2.2
      refine one_ (i := 2) (N := none) #[true, true, true, false] rfl rfl (by kernel_rfl) (by decide) (fun K hK => ?_)
      refine skip_ (w1 := wd.setRow (w.heap.size + 1) #[.string (S R1.b), .int .i64 R1.e]) (by rfl) rfl (exec_store_row wd 68 (.tmp 2) (.tmp 23) rfl (w.heap.size + 1) _ rfl rfl 68 _ HWd.out.2.1 (by kernel_rfl) rfl (by simp [Value.oneCell'])) ?_
      refine hK.out _ _ ⟨(setRow_other _ _ _ _ (by omega)).trans hHeld.1, (setRow_other _ _ _ _ (by omega)).trans hHeld.2⟩ (fun hHeld2 => ?_)
      clear hK K
      refine one_ (i := 3) (N := none) #[true, true, true, true] rfl rfl (by kernel_rfl) (by decide) (fun K hK => ?_)
      refine skip_ (w1 := (wd.setRow (w.heap.size + 1) #[.string (S R1.b), .int .i64 R1.e]).setRow (w.heap.size + 1 + 1) arr) (by rfl) rfl (exec_store_row _ 23 (.tmp 3) (.tmp 24) rfl (w.heap.size + 1 + 1) _ rfl rfl 23 zidL.toArray ((setRow_other _ _ _ _ (by omega)).trans HWd.out.2.2.1) HH.out.1 HH.out.2.1 HH.out.2.2.1) ?_
      refine hK.out _ _ ⟨(setRow_other _ _ _ _ (by omega)).trans hHeld2.1, (setRow_other _ _ _ _ (by omega)).trans hHeld2.2⟩ (fun hHeld3 => ?_)
      clear hK K
      refine done_ (by kernel_rfl) ?_
      have hr2 : ((wd.setRow (w.heap.size + 1) #[.string (S R1.b), .int .i64 R1.e]).setRow (w.heap.size + 1 + 1) arr).heap[w.heap.size + 1]? = some (.cells #[.string (S R1.b), .int .i64 R1.e] 68 (0, 0)) := (setRow_other _ _ _ _ (by omega)).trans (setRow_heap _ _ _ _ _ _ HWd.out.2.1)
      have hr3 : ((wd.setRow (w.heap.size + 1) #[.string (S R1.b), .int .i64 R1.e]).setRow (w.heap.size + 1 + 1) arr).heap[w.heap.size + 1 + 1]? = some (.cells arr 23 (0, 0)) := setRow_heap _ _ _ _ _ _ ((setRow_other _ _ _ _ (by omega)).trans HWd.out.2.2.1)
      have hbe : Below w.heap.size w ((wd.setRow (w.heap.size + 1) #[.string (S R1.b), .int .i64 R1.e]).setRow (w.heap.size + 1 + 1) arr) := below_setRow (below_setRow HWd.out.2.2.2 (by omega) _) (by omega) _
      have HE := Aside0.mk (And.intro hr2 (And.intro hr3 hbe))
      clear hr2 hr3 hbe hHeld hHeld2 hHeld3
      go_wp2
      refine bodyPost_ret (results_cc rfl _ _ (w.heap.size + 1) (w.heap.size + 1 + 1) 68 23 #[.string (S R1.b), .int .i64 R1.e] arr (0, 0) (0, 0) _ _ rfl HE.out.1 Tryd.underlying68 rfl (by kernel_rfl) rfl HE.out.2.1 Tryd.underlying23 rfl HH.out.1) rfl ?_
      refine ⟨?_, HE.out.2.2⟩
      rw [HH.out.2.2.2]
end
end Go.Proofs.YtlcanfniphdelaaDoor.Cod
