/- The codec's reader: Id. -/
import Derived.Test.YtlcanfniphdelaaDoorCodW
import Derived.Laws.Rows
namespace Go.Proofs.YtlcanfniphdelaaDoor.Cod
open Go.RowKit Go.Proofs.YtlcanfniphdelaaDoorW.PrintWords Go.Proofs.YtlcanfniphdelaaDoorW.PrintLast Go.Proofs.YtlcanfniphdelaaDoorW.PrintMore Go.Proofs.YtlcanfniphdelaaDoor.Mem
set_option linter.unusedVariables false
set_option linter.unusedSimpArgs false
section
variable {w : World} {F : Nat → Prop} {g base : Nat} {R : RM} {xs ys : List Int}
def RM.id (R : RM) : RM × List Int := ((R.fixed 32).1, if (R.fixed 32).2 = [] then List.replicate 32 0 else (R.fixed 32).2)
theorem fixed_len (R : RM) (n : Nat) : (R.fixed n).2 = [] ∨ (R.fixed n).2.length = n := by
  unfold RM.fixed
  split
  · exact .inl rfl
  · split
    · exact .inl rfl
    · split
      · exact .inl rfl
      · refine .inr ?_
        simp only [Int.toNat_natCast, List.length_take]
        omega
theorem info_id : (Tryd.prog.info? 23).map (fun i => (i.zero.map Value.cells, i.size)) = some (some (Array.replicate 32 (.int .u8 0)), 32) := by kernel_rfl
def zidL : List Value := [.int .u8 0, .int .u8 0, .int .u8 0, .int .u8 0, .int .u8 0, .int .u8 0, .int .u8 0, .int .u8 0, .int .u8 0, .int .u8 0, .int .u8 0, .int .u8 0, .int .u8 0, .int .u8 0, .int .u8 0, .int .u8 0, .int .u8 0, .int .u8 0, .int .u8 0, .int .u8 0, .int .u8 0, .int .u8 0, .int .u8 0, .int .u8 0, .int .u8 0, .int .u8 0, .int .u8 0, .int .u8 0, .int .u8 0, .int .u8 0, .int .u8 0, .int .u8 0]
theorem zid_cells : nums .u8 (List.replicate 32 0) = zidL := by kernel_rfl
def idOf (xs : List Int) : List Int := if xs = [] then List.replicate 32 0 else xs
set_option maxHeartbeats 1000000 in
set_option maxRecDepth 100000 in
theorem id_gen (p : Option Addr) (xs : List Int) (S : Nat → Prop) (Post : World → Prop) (hS : ∀ k, S k → k < w.heap.size) (hlen : xs = [] ∨ xs.length = 32)
    (ht : ∀ W, Below w.heap.size w W → Calls Tryd.prog 44 #[.pointer p, .int .i64 32] W fun e w' => ∃ A k c, e = .returned (.slice A k c) ∧ k = xs.length ∧ k ≤ c ∧ Kd.C (Kd.int .u8) w' A xs.length xs ∧ Kept W w' S ∧ Post w')
    (hpost : ∀ w1 w2, Post w1 → Below w.heap.size w1 w2 → Post w2) :
    Calls Tryd.prog 35 #[.pointer p] w fun e w' => e = .returned (.agg (nums .u8 (idOf xs)).toArray) ∧ Post w' ∧ Kept w w' S := by
  obtain ⟨wz, hwz⟩ : ∃ wz, wz = ((w.alloc (.cells zidL.toArray 23)).alloc (.cells zidL.toArray 23)).drew := ⟨_, rfl⟩
  have hbz : Below w.heap.size w wz := by rw [hwz]; exact below_drew1 (below_alloc (below_alloc (Below.refl _ _) _) _)
  have hz1 : wz.heap[w.heap.size]? = some (.cells zidL.toArray 23 (0, 0)) := by rw [hwz]; show ((w.alloc _).alloc _).heap[w.heap.size]? = _; rw [Below.heap_alloc _ _ _ (by simp)]; exact blk_new w _
  have hz2 : wz.heap[w.heap.size + 1]? = some (.cells zidL.toArray 23 (0, 0)) := by rw [hwz]; show ((w.alloc _).alloc _).heap[w.heap.size + 1]? = _; have := blk_new (w.alloc (.cells zidL.toArray 23)) (.cells zidL.toArray 23); simpa using this
  have hzs : wz.heap.size = w.heap.size + 2 := by rw [hwz]; show ((w.alloc _).alloc _).heap.size = _; simp
  have ht := Aside0.mk (ht wz hbz)
  have HX := Aside0.mk (And.intro hbz (And.intro hz1 (And.intro hz2 (And.intro hzs (And.intro hS (And.intro hlen hpost))))))
  have HW := Aside0.mk hwz
  clear hbz hz1 hz2 hzs hS hlen hpost hwz
  go_enter Tryd.func35, Tryd.ntmps35
  go_wp2
  refine start_ (n := 4) (S := fun w' => True) (ds := []) #[false, false, false, false] (by kernel_rfl) rfl rfl (trivial) (fun hHeld => ?_)
  show wpAnyLast _ _ _ _ _ _ _ _ _ (World.drew ((w.alloc (.cells zidL.toArray 23)).alloc (.cells zidL.toArray 23)))
  rw [← HW.out]
  refine pure_ (i := 0) (N := some 4) (v := ?_) (a' := ?_) #[true, false, false, false] rfl rfl (by kernel_rfl) (fun _ _ _ h => h) (Or.inl ⟨by rfl, ?_⟩) ?_ ?_
  rotate_left
  · intro w'
    go_simp
    with_reducible rfl
  rotate_left
  · simp only [Act.put, List.setIfInBounds_toArray, List.set_cons_zero, List.set_cons_succ, i64_w, i32_w]
    rfl
  refine pure_ (i := 1) (N := some 5) (v := ?_) (a' := ?_) #[true, true, false, false] rfl rfl (by kernel_rfl) (fun _ _ _ h => h) (Or.inl ⟨by rfl, ?_⟩) ?_ ?_
  rotate_left
  · intro w'
    go_simp
    with_reducible rfl
  rotate_left
  · simp only [Act.put, List.setIfInBounds_toArray, List.set_cons_zero, List.set_cons_succ, i64_w, i32_w]
    rfl
  refine one_ (i := 2) (N := some 6) #[true, true, true, false] rfl rfl (by kernel_rfl) (by decide) (fun K hK => ?_)
  refine goes_ Tryd.func44 (by kernel_rfl) rfl #[.pointer p, .int .i64 32] (by rfl) rfl rfl (by (try simp only [List.map_toArray, List.map_cons, List.map_nil]); first | rfl | (go_simp; done)) ?_
  refine ht.out.mono ?_
  rintro e w1 ⟨A, k, c, rfl, hk, hkc, hC, hk1, hp1⟩
  refine ⟨_, rfl, ?_⟩
  refine hK.out _ _ (trivial) (fun hHeld => ?_)
  clear hK K
  refine norm_ (a' := ?_) ?_ ?_
  rotate_left
  · show Act.put _ (some 6) _ = _
    simp only [Act.put, List.setIfInBounds_toArray, List.set_cons_zero, List.set_cons_succ, i64_w, i32_w]
    rfl
  have HY := Aside0.mk (And.intro hk (And.intro hkc (And.intro hC (And.intro hk1 hp1))))
  clear hk hkc hC hk1 hp1
  refine one_ (i := 3) (N := some 7) #[true, true, true, true] rfl rfl (by kernel_rfl) (by decide) (fun K hK => ?_)
  refine step_copy_splice rfl (.tmp 4) (.tmp 6) 25 25 rfl 5 Tryd.underlying25 info_u8s _ _ _ _ _ _ rfl rfl (w.heap.size + 1) 0 zidL 23 ?cg (nums .u8 xs) ?cn ?cp ?cf ?co (w.heap.size + 1) w1 (Below.refl _ _) (Nat.le_refl _) ?_
  case cg => exact blk_kept HX.out.2.2.1 HY.out.2.2.2.1 (fun h => by have := HX.out.2.2.2.2.1 _ h; omega)
  case cn => rw [nums_length, HY.out.1]; rcases HX.out.2.2.2.2.2.1 with h | h <;> rw [h] <;> rfl
  case cp =>
    intro hp
    refine ⟨rfl, ?_⟩
    have hC := HY.out.2.2.1
    rw [nums_length] at hp
    obtain ⟨ad, rfl, hcell⟩ := hC.2.2 hp
    refine ⟨ad, rfl, fun j v hv => ?_⟩
    unfold nums at hv
    rw [List.getElem?_map] at hv
    obtain ⟨x, hx, rfl⟩ := Option.map_eq_some_iff.1 hv
    obtain ⟨cs, hl, hk, hc⟩ := hcell j x hx
    have h0 := hc 0 (.int .u8 x) (by rw [show cs = [.int .u8 x] from hk]; rfl)
    rwa [show j * (Kd.int IntKind.u8).sz + 0 = j from by show j * 1 + 0 = j; omega] at h0
  case cf => rw [nums_length, show zidL.length = 32 from rfl]; rcases HX.out.2.2.2.2.2.1 with h | h <;> rw [h] <;> simp
  case co => intro v hv; simp only [nums, List.mem_map] at hv; obtain ⟨x, _, rfl⟩ := hv; rfl
  intro w2 hg2 hb2
  refine hK.out _ _ (trivial) (fun hHeld => ?_)
  clear hK K
  refine norm_ (a' := ?_) ?_ ?_
  rotate_left
  · show Act.put _ (some 7) _ = _
    simp only [Act.put, List.setIfInBounds_toArray, List.set_cons_zero, List.set_cons_succ, i64_w, i32_w]
    rfl
  refine done_ (by kernel_rfl) ?_
  obtain ⟨ids, hids⟩ : ∃ ids, ids = idOf xs := ⟨_, rfl⟩
  have hq : idOf xs = (if xs = [] then List.replicate 32 0 else xs) := rfl
  have hid32 : ids.length = 32 := by rw [hids, hq]; rcases HX.out.2.2.2.2.2.1 with h | h; rw [if_pos h]; rfl; rw [if_neg (fun e => by rw [e] at h; simp at h)]; exact h
  have hsp : splice zidL 0 (nums .u8 xs) = nums .u8 ids := by
    rw [hids, hq]
    rcases HX.out.2.2.2.2.2.1 with h | h
    · rw [if_pos h, h, zid_cells]; rfl
    · rw [if_neg (fun e => by rw [e] at h; simp at h)]
      unfold splice
      rw [List.take_zero, List.nil_append, List.drop_of_length_le (by rw [nums_length, h]; decide), List.append_nil]
  obtain ⟨arr, harr⟩ : ∃ arr, arr = (nums .u8 ids).toArray := ⟨_, rfl⟩
  have hasz : arr.size = 32 := by rw [harr]; simp [nums, hid32]
  have ha1 : arr.all (·.oneCell') = true := by
    rw [harr, Array.all_eq_true_iff_forall_mem]
    intro v hv
    simp only [List.mem_toArray, nums, List.mem_map] at hv
    obtain ⟨x, _, rfl⟩ := hv
    rfl
  have hi : (Tryd.prog.info? 23).map (·.size) = some arr.size := by rw [hasz]; kernel_rfl
  have hold : zidL.toArray.size = arr.size := by rw [hasz]; rfl
  have hgb : w2.heap[w.heap.size + 1]? = some (.cells arr 23 (0, 0)) := by rw [harr, ← hsp]; exact hg2
  have hga : w2.heap[w.heap.size]? = some (.cells zidL.toArray 23 (0, 0)) := by
    rw [hb2.block _ (by omega)]
    exact blk_kept HX.out.2.1 HY.out.2.2.2.1 (fun h => by have := HX.out.2.2.2.2.1 _ h; omega)
  have HG := Aside0.mk (And.intro hgb (And.intro hga (And.intro hb2 (And.intro hids harr))))
  have HS := Aside0.mk (And.intro hi (And.intro hold ha1))
  clear hq hgb hga hb2 hids harr hi hold ha1 hasz hsp hid32 hg2
  go_wp2_with (first | (refine wpList_load_row rfl 23 (.tmp 3) rfl (w.heap.size + 1) rfl 23 arr (0, 0) _ HG.out.1 Tryd.underlying23 rfl HS.out.1 ?_) | (refine wpList_store_row rfl 23 (.tmp 2) (.tmp 8) rfl w.heap.size arr rfl rfl 23 zidL.toArray HG.out.2.1 HS.out.1 HS.out.2.1 HS.out.2.2 ?_))
  obtain ⟨hgb, hga, hb2, hids, harr⟩ := HG.out
  have hgn := setRow_heap w2 w.heap.size _ arr _ _ hga
  refine bodyPost_ret (results_cell_row rfl _ _ w.heap.size 23 arr (0, 0) _ rfl hgn Tryd.underlying23 rfl HS.out.1) rfl ?_
  obtain ⟨hbz, _, _, hzs, hS, _, hpost⟩ := HX.out
  obtain ⟨_, _, _, hk1, hp1⟩ := HY.out
  have hkw : Kept w w1 S := (Kept.of_below hbz _).then_ hk1 (fun k h => .inl h)
  have hw1 : w.heap.size + 2 ≤ w1.heap.size := by have := hk1.1; omega
  have hb3 : Below w.heap.size w1 (w2.setRow w.heap.size arr) := below_setRow (hb2.mono (by omega)) (Nat.le_refl _) _
  refine ⟨by rw [harr, hids], hpost _ _ hp1 hb3, hkw.then_ (S2 := fun k => w.heap.size ≤ k) ⟨by simpa using hb2.size, fun i hi hn => hb3.block i (by have h' : ¬ w.heap.size ≤ i := hn; omega)⟩ (fun k h => .inr h)⟩
theorem id_nil : Calls Tryd.prog 35 #[.pointer none] w fun e w' => e = .returned (.agg (nums .u8 (List.replicate 32 0)).toArray) ∧ Below w.heap.size w w' := by
  refine (id_gen none [] (fun _ => False) (fun w' => Below w.heap.size w w') (fun k h => h.elim) (.inl rfl) ?_ ?_).mono ?_
  · intro W hb
    refine (take_nil 32).mono ?_
    rintro e w' ⟨rfl, rfl⟩
    exact ⟨none, 0, 0, rfl, rfl, Nat.le_refl _, Kd.C_nil _ _, Kept.refl _ _, hb⟩
  · exact fun w1 w2 h1 h2 => h1.trans h2
  · rintro e w' ⟨rfl, h, _⟩
    exact ⟨rfl, h⟩
theorem id_calls {w0 : World} (hB : Below w0.heap.size w0 w) (hF : ∀ k, F k → w0.heap.size ≤ k) (hFb : ∀ k, F k → k < w.heap.size) (hd : RdAt w F g R) :
    Calls Tryd.prog 35 #[.pointer (some ⟨g, 0, none⟩)] w fun e w' => e = .returned (.agg (nums .u8 R.id.2).toArray) ∧ RdAt w' F g R.id.1 ∧ Below w0.heap.size w0 w' ∧ Kept w w' (fun k => k = g) := by
  have hg : F g := by obtain ⟨_, _, h, _⟩ := hd; exact h
  refine (id_gen (some ⟨g, 0, none⟩) (R.fixed 32).2 (fun k => k = g) (fun w' => w.heap.size ≤ w'.heap.size ∧ RdAt w' F g R.id.1 ∧ Below w0.heap.size w0 w') (fun k h => by rw [h]; exact hFb g hg) (fixed_len R 32) ?_ ?_).mono ?_
  · intro W hb
    refine (take_any (below_step hB hb) hF (hd.below hb) 32).mono ?_
    rintro e w' ⟨A, k, c, rfl, h1, h2, h3, h4, h5, h6, h7, h8⟩
    exact ⟨A, k, c, rfl, h1, h2, h5, h8, Nat.le_trans hb.size h8.1, h6, h7⟩
  · rintro w1 w2 ⟨h0, h1, h2⟩ hb
    exact ⟨Nat.le_trans h0 hb.size, h1.kept (S := fun k => w.heap.size ≤ k) ⟨hb.size, fun i hi hn => hb.block i (by have h' : ¬ w.heap.size ≤ i := hn; omega)⟩ (fun k hk h => by have := hFb k hk; have h' : w.heap.size ≤ k := h; omega), h2.trans (hb.mono (below_size hB))⟩
  · rintro e w' ⟨rfl, ⟨_, h1, h2⟩, h3⟩
    exact ⟨rfl, h1, h2, h3⟩
end
end Go.Proofs.YtlcanfniphdelaaDoor.Cod
