/- laid: a block of a number and a part. -/
import Derived.Test.YtnajdnhgoakgaaaDig2
namespace Go.Proofs.Ytnajdnhgoakgaaa.Wal
open Go.RowKit Go.Proofs.YtnajdnhgoakgaaaW.PrintWords Go.Proofs.YtnajdnhgoakgaaaW.PrintLast Go.Proofs.YtnajdnhgoakgaaaW.PrintMore Go.Proofs.Ytnajdnhgoakgaaa.Mem Go.Proofs.Ytnajdnhgoakgaaa.PWal
set_option linter.unusedVariables false
set_option linter.unusedSimpArgs false
set_option maxRecDepth 8000
set_option maxHeartbeats 4000000
section
variable {P : Program} {ops : Array Oper} {o : Oper} {a : Act} {K : Act → World → Prop} {Q : Exit → Act → World → Prop} {E : Prop}
theorem step_copyK {w : World} (hgd : o.guard = none) (d s : Operand) (dT sT : TypeId)
    (ho : o.op = .call { callee := .builtin .copy, args := #[d, s], argTypes := #[dT, sT] }) (elem : TypeId) (hu : P.underlying dT = some (.slice elem)) (hsz : (P.info? elem).map (·.size) = some 1)
    (ad : Addr) (dLen dCap sLen sCap : Nat) (g off : Nat) (hd : a.eval d = .slice (some ⟨g, off, none⟩) dLen dCap) (hs : a.eval s = .slice (some ad) sLen sCap)
    (cur : List Value) (t : TypeId) (hg : w.heap[g]? = some (.cells cur.toArray t (0, 0))) (cs : List Value) (hn : cs.length = Nat.min sLen dLen)
    (hsrc : ∀ j v, cs[j]? = some v → w.cell? (ad.add j) = some v)
    (hfit : off + cs.length ≤ cur.length) (h1 : ∀ v ∈ cs, v.oneCell' = true) (B : Nat) (w0 : World) (hb : Below B w0 w) (hBg : B ≤ g)
    (h : ∀ w', w'.heap[g]? = some (.cells (splice cur off cs).toArray t (0, 0)) → Below B w0 w' → Kept w w' (fun k => k = g) → K (a.put o.dst (goInt cs.length)) w') :
    if Region.wanted o (yielded ops a.tmps) = true then Oper.wp P o a w K Q else E := by
  have hw : Region.wanted o (yielded ops a.tmps) = true := by simp [Region.wanted, hgd]
  rw [if_pos hw]
  have hrun := run_copy_row (P := P) w dT sT o.type elem g off dLen dCap ad sLen sCap cur.toArray t cs hu hsz hg hn hsrc (by simpa using hfit) h1
  unfold Oper.wp
  simp [execOp, ho, resolve, invoke, builtin, hd, hs, hrun, Result.andThen]
  exact h _ (by simpa [splice] using setRow_heap w g _ _ t _ hg) (below_setRow hb hBg _) ⟨by simp [World.setRow], fun i _ hne => setRow_other w g i _ hne⟩
end
/-- What a block's bytes are. -/
def ebit (e : Bool) : Int := if e then 1 else 0
def laidM (n : Int) (part : List Int) (e : Bool) : List Int := num8 n ++ [(part.length : Int), ebit e] ++ (part ++ List.replicate (110 - part.length) 0) ++ num8 n
theorem laidM_len (n : Int) {part : List Int} (e : Bool) (h : part.length ≤ 110) : (laidM n part e).length = 128 := by
  unfold laidM
  simp only [List.length_append, num8_len, List.length_cons, List.length_nil, List.length_replicate]
  omega
def st1 (n : Int) : List Int := num8 n ++ List.replicate 120 0
def st2 (n pl : Int) : List Int := num8 n ++ [pl] ++ List.replicate 119 0
def st3 (n pl eb : Int) : List Int := num8 n ++ [pl, eb] ++ List.replicate 118 0
def st4 (n pl eb : Int) (part : List Int) : List Int := num8 n ++ [pl, eb] ++ (part ++ List.replicate (118 - part.length) 0)
theorem nums_splice (a b : List Int) (o : Nat) : splice (nums .u8 a) o (nums .u8 b) = nums .u8 (splice a o b) := by
  unfold splice nums
  simp [List.map_append, List.map_take, List.map_drop]
theorem st1_eq (n : Int) : splice (List.replicate 128 0) 0 (num8 n) = st1 n := by
  unfold splice st1
  rw [List.take_zero, List.nil_append, num8_len, List.drop_replicate]
theorem st2_eq (n pl : Int) : (st1 n).set 8 pl = st2 n pl := rfl
theorem st3_eq (n pl eb : Int) : (st2 n pl).set 9 eb = st3 n pl eb := rfl
theorem st3_0 (n pl : Int) : st2 n pl = st3 n pl 0 := rfl
theorem st4_eq (n pl eb : Int) {part : List Int} : splice (st3 n pl eb) 10 part = st4 n pl eb part := by
  unfold splice st3 st4
  have hl : (num8 n ++ [pl, eb]).length = 10 := rfl
  rw [List.take_left' hl, List.drop_append, List.drop_of_length_le (by omega), hl, List.nil_append, List.drop_replicate, show 10 + part.length - 10 = part.length by omega]
theorem st5_eq (n : Int) {part : List Int} (e : Bool) (h : part.length ≤ 110) : splice (st4 n part.length (ebit e) part) 120 (num8 n) = laidM n part e := by
  unfold splice st4 laidM
  have hl : (num8 n ++ [(part.length : Int), ebit e]).length = 10 := rfl
  have h2 : (num8 n ++ [(part.length : Int), ebit e] ++ (part ++ List.replicate (118 - part.length) 0)).length = 128 := by
    rw [List.length_append, hl, List.length_append, List.length_replicate]; omega
  rw [List.drop_of_length_le (by rw [h2, num8_len]; omega), List.append_nil]
  congr 1
  rw [List.take_append, List.take_of_length_le (by rw [hl]; omega), hl, List.take_append, List.take_of_length_le (by omega), List.take_replicate]
  congr 3
  omega
theorem cells_C {W : World} {A : Option Addr} {n : Nat} {s : List Int} (h : Kd.C (Kd.int .u8) W A n s) (hn : 0 < s.length) : ∃ ad, A = some ad ∧ ∀ j v, (nums .u8 s)[j]? = some v → W.cell? (ad.add j) = some v := by
  have hn2 : 0 < n := by have := h.1; omega
  obtain ⟨ad, e, hc⟩ := h.2.2 hn2
  refine ⟨ad, e, fun j v hv => ?_⟩
  unfold nums at hv
  rw [List.getElem?_map] at hv
  obtain ⟨x, hx, rfl⟩ := Option.map_eq_some_iff.1 hv
  obtain ⟨cs, hl, hk, hcell⟩ := hc j x hx
  have h0 := hcell 0 (.int .u8 x) (by rw [show cs = [.int .u8 x] from hk]; rfl)
  rwa [show j * (Kd.int IntKind.u8).sz + 0 = j from by show j * 1 + 0 = j; omega] at h0
theorem set_nums (xs : List Int) (i : Nat) (v : Int) : (nums .u8 xs).toArray.setIfInBounds i (.int .u8 v) = (nums .u8 (xs.set i v)).toArray := by
  rw [List.setIfInBounds_toArray]
  unfold nums
  rw [List.map_set]
theorem add_z (b j : Nat) : (⟨b, 0, none⟩ : Addr).add j = ⟨b, j, none⟩ := by unfold Addr.add; split <;> simp_all
def z128 : List Value := nums .u8 (List.replicate 128 0)
section
variable {w : World}
theorem laid_calls (n : Int) (h0 : 0 ≤ n) (h1 : n ≤ 18446744073709551615) {part : List Int} (A : Option Addr) (pc : Nat) (e : Bool) (hr : Kd.C (Kd.int .u8) w A part.length part) (hp : part.length ≤ 110) :
    Calls Try.prog 49 #[.int .u64 n, .slice A part.length pc, .bool e] w fun x w' => ∃ g, x = .returned (.slice (some ⟨g, 0, none⟩) 128 128) ∧ w.heap.size ≤ g ∧ w'.heap[g]? = some (.cells (nums .u8 (laidM n part e)).toArray 106 (0, 0)) ∧ Below w.heap.size w w' := by
  obtain ⟨pl, hpl⟩ : ∃ pl, pl = part.length := ⟨_, rfl⟩
  have HX := Aside0.mk (And.intro h0 (And.intro h1 (And.intro hr (And.intro hp hpl))))
  rw [← hpl]
  have hwp : IntKind.u8.wrap (pl : Int) = pl := by
    rw [show IntKind.u8.wrap (pl : Int) = (pl : Int) % 256 by simp [IntKind.wrap, IntKind.bits, IntKind.signed]]
    omega
  clear h0 h1 hr hp hpl
  obtain ⟨c8, hc8⟩ : ∃ c8, c8 = (nums .u8 (num8 n)).toArray := ⟨_, rfl⟩
  have HC := Aside0.mk (And.intro (show (Try.prog.info? 107).map (·.size) = some c8.size by rw [hc8]; kernel_rfl) (And.intro (show z8.toArray.size = c8.size by rw [hc8]; rfl) (And.intro (show c8.all (·.oneCell') = true by rw [hc8, Array.all_eq_true_iff_forall_mem]; intro v hv; exact nums_one _ v (List.mem_toArray.1 hv)) hc8)))
  clear hc8
  go_enter Try.func49, Try.ntmps49
  go_upto_region 3 with (first
    | ((with_reducible refine gate_dst (N := 7) rfl ?_); refine Kd.event_run rfl (v := .pointer (some ⟨w.heap.size, 0, none⟩)) (w1 := w.alloc (.cells z128.toArray 106)) ?hr ?_; (case hr => first | kernel_rfl | (go_simp; done) | (go_simp; rfl)); go_loud (refine wpName (fun w1 hw1 => ?_); obtain ⟨g7, hg7⟩ : ∃ g, g = w.heap.size := ⟨_, rfl⟩; have H1 := Aside0.mk (And.intro (show w1.heap[g7]? = some (.cells z128.toArray 106 (0, 0)) by rw [hw1, hg7]; exact blk_new w _) (And.intro (show Below w.heap.size w w1 by rw [hw1]; exact below_alloc (Below.refl _ _) _) hg7)); rw [← hg7]; clear hw1 hg7))
    | (go_at_call 58; go_loud (have hx := digits_calls (w := w1) n HX.out.1 HX.out.2.1; rw [← HC.out.2.2.2] at hx; refine hx.mono ?_; clear hx; rintro x w2 ⟨rfl, hb2⟩; have H2 := Aside0.mk (And.intro ((hb2.block _ (blk_lt H1.out.1)).trans H1.out.1) (below_step H1.out.2.1 hb2)); clear hb2))
    | ((with_reducible refine gate_dst (N := 8) rfl ?_); refine Kd.event_run rfl (v := .pointer (some ⟨w2.heap.size, 0, none⟩)) (w1 := w2.alloc (.cells z8.toArray 107)) ?hr ?_; (case hr => first | kernel_rfl | (go_simp; done) | (go_simp; rfl)); go_loud (refine wpName (fun w3 hw3 => ?_); obtain ⟨g8, hg8⟩ : ∃ g, g = w2.heap.size := ⟨_, rfl⟩; have hb3 : Below w2.heap.size w2 w3 := (by rw [hw3]; exact below_alloc (Below.refl _ _) _); have H3 := Aside0.mk (And.intro ((hb3.block _ (blk_lt H2.out.1)).trans H2.out.1) (And.intro (show w3.heap[g8]? = some (.cells z8.toArray 107 (0, 0)) by rw [hw3, hg8]; exact blk_new w2 _) (And.intro (below_step H2.out.2 hb3) (show g7 < g8 ∧ w.heap.size ≤ g7 by rw [hg8]; exact ⟨blk_lt H2.out.1, by rw [H1.out.2.2]; exact Nat.le_refl _⟩)))); rw [← hg8]; clear hw3 hg8 hb3))
    | ((with_reducible refine gate_store (ty := 107) (x := .tmp 8) (y := .tmp 10) rfl ?_); go_loud (refine wpList_store_row rfl 107 (.tmp 8) (.tmp 10) rfl g8 c8 rfl rfl 107 z8.toArray H3.out.2.1 HC.out.1 HC.out.2.1 HC.out.2.2.1 ?_; refine wpName (fun w4 hw4 => ?_); have H4 := Aside0.mk (And.intro (show w4.heap[g7]? = some (.cells z128.toArray 106 (0, 0)) by rw [hw4, setRow_other _ _ _ _ (by have := H3.out.2.2.2.1; omega)]; exact H3.out.1) (And.intro (show w4.heap[g8]? = some (.cells (nums .u8 (num8 n)).toArray 107 (0, 0)) by rw [hw4, ← HC.out.2.2.2]; exact setRow_heap _ _ _ _ _ _ H3.out.2.1) (show Below w.heap.size w w4 by rw [hw4]; exact below_setRow H3.out.2.2.1 (by have := H3.out.2.2.2; omega) _))); clear hw4)))
  obtain ⟨wd, hwd⟩ : ∃ wd, wd = w4.drew := ⟨_, rfl⟩
  have hbd : Below w4.heap.size w4 wd := by rw [hwd]; exact below_drew1 (Below.refl _ _)
  have HD := Aside0.mk (And.intro ((hbd.block _ (blk_lt H4.out.1)).trans H4.out.1) (And.intro ((hbd.block _ (blk_lt H4.out.2.1)).trans H4.out.2.1) (And.intro (below_step H4.out.2.2 hbd) H3.out.2.2.2)))
  clear hbd H1 H2 H3 H4
  refine start_ (n := 3) (S := fun w' => True) (ds := []) #[false, false, false] (by kernel_rfl) rfl (by kernel_rfl) (trivial) (fun hHeld => ?_)
  rw [← hwd]
  clear hwd
  refine pure_ (i := 0) (N := some 11) (v := ?_) (a' := ?_) #[true, false, false] rfl rfl (by kernel_rfl) (fun _ _ _ h => h) (Or.inl ⟨by rfl, ?_⟩) ?_ ?_
  rotate_left
  · intro w'
    go_simp
    with_reducible rfl
  rotate_left
  · simp only [Act.put, List.setIfInBounds_toArray, List.set_cons_zero, List.set_cons_succ, i64_w, i32_w]
    rfl
  refine pure_ (i := 1) (N := some 12) (v := ?_) (a' := ?_) #[true, true, false] rfl rfl (by kernel_rfl) (fun _ _ _ h => h) (Or.inl ⟨by rfl, ?_⟩) ?_ ?_
  rotate_left
  · intro w'
    go_simp
    with_reducible rfl
  rotate_left
  · simp only [Act.put, List.setIfInBounds_toArray, List.set_cons_zero, List.set_cons_succ, i64_w, i32_w]
    rfl
  refine one_ (i := 2) (N := some 13) #[true, true, true] rfl rfl (by kernel_rfl) (by decide) (fun K hK => ?_)
  refine step_copyK rfl (.tmp 11) (.tmp 12) 35 35 rfl 5 Try.underlying35 info_u8s ⟨g8, 0, none⟩ 128 128 8 8 g7 0 rfl rfl (nums .u8 (List.replicate 128 0)) 106 HD.out.1 (nums .u8 (num8 n)) rfl (fun j v hv => by rw [add_z, blk_cell HD.out.2.1, List.getElem?_toArray]; exact hv) (by rw [nums_length, nums_length, num8_len, List.length_replicate]; omega) (nums_one _) w.heap.size w HD.out.2.2.1 HD.out.2.2.2.2 ?_
  intro w5 hg5 hb5 hk5
  rw [nums_splice, st1_eq] at hg5
  have H5 := Aside0.mk (And.intro hg5 (And.intro (blk_kept HD.out.2.1 hk5 (show ¬ (g8 = g7) by have := HD.out.2.2.2.1; omega)) (And.intro hb5 HD.out.2.2.2)))
  clear hg5 hb5 hk5 HD
  refine hK.out _ _ (trivial) (fun hHeld => ?_)
  clear hK K
  refine norm_ (a' := ?_) ?_ ?_
  rotate_left
  · show Act.put _ (some 13) _ = _
    simp only [Act.put, List.setIfInBounds_toArray, List.set_cons_zero, List.set_cons_succ, i64_w, i32_w]
    rfl
  refine done_ (by kernel_rfl) ?_
  have c8' : w5.cell? ⟨g7, 8, none⟩ = some (.int .u8 0) := (blk_cell H5.out.1 8).trans rfl
  have f8 : w5.frozen? ⟨g7, 8, none⟩ = false := blk_frozen H5.out.1 8
  have c9' : w5.cell? ⟨g7, 9, none⟩ = some (.int .u8 0) := (blk_cell H5.out.1 9).trans rfl
  have f9 : w5.frozen? ⟨g7, 9, none⟩ = false := blk_frozen H5.out.1 9
  cases e
  · go_upto_region 8 with (first
      | ((with_reducible refine gate_builtin (b := .copy) (xs := #[.tmp 20, .tmp 21]) rfl ?_); go_loud (refine wpName (fun w6 hw6 => ?_); have hg6 : w6.heap[g7]? = some (.cells (nums .u8 (st3 n pl 0)).toArray 106 (0, 0)) := (by rw [hw6]; have h := blk_set H5.out.1 8 (.int .u8 pl); rw [set_nums, st2_eq, st3_0] at h; exact h); have hk6 : Kept w5 w6 (fun k => k = g7) := (by rw [hw6]; exact (Kept.refl w5 (fun k => k = g7)).setCell (p := ⟨g7, 8, none⟩) (.inl rfl) _); have hb6 : Below w.heap.size w w6 := (by rw [hw6]; exact below_set H5.out.2.2.1 H5.out.2.2.2.2); have hC6 := Kd.C_below HX.out.2.2.1 hb6; refine copy_event rfl (.tmp 20) (.tmp 21) 35 35 rfl 5 Try.underlying35 info_u8s _ _ _ _ _ _ rfl rfl g7 10 (nums .u8 (st3 n pl 0)) 106 hg6 (nums .u8 part) ?cn ?cp ?cf ?co w.heap.size w hb6 H5.out.2.2.2.2 ?_; (case cn => (rw [nums_length, ← HX.out.2.2.2.2]; have h1 := HX.out.2.2.2.1; have h2 := HX.out.2.2.2.2; exact (Nat.min_eq_left (by omega)).symm)); (case cp => (intro hpos; refine ⟨rfl, ?_⟩; exact cells_C hC6 (by rw [nums_length] at hpos; exact hpos))); (case cf => (rw [nums_length, nums_length]; have h1 := HX.out.2.2.2.1; show 10 + part.length ≤ 128; omega)); (case co => exact nums_one _); intro w7 hg7 hb7 hk7; rw [nums_splice, st4_eq] at hg7; have H7 := Aside0.mk (And.intro hg7 (And.intro (blk_kept (blk_kept H5.out.2.1 hk6 (show ¬ (g8 = g7) by have := H5.out.2.2.2.1; omega)) hk7 (show ¬ (g8 = g7) by have := H5.out.2.2.2.1; omega)) hb7)); clear hw6 hg6 hk6 hb6 hC6 hg7 hb7 hk7)))
    obtain ⟨we, hwe⟩ : ∃ we, we = w7.drew := ⟨_, rfl⟩
    have hbe : Below w7.heap.size w7 we := by rw [hwe]; exact below_drew1 (Below.refl _ _)
    have HE := Aside0.mk (And.intro ((hbe.block _ (blk_lt H7.out.1)).trans H7.out.1) (And.intro ((hbe.block _ (blk_lt H7.out.2.1)).trans H7.out.2.1) (below_step H7.out.2.2 hbe)))
    clear hbe H7 c8' f8 c9' f9
    refine start_ (n := 3) (S := fun w' => True) (ds := []) #[false, false, false] (by kernel_rfl) rfl (by kernel_rfl) (trivial) (fun hHeld => ?_)
    rw [← hwe]
    clear hwe
    refine pure_ (i := 0) (N := some 23) (v := ?_) (a' := ?_) #[true, false, false] rfl rfl (by kernel_rfl) (fun _ _ _ h => h) (Or.inl ⟨by rfl, ?_⟩) ?_ ?_
    rotate_left
    · intro w'
      go_simp
      with_reducible rfl
    rotate_left
    · simp only [Act.put, List.setIfInBounds_toArray, List.set_cons_zero, List.set_cons_succ, i64_w, i32_w]
      rfl
    refine pure_ (i := 1) (N := some 24) (v := ?_) (a' := ?_) #[true, true, false] rfl rfl (by kernel_rfl) (fun _ _ _ h => h) (Or.inl ⟨by rfl, ?_⟩) ?_ ?_
    rotate_left
    · intro w'
      go_simp
      with_reducible rfl
    rotate_left
    · simp only [Act.put, List.setIfInBounds_toArray, List.set_cons_zero, List.set_cons_succ, i64_w, i32_w]
      rfl
    refine one_ (i := 2) (N := some 25) #[true, true, true] rfl rfl (by kernel_rfl) (by decide) (fun K hK => ?_)
    refine step_copyK rfl (.tmp 23) (.tmp 24) 35 35 rfl 5 Try.underlying35 info_u8s ⟨g8, 0, none⟩ 8 8 8 8 g7 120 rfl rfl (nums .u8 (st4 n pl 0 part)) 106 HE.out.1 (nums .u8 (num8 n)) rfl (fun j v hv => by rw [add_z, blk_cell HE.out.2.1, List.getElem?_toArray]; exact hv) ?cf (nums_one _) w.heap.size w HE.out.2.2 H5.out.2.2.2.2 ?_
    case cf =>
      rw [nums_length, nums_length, num8_len]
      unfold st4
      simp only [List.length_append, num8_len, List.length_cons, List.length_nil, List.length_replicate]
      have := HX.out.2.2.2.1
      omega
    intro w9 hg9 hb9 hk9
    rw [nums_splice, HX.out.2.2.2.2] at hg9
    have hfin := st5_eq n false HX.out.2.2.2.1
    rw [show ebit false = 0 from rfl] at hfin
    rw [hfin] at hg9
    have H9 := Aside0.mk (And.intro hg9 hb9)
    clear hg9 hb9 hk9 hfin
    refine hK.out _ _ (trivial) (fun hHeld => ?_)
    clear hK K
    refine norm_ (a' := ?_) ?_ ?_
    rotate_left
    · show Act.put _ (some 25) _ = _
      simp only [Act.put, List.setIfInBounds_toArray, List.set_cons_zero, List.set_cons_succ, i64_w, i32_w]
      rfl
    refine done_ (by kernel_rfl) ?_
    go_wp2
    go_ret
    exact ⟨g7, rfl, H5.out.2.2.2.2, H9.out.1, H9.out.2⟩
  · go_upto_region 8 with (first
      | ((with_reducible refine gate_builtin (b := .copy) (xs := #[.tmp 20, .tmp 21]) rfl ?_); go_loud (refine wpName (fun w6 hw6 => ?_); have hg6 : w6.heap[g7]? = some (.cells (nums .u8 (st3 n pl 1)).toArray 106 (0, 0)) := (by rw [hw6]; have h := blk_set (blk_set H5.out.1 8 (.int .u8 pl)) 9 (.int .u8 1); rw [set_nums, set_nums, st2_eq, st3_eq] at h; exact h); have hk6 : Kept w5 w6 (fun k => k = g7) := (by rw [hw6]; exact ((Kept.refl w5 (fun k => k = g7)).setCell (p := ⟨g7, 8, none⟩) (.inl rfl) _).setCell (p := ⟨g7, 9, none⟩) (.inl rfl) _); have hb6 : Below w.heap.size w w6 := (by rw [hw6]; exact below_set (below_set H5.out.2.2.1 H5.out.2.2.2.2) H5.out.2.2.2.2); have hC6 := Kd.C_below HX.out.2.2.1 hb6; refine copy_event rfl (.tmp 20) (.tmp 21) 35 35 rfl 5 Try.underlying35 info_u8s _ _ _ _ _ _ rfl rfl g7 10 (nums .u8 (st3 n pl 1)) 106 hg6 (nums .u8 part) ?cn ?cp ?cf ?co w.heap.size w hb6 H5.out.2.2.2.2 ?_; (case cn => (rw [nums_length, ← HX.out.2.2.2.2]; have h1 := HX.out.2.2.2.1; have h2 := HX.out.2.2.2.2; exact (Nat.min_eq_left (by omega)).symm)); (case cp => (intro hpos; refine ⟨rfl, ?_⟩; exact cells_C hC6 (by rw [nums_length] at hpos; exact hpos))); (case cf => (rw [nums_length, nums_length]; have h1 := HX.out.2.2.2.1; show 10 + part.length ≤ 128; omega)); (case co => exact nums_one _); intro w7 hg7 hb7 hk7; rw [nums_splice, st4_eq] at hg7; have H7 := Aside0.mk (And.intro hg7 (And.intro (blk_kept (blk_kept H5.out.2.1 hk6 (show ¬ (g8 = g7) by have := H5.out.2.2.2.1; omega)) hk7 (show ¬ (g8 = g7) by have := H5.out.2.2.2.1; omega)) hb7)); clear hw6 hg6 hk6 hb6 hC6 hg7 hb7 hk7)))
    obtain ⟨we, hwe⟩ : ∃ we, we = w7.drew := ⟨_, rfl⟩
    have hbe : Below w7.heap.size w7 we := by rw [hwe]; exact below_drew1 (Below.refl _ _)
    have HE := Aside0.mk (And.intro ((hbe.block _ (blk_lt H7.out.1)).trans H7.out.1) (And.intro ((hbe.block _ (blk_lt H7.out.2.1)).trans H7.out.2.1) (below_step H7.out.2.2 hbe)))
    clear hbe H7 c8' f8 c9' f9
    refine start_ (n := 3) (S := fun w' => True) (ds := []) #[false, false, false] (by kernel_rfl) rfl (by kernel_rfl) (trivial) (fun hHeld => ?_)
    rw [← hwe]
    clear hwe
    refine pure_ (i := 0) (N := some 23) (v := ?_) (a' := ?_) #[true, false, false] rfl rfl (by kernel_rfl) (fun _ _ _ h => h) (Or.inl ⟨by rfl, ?_⟩) ?_ ?_
    rotate_left
    · intro w'
      go_simp
      with_reducible rfl
    rotate_left
    · simp only [Act.put, List.setIfInBounds_toArray, List.set_cons_zero, List.set_cons_succ, i64_w, i32_w]
      rfl
    refine pure_ (i := 1) (N := some 24) (v := ?_) (a' := ?_) #[true, true, false] rfl rfl (by kernel_rfl) (fun _ _ _ h => h) (Or.inl ⟨by rfl, ?_⟩) ?_ ?_
    rotate_left
    · intro w'
      go_simp
      with_reducible rfl
    rotate_left
    · simp only [Act.put, List.setIfInBounds_toArray, List.set_cons_zero, List.set_cons_succ, i64_w, i32_w]
      rfl
    refine one_ (i := 2) (N := some 25) #[true, true, true] rfl rfl (by kernel_rfl) (by decide) (fun K hK => ?_)
    refine step_copyK rfl (.tmp 23) (.tmp 24) 35 35 rfl 5 Try.underlying35 info_u8s ⟨g8, 0, none⟩ 8 8 8 8 g7 120 rfl rfl (nums .u8 (st4 n pl 1 part)) 106 HE.out.1 (nums .u8 (num8 n)) rfl (fun j v hv => by rw [add_z, blk_cell HE.out.2.1, List.getElem?_toArray]; exact hv) ?cf (nums_one _) w.heap.size w HE.out.2.2 H5.out.2.2.2.2 ?_
    case cf =>
      rw [nums_length, nums_length, num8_len]
      unfold st4
      simp only [List.length_append, num8_len, List.length_cons, List.length_nil, List.length_replicate]
      have := HX.out.2.2.2.1
      omega
    intro w9 hg9 hb9 hk9
    rw [nums_splice, HX.out.2.2.2.2] at hg9
    have hfin := st5_eq n true HX.out.2.2.2.1
    rw [show ebit true = 1 from rfl] at hfin
    rw [hfin] at hg9
    have H9 := Aside0.mk (And.intro hg9 hb9)
    clear hg9 hb9 hk9 hfin
    refine hK.out _ _ (trivial) (fun hHeld => ?_)
    clear hK K
    refine norm_ (a' := ?_) ?_ ?_
    rotate_left
    · show Act.put _ (some 25) _ = _
      simp only [Act.put, List.setIfInBounds_toArray, List.set_cons_zero, List.set_cons_succ, i64_w, i32_w]
      rfl
    refine done_ (by kernel_rfl) ?_
    go_wp2
    go_ret
    exact ⟨g7, rfl, H5.out.2.2.2.2, H9.out.1, H9.out.2⟩
end
end Go.Proofs.Ytnajdnhgoakgaaa.Wal
