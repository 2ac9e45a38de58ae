/- 'awake' of layer 8. -/
import Derived.Test.YtnajdnhgoakgaaaFil
namespace Go.Proofs.Ytnajdnhgoakgaaa.Blk
open Go.RowKit Go.Proofs.YtnajdnhgoakgaaaW.PrintWords Go.Proofs.YtnajdnhgoakgaaaW.PrintLast Go.Proofs.YtnajdnhgoakgaaaW.PrintMore Go.Proofs.Ytnajdnhgoakgaaa.Mem Go.Proofs.Ytnajdnhgoakgaaa.PBlk
attribute [local go_sem] max2_int min2_int max_two min_two max_three min_three max_four min_four
set_option linter.unusedVariables false
set_option linter.unusedSimpArgs false

theorem add_0 (ad : Addr) : ad.add 0 = ad := by unfold Addr.add; split <;> simp_all
theorem own_at {w : World} {e base : Nat} {ok : Nat → Prop} {v : Value} {xs : List Int} (h : Kd.R (Kd.int .u8) e w base ok v xs) (hn : 0 < xs.length) : ∃ b c, v = .slice (some ⟨b, 0, none⟩) xs.length c ∧ base ≤ b ∧ ok b ∧ xs.length ≤ c ∧ ∀ i : Nat, i < xs.length → w.cell? ⟨b, i, none⟩ = some (.int .u8 (rd xs i)) := by
  obtain ⟨A, c, rfl, hc, hC⟩ := Kd.R_reads h
  obtain ⟨h0, inner, ho, hr⟩ := h
  rcases ho.2 with ⟨h2, _⟩ | ⟨g, cap, cur, h2, hg, hh, r⟩
  · injection h2 with _ h3 _
    omega
  · injection h2 with h3 h4 h5
    subst h3
    refine ⟨g, c, rfl, hg, h0 g (by simp [Value.ownBlock]), hc, fun i hi => ?_⟩
    obtain ⟨ad, e1, e2⟩ := Kd.at_int hC i (by omega) (by omega)
    cases e1
    rw [← e2]
    congr 1
    unfold Addr.add
    split <;> simp_all
/-- A row of bytes in a block of its own. -/
theorem row_reads {w : World} {b : Nat} {s : ByteArray} (h : w.heap[b]? = some (.cells (bc s).toArray 5 (0, 0))) {F : Nat → Prop} (hb : ¬ F b) (hz : s.size ≤ 9223372036854775807) : ∀ W, Kept w W F → Kd.C (Kd.int .u8) W (some ⟨b, 0, none⟩) s.size (bytesOf s) := by
  intro W hk
  have h2 := blk_kept h hk hb
  refine Kd.C_of_reads (d := (0 : Int)) (h1 := fun _ => rfl) ⟨bytesOf_length s, hz, fun _ => ⟨_, rfl, fun j hj => ?_⟩⟩
  have ha : (⟨b, 0, none⟩ : Addr).add j = ⟨b, j, none⟩ := by unfold Addr.add; split <;> simp_all
  rw [ha, blk_cell h2, List.getElem?_toArray]
  unfold bc nums
  rw [List.getElem?_map, List.getElem?_eq_getElem (by rw [bytesOf_length]; omega)]
  simp [List.getD_eq_getElem?_getD, List.getElem?_eq_getElem (show j < (bytesOf s).length by rw [bytesOf_length]; omega)]
theorem made_u8 (n : Nat) : madeCells (Value.cells (.int .u8 0)) n = (List.replicate n (Value.int .u8 0)).toArray := by
  apply Array.ext
  · simp [madeCells, Value.cells]
  · intro i h1 h2
    simp [madeCells, Value.cells, Nat.mod_one]
theorem run_make_bytes (n : Nat) (h : n < 140737488355328) (W : World) : (Instr.makeSlice 35 (.int .i64 (n : Int)) (.int .i64 (n : Int))).run Try.prog W = .ok (.slice (some ⟨W.heap.size, 0, none⟩) n n) (W.alloc (.cells (List.replicate n (Value.int .u8 0)).toArray 5)) := by
  obtain ⟨i, hi, hzz⟩ := Option.map_eq_some_iff.1 info_u8
  simp only [Prod.mk.injEq] at hzz
  obtain ⟨hz, hz1, hz2⟩ := hzz
  have h := run_make (P := Try.prog) W 35 5 i _ Try.underlying35 hi hz .i64 .i64 (n : Int) (n : Int) (by omega) (by omega) (by rw [hz2]; omega) (by omega)
  rw [hz1, Nat.mul_one, made_u8, Int.toNat_natCast] at h
  exact h
def awk1 : ByteArray := ⟨#[7] ++ Array.replicate 127 0⟩
def awk2 : ByteArray := ⟨#[8, 9] ++ Array.replicate 126 0⟩
def awkD : DM := ⟨List.replicate 2 zero128, -1, 0, false⟩
theorem awk_1 : ((List.replicate 128 (Value.int .u8 0)).toArray.setIfInBounds 0 (.int .u8 7)) = (bc awk1).toArray := by kernel_rfl
theorem awk_2 : (((bc awk1).toArray.setIfInBounds 0 (.int .u8 8)).setIfInBounds 1 (.int .u8 9)) = (bc awk2).toArray := by kernel_rfl
def awkD1 : DM := (awkD.write 1 awk1).1
def awkD2 : DM := (awkD1.stop 0 1)
def awkD3 : DM := (awkD2.write 1 awk2).1
def awkD4 : DM := awkD3.restart
theorem awk_w1 : (awkD.write 1 awk1).2 = 0 := by decide +kernel
theorem awk_w2 : (awkD2.write 1 awk2).2 = 30 := by decide +kernel
theorem awk_down : awkD3.down = true := by decide +kernel
theorem awk_f : awkD4.fine 1 = 0 := by decide +kernel
theorem awk_r : (bytesOf (awkD4.blk 1)).length = 128 ∧ rd (bytesOf (awkD4.blk 1)) 0 = 8 ∧ rd (bytesOf (awkD4.blk 1)) 1 = 0 := by decide +kernel
theorem awk_len : awkD4.L.length = 2 := by decide +kernel


set_option maxRecDepth 100000 in
theorem awk_a {w w1 : World} {g : Nat} {X : Array Value} (hX : X = (List.replicate 128 (Value.int .u8 0)).toArray) (hb0 : Below w.heap.size w w1) (hd0 : DiskAt w1 (fun k => w.heap.size ≤ k) g awkD) : ∃ F : Nat → Prop, (∀ k, F k → w.heap.size ≤ k) ∧ ¬ F w1.heap.size ∧ w.heap.size ≤ w1.heap.size ∧
    Calls Try.prog 17 #[.pointer (some ⟨g, 0, none⟩), .int .i64 1, .slice (some ⟨w1.heap.size, 0, none⟩) 128 128] (w1.alloc (.cells (X.setIfInBounds 0 (.int .u8 7)) 5)) fun e w' => e = .returned (.int .i64 0) ∧ DiskAt w' F g awkD1 ∧ Below w.heap.size w w' ∧ w'.heap[w1.heap.size]? = some (.cells (bc awk1).toArray 5 (0, 0)) := by
  have hr : (w1.alloc (.cells (X.setIfInBounds 0 (.int .u8 7)) 5)).heap[w1.heap.size]? = some (.cells (bc awk1).toArray 5 (0, 0)) := (blk_new w1 _).trans (by rw [hX, awk_1])
  have hb1 : Below w1.heap.size w1 (w1.alloc (.cells (X.setIfInBounds 0 (.int .u8 7)) 5)) := (Below.refl _ _).alloc (Nat.le_refl _) _
  have hnF : ¬ Cut w.heap.size w1 (fun k => w.heap.size ≤ k) w1.heap.size := (fun hk => by have := hk.2.2; omega)
  refine ⟨Cut w.heap.size w1 (fun k => w.heap.size ≤ k), fun k hk => hk.2.1, hnF, below_size hb0, ?_⟩
  refine (write_row (below_step hb0 hb1) (fun k hk => hk.2.1) ((hd0.cut (fun _ h => h)).below hb1) 1 (some ⟨w1.heap.size, 0, none⟩) 128 128 awk1 (by decide +kernel) (row_reads hr hnF (by decide +kernel))).mono ?_
  rintro e w2 ⟨rfl, h1, h2, h3⟩
  exact ⟨by rw [awk_w1], h1, h2, blk_kept hr h3 hnF⟩
set_option maxRecDepth 100000 in
theorem awk_b {w w3 : World} {g b : Nat} {F : Nat → Prop} (hF : ∀ k, F k → w.heap.size ≤ k) (hN : ¬ F b) (hs : w.heap.size ≤ b) (hb : Below w.heap.size w w3) (hd : DiskAt w3 F g awkD2) (hr : w3.heap[b]? = some (.cells (bc awk1).toArray 5 (0, 0))) :
    Calls Try.prog 17 #[.pointer (some ⟨g, 0, none⟩), .int .i64 1, .slice (some ⟨b, 0, none⟩) 128 128] ((w3.setCell ⟨b, 0, none⟩ (.int .u8 8)).setCell ⟨b, 1, none⟩ (.int .u8 9)) fun e w' => e = .returned (.int .i64 30) ∧ DiskAt w' F g awkD3 ∧ Below w.heap.size w w' := by
  have hr : ((w3.setCell ⟨b, 0, none⟩ (.int .u8 8)).setCell ⟨b, 1, none⟩ (.int .u8 9)).heap[b]? = some (.cells (bc awk2).toArray 5 (0, 0)) := (blk_set (blk_set hr 0 _) 1 _).trans (by rw [awk_2])
  have hk : Kept w3 ((w3.setCell ⟨b, 0, none⟩ (.int .u8 8)).setCell ⟨b, 1, none⟩ (.int .u8 9)) (fun k => k = b) := ((Kept.refl w3 (fun k => k = b)).setCell (p := ⟨b, 0, none⟩) (.inl rfl) _).setCell (p := ⟨b, 1, none⟩) (.inl rfl) _
  refine (write_row (below_set (below_set hb hs) hs) hF (hd.kept hk (fun k h1 h2 => hN (by rw [← h2]; exact h1))) 1 (some ⟨b, 0, none⟩) 128 128 awk2 (by decide +kernel) (row_reads hr hN (by decide +kernel))).mono ?_
  rintro e w2 ⟨rfl, h1, h2, h3⟩
  exact ⟨by rw [awk_w2], h1, h2⟩

set_option maxHeartbeats 2000000 in
set_option maxRecDepth 100000 in
theorem awake_calls (w : World) : Calls Try.prog 13 #[] w fun e w' => e = .returned (.bool true) ∧ Below w.heap.size w w' := by
  have hnew : Calls Try.prog 14 #[.int .i64 2] w _ := new_calls (w := w) 2 (by omega) (by omega)
  obtain ⟨X, hX⟩ : ∃ X, X = (List.replicate 128 (Value.int .u8 0)).toArray := ⟨_, rfl⟩
  have hmk : ∀ W : World, (Instr.makeSlice 35 (.int .i64 128) (.int .i64 128)).run Try.prog W = .ok (.slice (some ⟨W.heap.size, 0, none⟩) 128 128) (W.alloc (.cells X 5)) := by rw [hX]; exact run_make_bytes 128 (by omega)
  have hX0 : X[0]? = some (Value.int .u8 0) := by rw [hX]; rfl
  have HE := Aside0.mk hX
  clear hX
  go_enter Try.func13, Try.ntmps13
  go_wp2_with (first
    | (go_at_call 14; go_loud (refine hnew.mono ?_; rintro e w1 ⟨g, rfl, hd0, hb0⟩; clear hnew; have c0 : (w1.alloc (.cells X 5)).cell? ⟨w1.heap.size, 0, none⟩ = some (.int .u8 0) := (blk_cell (blk_new w1 _) 0).trans hX0; have f0 : (w1.alloc (.cells X 5)).frozen? ⟨w1.heap.size, 0, none⟩ = false := blk_frozen (blk_new w1 _) 0; obtain ⟨F, hF, hN, hs, hw⟩ := awk_a HE.out hb0 hd0; have HX := Aside0.mk (And.intro hF (And.intro hN hs)); have HW := Aside0.mk hw; clear hd0 hb0 hF hN hs hw))
    | (go_at_call 17; (refine (HW.out).mono ?_; rintro e w2 ⟨rfl, hd2, hb2, hr2⟩; clear HW; have HX2 := Aside0.mk (And.intro hd2 (And.intro hb2 hr2)); clear hd2 hb2 hr2))
    | (go_at_call 19; go_loud (refine (stop_calls HX2.out.2.1 HX.out.1 HX2.out.1 0 1 (by omega)).mono ?_; rintro e w3 ⟨rfl, hd3, hb3, hk3⟩; have hr3 := blk_kept HX2.out.2.2 hk3 HX.out.2.1; have c3 := (blk_cell hr3 0).trans (by kernel_rfl : _ = some (Value.int .u8 7)); have f3 := blk_frozen hr3 0; have c4 := (blk_cell (blk_set hr3 0 (.int .u8 8)) 1).trans (by kernel_rfl : _ = some (Value.int .u8 0)); have f4 := blk_frozen (blk_set hr3 0 (.int .u8 8)) 1; have HW2 := Aside0.mk (awk_b HX.out.1 HX.out.2.1 HX.out.2.2 hb3 hd3 hr3); clear hd3 hb3 hk3 hr3 HX2))
    | (go_at_call 17; go_loud (refine (HW2.out).mono ?_; rintro e w5 ⟨rfl, hd5, hb5⟩; clear HW2; have HX5 := Aside0.mk (And.intro hd5 hb5); clear hd5 hb5))
    | (go_at_call 27; go_loud (refine (down_calls HX5.out.1).mono ?_; rw [awk_down]; rintro e w6 ⟨rfl, rfl⟩))
    | (go_at_call 23; go_loud (refine (restart_calls HX5.out.2 HX.out.1 HX5.out.1).mono ?_; rintro e w7 ⟨rfl, hd7, hb7, hk7⟩; have HX7 := Aside0.mk (And.intro hd7 hb7); clear hd7 hb7 hk7 HX5))
    | (go_at_call 21; go_loud (refine (read_calls HX7.out.1 1 awk_f).mono ?_; rintro e w8 ⟨v, rfl, hv, _, hb8⟩; obtain ⟨q0, q1, q2⟩ := awk_r; obtain ⟨b, c, rfl, _, _, hc, hat⟩ := own_at hv (by rw [show (bytesOf (DM.restart awkD3 |>.blk 1)).length = 128 from q0]; omega); rw [show (bytesOf (DM.restart awkD3 |>.blk 1)).length = 128 from q0] at hc hat ⊢; have e0 := hat 0 (by omega); have e1 := hat 1 (by omega); rw [show rd (bytesOf (DM.restart awkD3 |>.blk 1)) ((0 : Nat) : Int) = 8 from q1] at e0; rw [show rd (bytesOf (DM.restart awkD3 |>.blk 1)) ((1 : Nat) : Int) = 0 from q2] at e1 ; have HX8 := Aside0.mk (And.intro (HX7.out.1.below hb8) (below_step HX7.out.2 hb8)); clear hv hb8 hat hc q0 q1 q2 HX7))
    | (go_at_call 26; go_loud (refine (len_calls HX8.out.1).mono ?_; rw [show (DM.restart awkD3).L.length = 2 from awk_len]; rintro e w9 ⟨rfl, rfl⟩)))
  go_ret
  exact ⟨rfl, HX8.out.2⟩
end Go.Proofs.Ytnajdnhgoakgaaa.Blk
