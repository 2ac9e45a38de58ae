/- Open. -/
import Derived.Test.YtnajdnhgoakgaaaAll
namespace Go.Proofs.Ytnajdnhgoakgaaa.Wal
open Go.RowKit Go.Proofs.YtnajdnhgoakgaaaW.PrintWords Go.Proofs.YtnajdnhgoakgaaaW.PrintLast Go.Proofs.YtnajdnhgoakgaaaW.PrintMore Go.Proofs.Ytnajdnhgoakgaaa.Mem Go.Proofs.Ytnajdnhgoakgaaa.PWal Go.Proofs.Ytnajdnhgoakgaaa.Blk
set_option linter.unusedVariables false
set_option linter.unusedSimpArgs false
set_option maxRecDepth 8000
set_option maxHeartbeats 4000000
def mx2 (a b : Int) : Int := if a < b then b else a
theorem max2_mx (k k' : IntKind) (x y : Int) : Builtin.max2 (.int k x) (.int k' y) = pure (.int k (mx2 x y)) := max2_int k k' x y
attribute [local go_sem] max2_mx max_two max_three
def mostM (bs : List (List Int)) : Int := bs.foldl (fun a b => mx2 (mx2 a (valB (b.take 8))) (valB (b.drop 120))) 0
theorem most_snoc (bs : List (List Int)) (b : List Int) : mostM (bs ++ [b]) = mx2 (mx2 (mostM bs) (valB (b.take 8))) (valB (b.drop 120)) := by
  unfold mostM
  rw [List.foldl_append]
  rfl
def freshL (fr n nx : Int) : LM := ⟨fr, n, 0, nx, 0, [], 0⟩
def openM (D : DM) (fr n : Int) : LM := (freshL fr n (IntKind.u64.wrap (mostM (rowsD D fr n) + 1))).taken (rowsD D fr n)
theorem mx2_le {a b c : Int} (h1 : a ≤ c) (h2 : b ≤ c) : mx2 a b ≤ c := by unfold mx2; split <;> omega
theorem mx2_0 {a b : Int} (h1 : 0 ≤ a) (h2 : 0 ≤ b) : 0 ≤ mx2 a b := by unfold mx2; split <;> omega
def Row128 (b : List Int) : Prop := b.length = 128 ∧ Byt b
theorem row_val {b : List Int} (h : Row128 b) : (0 ≤ valB (b.take 8) ∧ valB (b.take 8) ≤ 18446744073709551615) ∧ (0 ≤ valB (b.drop 120) ∧ valB (b.drop 120) ≤ 18446744073709551615) :=
  ⟨(num8_val (by rw [List.length_take, h.1]; rfl) (fun x hx => h.2 x (List.mem_of_mem_take hx))).2, (num8_val (by rw [List.length_drop, h.1]) (fun x hx => h.2 x (List.mem_of_mem_drop hx))).2⟩
theorem rows_128 {D : DM} (hok : D.Ok) (fr n : Int) : ∀ b ∈ rowsD D fr n, Row128 b := by
  intro b hb
  obtain ⟨s, hs, rfl⟩ := List.mem_map.1 hb
  have hm := hok.sz s (List.mem_of_mem_drop (List.mem_of_mem_take hs))
  exact ⟨by rw [bytesOf_length]; exact hm, byt_bytesOf s⟩
theorem wrap_in (x : Int) : 0 ≤ IntKind.u64.wrap x ∧ IntKind.u64.wrap x ≤ 18446744073709551615 := by
  have e : IntKind.u64.wrap x = x % 18446744073709551616 := by simp [IntKind.wrap, IntKind.bits, IntKind.signed]
  rw [e]
  omega
theorem fresh_ok {D : DM} (hok : D.Ok) {fr n : Int} (hb : ¬ bad D fr n) {nx : Int} (h0 : 0 ≤ nx) (h1 : nx ≤ 18446744073709551615) : (freshL fr n nx).Ok := by
  have hmax := d_len_max hok
  unfold bad at hb
  exact ⟨by show 0 ≤ fr; omega, by show 1 ≤ n; omega, by show fr + n ≤ 65536; omega, Int.le_refl 0, (by show (0 : Int) ≤ _; omega), h0, h1, Int.le_refl 0, by show (0 : Int) ≤ n; omega, Int.le_refl 0, (fun r hr => by cases hr), (fun r hr => by cases hr)⟩
section
variable {w : World} {F : Nat → Prop} {g gl : Nat} {D : DM}
theorem store_next {o' : Oper} {ev : Operand → Value} {wr : World} {cs : Array Value} (hp : wr.heap[gl]? = some (.cells cs 91 (0, 0))) (k k0 : Int) (hc : wr.cell? ⟨gl, 4, none⟩ = some (.int .u64 k0)) (x y : Operand) (ho : o'.op = .store 51 x y) (hx : ev x = .pointer (some ⟨gl, 4, none⟩)) (hy : ev y = .int .u64 k) :
    (execOp ev o').run Try.prog wr = .ok .skip (wr.setCell ⟨gl, 4, none⟩ (.int .u64 k)) := by
  have hf : wr.frozen? ⟨gl, 4, none⟩ = false := blk_frozen hp 4
  unfold execOp
  simp only [ho, hx, hy]
  go_simp
theorem open_calls (hd : DiskAt w F g D) (fr n : Int) : Calls Try.prog 36 #[.pointer (some ⟨g, 0, none⟩), .int .i64 fr, .int .i64 n] w fun e w' => ∃ v, e = .returned (.tuple #[v, .int .i64 (allE D fr n)]) ∧ (allE D fr n ≠ 0 → v = .pointer none) ∧ (allE D fr n = 0 → ∃ gl, v = .pointer (some ⟨gl, 0, none⟩) ∧ LogAt w' w.heap.size (fun k => w.heap.size ≤ k) gl g (openM D fr n)) ∧ Below w.heap.size w w' := by
  have hok : D.Ok := by obtain ⟨lb, _, _, _, _, h⟩ := hd; exact h
  have HA := Aside0.mk (And.intro (all_calls hd fr n) hok)
  clear hd hok
  by_cases hE : allE D fr n = 0
  · have hnb : ¬ bad D fr n := fun h => by have e : allE D fr n = 1 := if_pos h; rw [e] at hE; cases hE
    have hrl := rows_len hnb
    have hb' := hnb
    unfold bad at hb'
    have hmax := d_len_max HA.out.2
    rw [hE] at HA ⊢
    obtain ⟨m, rfl⟩ : ∃ m : Nat, n = m := ⟨n.toNat, by omega⟩
    have HN := Aside0.mk (And.intro hnb (And.intro hrl (show (m : Int) ≤ 65536 by omega)))
    have hM : (m : Int) ≤ 65536 := by omega
    clear hnb hrl hb' hmax hE
    go_enter Try.func36, Try.ntmps36
    go_wp2_with (first
      | (go_at_call 50; go_loud (refine HA.out.1.mono ?_; rintro e w1 ⟨v, rfl, _, h1, h2⟩; obtain ⟨A, c, rfl, _, _⟩ := Kd.R_reads (h1 rfl); have h3 := h1 rfl; rw [HN.out.2.1, show ((m : Int)).toNat = m from rfl] at h3 ⊢; have H1 := Aside0.mk (And.intro h3 h2); clear h1 h2 h3)))
    obtain ⟨gl, hgl⟩ : ∃ gl, gl = w1.heap.size := ⟨_, rfl⟩
    obtain ⟨wa, hwa⟩ : ∃ wa, wa = w1.alloc (.cells #[.pointer (some ⟨g, 0, none⟩), .int .i64 fr, .int .i64 m, .int .u64 0, .int .u64 0, .int .i64 0, .slice none 0 0, .int .i64 0] 91) := ⟨_, rfl⟩
    rw [← hgl, ← hwa]
    have hba : Below w1.heap.size w1 wa := by rw [hwa]; exact below_alloc (Below.refl _ _) _
    have HG := Aside0.mk (And.intro (show w.heap.size ≤ gl by rw [hgl]; exact H1.out.2.size) (And.intro (below_step H1.out.2 hba) (And.intro (show wa.heap[gl]? = some (.cells (lcells g (freshL fr m 0) (.slice none 0 0)) 91 (0, 0)) by rw [hwa, hgl]; exact blk_new w1 _) (Kd.R_below (Kd.R_mono (Kd.R_bound H1.out.1) (fun k hk => (show k < gl by rw [hgl]; exact hk.2.2.1))) hba))))
    clear hba hgl hwa H1
    obtain ⟨bs, hbs⟩ : ∃ bs, bs = rowsD D fr m := ⟨_, rfl⟩
    rw [← hbs] at HG
    have HB := Aside0.mk (And.intro hbs (And.intro (show bs.length = m by rw [hbs, HN.out.2.1]; rfl) (show ∀ b ∈ bs, Row128 b by rw [hbs]; exact rows_128 HA.out.2 fr m)))
    clear hbs
    go_loopg [30] m (fun q v30 wr => ∃ i : Nat, v30 = .int .i64 i ∧ q + i = m ∧ Aside0 (Below gl wa wr ∧ wr.heap[gl]? = some (.cells (lcells g (freshL fr m (mostM (bs.take i))) (.slice none 0 0)) 91 (0, 0))))
    case atStart => exact ⟨0, rfl, by omega, ⟨Below.refl _ _, HG.out.2.2.1⟩⟩
    case round =>
      obtain ⟨i, rfl, hq, hI⟩ := hrel
      by_cases hlt : i < m
      · obtain ⟨ad, A0, c0, rfl, hcell, hc0, hC0⟩ := row_at HG.out.2.2.2 hI.out.1 i hlt
        have hil : i < bs.length := by rw [HB.out.2.1]; exact hlt
        obtain ⟨b, hb⟩ : ∃ b, b = bs.getD i [] := ⟨_, rfl⟩
        have hmem : b ∈ bs := by rw [hb, List.getD_eq_getElem?_getD, List.getElem?_eq_getElem hil]; exact List.getElem_mem hil
        have hr128 := HB.out.2.2 b hmem
        have hsn := takeR_snoc hil
        rw [← hb] at hcell hc0 hC0 hsn
        rw [hr128.1] at hcell hc0 hC0
        obtain ⟨a0, rfl, _⟩ := cells_C (by rw [← hr128.1] at hC0; exact hC0 wr hI.out.1) (by rw [hr128.1]; omega)
        obtain ⟨nx, hnx⟩ : ∃ nx, nx = mostM (bs.take i) := ⟨_, rfl⟩
        have HR := Aside0.mk (And.intro hr128 (And.intro hC0 (And.intro hsn hnx)))
        have q8 : ((8 : Int) ≤ (c0 : Int)) = True := eq_true (by omega)
        have q9 : (c0 = 120) = False := eq_false (by omega)
        have HC0 := Aside0.mk hc0
        clear hb hmem hr128 hsn hC0 hnx hil hc0
        go_upto_region 8 with (fail)
        obtain ⟨wd, hwd⟩ : ∃ wd, wd = wr.drew := ⟨_, rfl⟩
        have hbd : Below wr.heap.size wr wd := by rw [hwd]; exact below_drew1 (Below.refl _ _)
        have HD := Aside0.mk (And.intro (hI.out.1.trans (hbd.mono (Nat.le_of_lt (blk_lt hI.out.2)))) ((hbd.block _ (blk_lt hI.out.2)).trans hI.out.2))
        have s4 : wd.cell? ⟨gl, 4, none⟩ = some (.int .u64 nx) := (blk_cell HD.out.2 4).trans (by rw [HR.out.2.2.2]; rfl)
        clear hbd
        refine start_ (n := 15) (S := (fun w' => w'.cell? ⟨gl, 4, none⟩ = some (.int .u64 nx))) (ds := [14]) #[false, false, false, false, false, false, false, false, false, false, false, false, false, false, false] (by kernel_rfl) rfl (by kernel_rfl) ((by rw [← hwd]; exact s4)) (fun hHeld => ?_)
        rw [← hwd] at hHeld ⊢
        clear hwd
        refine pure_ (i := 0) (N := some 34) (v := ?_) (a' := ?_) #[true, false, false, false, false, false, false, false, false, false, false, false, false, false, false] rfl rfl (by kernel_rfl) (fun _ _ _ h => h) (Or.inl ⟨by rfl, ?_⟩) ?_ ?_
        rotate_left
        · intro w'
          go_simp
          with_reducible rfl
        rotate_left
        · simp only [Act.put, List.setIfInBounds_toArray, List.set_cons_zero, List.set_cons_succ, i64_w, i32_w]
          rfl
        refine pure_ (i := 1) (N := some 35) (v := ?_) (a' := ?_) #[true, true, false, false, false, false, false, false, false, false, false, false, false, false, false] rfl rfl (by kernel_rfl) (fun _ _ _ h => h) (Or.inl ⟨by rfl, ?_⟩) ?_ ?_
        rotate_left
        · intro w'
          go_simp
          with_reducible rfl
        rotate_left
        · simp only [Act.put, List.setIfInBounds_toArray, List.set_cons_zero, List.set_cons_succ, i64_w, i32_w]
          rfl
        refine pure_ (i := 2) (N := some 36) (v := ?_) (a' := ?_) #[true, true, true, false, false, false, false, false, false, false, false, false, false, false, false] rfl rfl (by kernel_rfl) (fun _ _ _ h => h) (Or.inl ⟨by rfl, ?_⟩) ?_ ?_
        rotate_left
        · intro w'
          go_simp
          with_reducible rfl
        rotate_left
        · simp only [Act.put, List.setIfInBounds_toArray, List.set_cons_zero, List.set_cons_succ, i64_w, i32_w]
          rfl
        refine pure_ (i := 3) (N := some 37) (v := ?_) (a' := ?_) #[true, true, true, true, false, false, false, false, false, false, false, false, false, false, false] rfl rfl (by kernel_rfl) (fun _ _ _ h => h) (Or.inl ⟨by rfl, ?_⟩) ?_ ?_
        rotate_left
        · intro w'
          go_simp
          with_reducible rfl
        rotate_left
        · simp only [Act.put, List.setIfInBounds_toArray, List.set_cons_zero, List.set_cons_succ, i64_w, i32_w]
          rfl
        refine take_ (i := 4) (N := some 38) (v := ?_) (a' := ?_) #[true, true, true, true, true, false, false, false, false, false, false, false, false, false, false] rfl rfl (by kernel_rfl) (fun _ _ _ h => h) (Or.inl ⟨by rfl, ?_⟩) hHeld ?_ ?_
        rotate_left
        · rintro w' s0
          go_simp
          with_reducible rfl
        rotate_left
        · simp only [Act.put, List.setIfInBounds_toArray, List.set_cons_zero, List.set_cons_succ, i64_w, i32_w]
          rfl
        refine pure_ (i := 5) (N := some 39) (v := ?_) (a' := ?_) #[true, true, true, true, true, true, false, false, false, false, false, false, false, false, false] rfl rfl (by kernel_rfl) (fun _ _ _ h => h) (Or.inl ⟨by rfl, ?_⟩) ?_ ?_
        rotate_left
        · intro w'
          go_simp
          with_reducible rfl
        rotate_left
        · simp only [Act.put, List.setIfInBounds_toArray, List.set_cons_zero, List.set_cons_succ, i64_w, i32_w]
          rfl
        refine pure_ (i := 6) (N := some 40) (v := ?_) (a' := ?_) #[true, true, true, true, true, true, true, false, false, false, false, false, false, false, false] rfl rfl (by kernel_rfl) (fun _ _ _ h => h) (Or.inl ⟨by rfl, ?_⟩) ?_ ?_
        rotate_left
        · intro w'
          go_simp
          with_reducible rfl
        rotate_left
        · simp only [Act.put, List.setIfInBounds_toArray, List.set_cons_zero, List.set_cons_succ, i64_w, i32_w]
          rfl
        refine pure_ (i := 8) (N := some 42) (v := ?_) (a' := ?_) #[true, true, true, true, true, true, true, false, true, false, false, false, false, false, false] rfl rfl (by kernel_rfl) (fun _ _ _ h => h) (Or.inl ⟨by rfl, ?_⟩) ?_ ?_
        rotate_left
        · intro w'
          go_simp
          with_reducible rfl
        rotate_left
        · simp only [Act.put, List.setIfInBounds_toArray, List.set_cons_zero, List.set_cons_succ, i64_w, i32_w]
          rfl
        refine pure_ (i := 9) (N := some 43) (v := ?_) (a' := ?_) #[true, true, true, true, true, true, true, false, true, true, false, false, false, false, false] rfl rfl (by kernel_rfl) (fun _ _ _ h => h) (Or.inl ⟨by rfl, ?_⟩) ?_ ?_
        rotate_left
        · intro w'
          go_simp
          with_reducible rfl
        rotate_left
        · simp only [Act.put, List.setIfInBounds_toArray, List.set_cons_zero, List.set_cons_succ, i64_w, i32_w]
          rfl
        refine one_ (i := 7) (N := some 41) #[true, true, true, true, true, true, true, true, true, true, false, false, false, false, false] rfl rfl (by kernel_rfl) (by decide) (fun K hK => ?_)
        have hv1 := value_calls (w := wd) (xs := b.take 8) (some a0) c0 (by rw [show (b.take 8).length = 8 by rw [List.length_take, HR.out.1.1]; rfl]; have h := Kd.C_take (m := 8) (by rw [HR.out.1.1]; exact HR.out.2.1 wd HD.out.1) (by rw [HR.out.1.1]; omega); rw [show (b.take 8).length = 8 by rw [List.length_take, HR.out.1.1]; rfl] at h; exact h) (by rw [List.length_take]; have := HC0.out; omega) (fun x hx => HR.out.1.2 x (List.mem_of_mem_take hx)) (by rw [List.length_take]; omega)
        rw [show (b.take 8).length = 8 by rw [List.length_take, HR.out.1.1]; rfl] at hv1
        refine goes_ Try.func51 (by kernel_rfl) rfl #[.slice (some a0) 8 c0] (by rfl) rfl rfl (by (try simp only [List.map_toArray, List.map_cons, List.map_nil]); rfl) ?_
        refine hv1.mono ?_
        rintro x w3 ⟨rfl, hb3⟩
        refine ⟨_, rfl, ?_⟩
        have s4' := cell_below s4 hb3
        have H3 := Aside0.mk (And.intro (HD.out.1.trans (hb3.mono (Nat.le_of_lt (blk_lt HD.out.2)))) ((hb3.block _ (blk_lt HD.out.2)).trans HD.out.2))
        clear hv1 hb3
        refine hK.out _ _ (s4') (fun hHeld => ?_)
        clear hK K
        refine norm_ (a' := ?_) ?_ ?_
        rotate_left
        · show Act.put _ (some 41) _ = _
          simp only [Act.put, List.setIfInBounds_toArray, List.set_cons_zero, List.set_cons_succ, i64_w, i32_w]
          rfl
        refine one_ (i := 10) (N := some 44) #[true, true, true, true, true, true, true, true, true, true, true, false, false, false, false] rfl rfl (by kernel_rfl) (by decide) (fun K hK => ?_)
        have hv2 := value_calls (w := w3) (xs := b.drop 120) (if c0 = 120 then some a0 else (some a0).map (·.add (120 * 1))) (c0 - 120) (Kd.C_drop (m := 120) (c := c0) (by rw [HR.out.1.1]; exact HR.out.2.1 w3 H3.out.1) (by rw [HR.out.1.1]; omega) (by rw [HR.out.1.1]; exact HC0.out)) (by rw [List.length_drop, HR.out.1.1]; have := HC0.out; omega) (fun x hx => HR.out.1.2 x (List.mem_of_mem_drop hx)) (by rw [List.length_drop, HR.out.1.1]; omega)
        rw [show (b.drop 120).length = 8 by rw [List.length_drop, HR.out.1.1], if_neg (by have := HC0.out; omega)] at hv2
        refine goes_ Try.func51 (by kernel_rfl) rfl #[.slice (some ⟨a0.block, a0.off + 120, none⟩) 8 (c0 - 120)] (by rfl) rfl rfl (by (try simp only [List.map_toArray, List.map_cons, List.map_nil]); rfl) ?_
        refine Calls.mono (show Calls Try.prog 51 #[.slice (some ⟨a0.block, a0.off + 120, none⟩) 8 (c0 - 120)] w3 _ from hv2) ?_
        rintro x w4 ⟨rfl, hb4⟩
        refine ⟨_, rfl, ?_⟩
        have s4'' := cell_below s4' hb4
        have H4 := Aside0.mk (And.intro (H3.out.1.trans (hb4.mono (Nat.le_of_lt (blk_lt H3.out.2)))) ((hb4.block _ (blk_lt H3.out.2)).trans H3.out.2))
        clear hv2 hb4
        refine hK.out _ _ (s4'') (fun hHeld => ?_)
        clear hK K
        refine norm_ (a' := ?_) ?_ ?_
        rotate_left
        · show Act.put _ (some 44) _ = _
          simp only [Act.put, List.setIfInBounds_toArray, List.set_cons_zero, List.set_cons_succ, i64_w, i32_w]
          rfl
        refine pure_ (i := 11) (N := some 45) (v := ?_) (a' := ?_) #[true, true, true, true, true, true, true, true, true, true, true, true, false, false, false] rfl rfl (by kernel_rfl) (fun _ _ _ h => h) (Or.inl ⟨by rfl, ?_⟩) ?_ ?_
        rotate_left
        · intro w'
          go_simp
          with_reducible rfl
        rotate_left
        · simp only [Act.put, List.setIfInBounds_toArray, List.set_cons_zero, List.set_cons_succ, i64_w, i32_w]
          rfl
        refine pure_ (i := 12) (N := some 46) (v := ?_) (a' := ?_) #[true, true, true, true, true, true, true, true, true, true, true, true, true, false, false] rfl rfl (by kernel_rfl) (fun _ _ _ h => h) (Or.inl ⟨by rfl, ?_⟩) ?_ ?_
        rotate_left
        · intro w'
          go_simp
          with_reducible rfl
        rotate_left
        · simp only [Act.put, List.setIfInBounds_toArray, List.set_cons_zero, List.set_cons_succ, i64_w, i32_w]
          rfl
        refine pure_ (i := 13) (N := some 47) (v := ?_) (a' := ?_) #[true, true, true, true, true, true, true, true, true, true, true, true, true, true, false] rfl rfl (by kernel_rfl) (fun _ _ _ h => h) (Or.inl ⟨by rfl, ?_⟩) ?_ ?_
        rotate_left
        · intro w'
          go_simp
          with_reducible rfl
        rotate_left
        · simp only [Act.put, List.setIfInBounds_toArray, List.set_cons_zero, List.set_cons_succ, i64_w, i32_w]
          rfl
        refine last_ (i := 14) (N := none) #[true, true, true, true, true, true, true, true, true, true, true, true, true, true, true] rfl rfl (by kernel_rfl) (by decide) (fun K hK => ?_)
        obtain ⟨ny, hny⟩ : ∃ ny, ny = mx2 (mx2 nx (valB (b.take 8))) (valB (b.drop 120)) := ⟨_, rfl⟩
        rw [← hny]
        refine skip_ (w1 := w4.setCell ⟨gl, 4, none⟩ (.int .u64 ny)) (by rfl) rfl ?hr ?_
        case hr => exact store_next H4.out.2 ny nx s4'' (.tmp 47) (.tmp 45) rfl rfl rfl
        obtain ⟨w5, hw5⟩ : ∃ w5, w5 = w4.setCell ⟨gl, 4, none⟩ (.int .u64 ny) := ⟨_, rfl⟩
        have H5 : Aside0 (Below gl wa w5 ∧ w5.heap[gl]? = some (.cells (lcells g (freshL fr m (mostM (bs.take (i + 1)))) (.slice none 0 0)) 91 (0, 0))) := ⟨by
          rw [hw5, HR.out.2.2.1, most_snoc, ← HR.out.2.2.2, ← hny]
          refine ⟨H4.out.1.setCell (Nat.le_refl _) _, ?_⟩
          have := blk_set H4.out.2 4 (.int .u64 ny)
          exact this⟩
        rw [← hw5]
        clear hw5 hny s4 s4' s4''
        refine hK.out _ _ ?_
        clear hK K
        refine done_ (by kernel_rfl) ?_
        go_wp2
        go_roundg (m - (i + 1))
        case measure => omega
        case rel => exact ⟨i + 1, by go_num, by omega, H5⟩
      · have hin : i = m := by omega
        have htk : bs.take i = bs := List.take_of_length_le (by rw [HB.out.2.1]; omega)
        rw [htk] at hI
        obtain ⟨nx, hnx⟩ : ∃ nx, nx = mostM bs := ⟨_, rfl⟩
        rw [← hnx] at hI
        have HX := Aside0.mk hnx
        have c4 : wr.cell? ⟨gl, 4, none⟩ = some (.int .u64 nx) := (blk_cell hI.out.2 4).trans rfl
        have f4 : wr.frozen? ⟨gl, 4, none⟩ = false := blk_frozen hI.out.2 4
        have HZ := Aside0.mk (show Below gl wa (wr.setCell ⟨gl, 4, none⟩ (.int .u64 (IntKind.u64.wrap (nx + 1)))) ∧ LogAt (wr.setCell ⟨gl, 4, none⟩ (.int .u64 (IntKind.u64.wrap (nx + 1)))) gl (fun k => gl ≤ k) gl g (freshL fr m (IntKind.u64.wrap (nx + 1))) from by
          have hb5 := hI.out.1.setCell (p := ⟨gl, 4, none⟩) (Nat.le_refl _) (.int .u64 (IntKind.u64.wrap (nx + 1)))
          refine ⟨hb5, .slice none 0 0, Nat.le_refl _, Nat.le_refl _, ?_, Kd.R_nil _ _ _ _ _, fresh_ok HA.out.2 HN.out.1 (wrap_in _).1 (wrap_in _).2⟩
          have := blk_set hI.out.2 4 (.int .u64 (IntKind.u64.wrap (nx + 1)))
          exact this)
        clear htk hnx hin
        go_wp2_with (go_at_call 52; go_loud (refine (take_calls HZ.out.2 ⟨rfl, rfl, rfl⟩ A m c (Kd.R_step HG.out.2.2.2 (fun k hk _ => HZ.out.1.block k hk)) (by rw [HB.out.2.1]; exact Int.le_refl _) (fun b hb => (HB.out.2.2 b hb).2)).mono ?_; rintro e w6 ⟨rfl, h6, h7⟩; have H6 := Aside0.mk (And.intro h6 h7); clear h6 h7))
        go_ret2
        have hle := HG.out.1
        refine ⟨_, rfl, fun h => absurd rfl h, fun _ => ⟨gl, rfl, ?_⟩, ?_⟩
        · have hfin := (H6.out.1.lower hle).mono (G := fun k => w.heap.size ≤ k) (fun k hk => Nat.le_trans hle hk)
          unfold openM
          rw [← HB.out.1, ← HX.out]
          exact hfin
        · exact HG.out.2.1.trans ((HZ.out.1.trans H6.out.2).mono hle)
  · obtain ⟨q, hq⟩ : ∃ q, q = allE D fr n := ⟨_, rfl⟩
    rw [← hq] at HA hE ⊢
    have hb : (q != 0) = true := bne_iff_ne.2 hE
    have HE := Aside0.mk hE
    clear hE hq
    go_enter Try.func36, Try.ntmps36
    go_wp2_with (first
      | (go_at_call 50; go_loud (refine HA.out.1.mono ?_; rintro e w1 ⟨v, rfl, h1, _, h2⟩; obtain rfl := h1 HE.out; clear h1 h2)))
    go_ret2
    exact ⟨_, rfl, fun _ => rfl, fun h => absurd h HE.out, Below.refl _ _⟩
end
end Go.Proofs.Ytnajdnhgoakgaaa.Wal
