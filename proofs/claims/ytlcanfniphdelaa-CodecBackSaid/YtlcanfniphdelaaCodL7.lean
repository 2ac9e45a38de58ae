/- The law CodecBack, walked. -/
import Derived.Test.YtlcanfniphdelaaCodL6
namespace Go.Proofs.Ytlcanfniphdelaa.Cod
open Go.RowKit Go.Proofs.YtlcanfniphdelaaW.PrintWords Go.Proofs.YtlcanfniphdelaaW.PrintLast Go.Proofs.YtlcanfniphdelaaW.PrintMore Go.Proofs.Ytlcanfniphdelaa.Mem Go.Proofs.Ytlcanfniphdelaa.PCod Go.Proofs.Ytlcanfniphdelaa.Conv Go.Proofs.Ytlcanfniphdelaa.Open
set_option linter.unusedVariables false
set_option linter.unusedSimpArgs false
set_option maxRecDepth 8000
set_option maxHeartbeats 4000000
section
variable {w : World} {R : RM} {b r xs : List Int}
/-- The writer holds what the first parts put. -/
def BkI (w w1 wr : World) (l : List Part) (i : Nat) : Prop := (∃ F : Nat → Prop, WrAt wr w1.heap.size F w1.heap.size (allPut (l.take i)) ∧ ∀ k, F k → w1.heap.size ≤ k ∧ k < wr.heap.size) ∧ Below w.heap.size w wr ∧ ∀ j, j < i → (l.getD j Part.none).b.length ≤ 200
theorem c_far {w wr V : World} {F : Nat → Prop} {A : Option Addr} {n : Nat} {xs : List Int} (h : Kd.C (Kd.int .u8) w A n xs) (hb : Below w.heap.size w wr) (hk : Kept wr V F) (hF : ∀ k, F k → w.heap.size ≤ k) : Kd.C (Kd.int .u8) V A n xs :=
  C_kept (S := fun _ => False) h ((Kept.of_below hb (fun _ => False)).then_ hk (fun k hk => .inr (hF k hk))) (fun _ _ h => h)
theorem bk_step {w w1 w4 w5 : World} {l : List Part} {i : Nat} {F : Nat → Prop} {zs : List Int} (hi : i < l.length) (hd : WrAt w4 w1.heap.size F w1.heap.size zs) (hz : zs = allPut (l.take i) ++ partPut (l.getD i Part.none)) (hb : Below w.heap.size w w4) (hs : Below w4.heap.size w4 w5) (hF : ∀ k, F k → w1.heap.size ≤ k) (h : ∀ j, j < i → (l.getD j Part.none).b.length ≤ 200) (h2 : (l.getD i Part.none).b.length ≤ 200) : BkI w w1 w5 l (i + 1) := by
  rw [← allPut_snoc, ← takeP_snoc hi] at hz
  rw [hz] at hd
  refine ⟨⟨Cut w1.heap.size w4 F, (hd.cut).below hs, fun k hk => ⟨hk.2.1, Nat.lt_of_lt_of_le hk.2.2 hs.size⟩⟩, below_step hb hs, fun j hj => ?_⟩
  by_cases e : j = i
  · rw [e]; exact h2
  · exact h j (by omega)
theorem back_law (A : Option Addr) (n c : Nat) (l : List Part) (hn : n = l.length) (hp : PartsAt w A l) (hok : ∀ q ∈ l, q.Ok) :
    Calls Try.prog 3 #[.slice A n c] w fun e w' => e = .returned (.bool true) ∧ Below w.heap.size w w' := by
  have hnn : n ≤ 9223372036854775807 := by rw [hn]; exact hp.1
  by_cases h30 : n > 30
  · have d1 : decide (30 < (n : Int)) = true := decide_eq_true (by omega)
    clear hn hp hok
    go_enter Try.func3, Try.ntmps3
    go_wp2_with (go_at_call 9; go_loud (refine awake_calls.mono ?_; rintro e w1 ⟨rfl, hb1⟩; have HB1 := Aside0.mk hb1; clear hb1))
    go_ret
    exact ⟨rfl, HB1.out⟩
  · have d1 : decide (30 < (n : Int)) = false := decide_eq_false (by omega)
    have h31 : n ≤ 30 := by omega
    have HP := Aside0.mk (And.intro hn (And.intro hp hok))
    clear hn hp hok h30
    go_enter Try.func3, Try.ntmps3
    go_wp2_with (first
      | (go_at_call 9; go_loud (refine awake_calls.mono ?_; rintro e w1 ⟨rfl, hb1⟩; have H1 := Aside0.mk hb1; clear hb1))
      | (go_at_call 10; go_loud (refine (newWriter_calls (w := w1)).mono ?_; rintro e w2 ⟨rfl, hd2, hb2⟩; have H2 := Aside0.mk (And.intro hd2 hb2); clear hd2 hb2)))
    have HI0 : Aside0 (BkI w w1 w2 l 0) := ⟨⟨_, H2.out.1, fun k h => h⟩, below_step H1.out H2.out.2, fun j hj => by omega⟩
    go_loopg [5, 6] n (fun q v5 v6 wr => ∃ i : Nat, v6 = .int .i64 i ∧ v5 = .string (S (allPut (l.take i))) ∧ q + i = n ∧ Aside0 (BkI w w1 wr l i))
    case atStart => exact ⟨0, rfl, rfl, by omega, HI0⟩
    case round =>
      clear HI0
      obtain ⟨i, rfl, rfl, hq, hI⟩ := hrel
      by_cases hlt : i < n
      · have d2 : decide ((i : Int) < (n : Int)) = true := decide_eq_true (by omega)
        have d2n : decide (i < n) = true := decide_eq_true (by omega)
        have hil : i < l.length := by have := HP.out.1; omega
        have hpo : (l.getD i Part.none).Ok := HP.out.2.2 _ (by rw [List.getD_eq_getElem?_getD, List.getElem?_eq_getElem hil]; exact List.getElem_mem hil)
        obtain ⟨ad, B, cb, rfl, hall⟩ := part_at HP.out.2.1 hil
        have hcell := fun W h => (hall W h).1
        have hC := fun W h => (hall W h).2.1
        have hcb := (hall w (Below.refl _ _)).2.2
        clear hall
        obtain ⟨p, hpp⟩ : ∃ p, p = l.getD i Part.none := ⟨_, rfl⟩
        rw [← hpp] at hcell hC hcb hpo
        have hlen := allPut_len l i (by omega) hI.out.2.2
        obtain ⟨X, hX⟩ : ∃ X, X = S (allPut (l.take i)) := ⟨_, rfl⟩
        rw [← hX]
        have hXs : X.size ≤ 6300 := by rw [hX, S_size]; omega
        obtain ⟨c0, c1, c1', c2, c2'⟩ := hcell wr hI.out.2.1
        obtain ⟨nb, hnb⟩ : ∃ nb, nb = p.b.length := ⟨_, rfl⟩
        obtain ⟨px, hpx⟩ : ∃ x, x = p.x := ⟨_, rfl⟩
        obtain ⟨pk, hpk⟩ : ∃ x, x = p.k := ⟨_, rfl⟩
        rw [← hpk] at c0
        rw [← hpx] at c1 c1'
        rw [← hnb] at c2 c2'
        have HC := Aside0.mk hcell
        have HM := Aside0.mk (And.intro hpp (And.intro hX (And.intro hnb (And.intro hpx (And.intro hpk (And.intro hC (And.intro hcb (And.intro hpo (And.intro hil hlen)))))))))
        have k0 : -9223372036854775808 ≤ pk := by rw [hpk]; exact hpo.1.1
        have k1 : pk ≤ 9223372036854775807 := by rw [hpk]; exact hpo.1.2
        have x0 : 0 ≤ px := by rw [hpx]; exact hpo.2.1.1
        have x1 : px ≤ 18446744073709551615 := by rw [hpx]; exact hpo.2.1.2
        clear hcell hpp hX hnb hpx hpk hC hcb hpo hil hlen
        by_cases h200 : 200 < nb
        · have d3 : decide (200 < (nb : Int)) = true := decide_eq_true (by omega)
          have d3n : decide (200 < nb) = true := decide_eq_true (by omega)
          have HB := Aside0.mk hI.out.2.1
          clear hI
          go_wp2
          go_ret
          exact ⟨rfl, HB.out⟩
        · have d3 : decide (200 < (nb : Int)) = false := decide_eq_false (by omega)
          have d3n : decide (200 < nb) = false := decide_eq_false (by omega)
          have h201 : nb ≤ 200 := by omega
          clear h200
          obtain ⟨q, hqd⟩ : ∃ q, q = bits .and .i64 pk 3 := ⟨_, rfl⟩
          have hqe : bits .and .i64 pk 3 = q := hqd.symm
          have HQ := Aside0.mk hqd
          clear hqd
          by_cases h01 : q = 0 ∨ q = 1
          · have hz : partPut p = putNum px := by
              obtain ⟨hpp, hX, hnb, hpx, hpk, hC, hcb, hpo, hil, hlen⟩ := HM.out
              unfold partPut qk
              rw [if_pos (by rw [← hpk, hqe]; exact h01), ← hpx]
            obtain ⟨Y, hY⟩ : ∃ Y, Y = S (putNum px) := ⟨_, rfl⟩
            have hYs : Y.size ≤ 10 := by rw [hY, S_size]; exact (putNum_len px).1
            have hzz : (9223372036854775807 < X.size + Y.size) = False := eq_false (by omega)
            have HZ := Aside0.mk (And.intro hz hY)
            clear hz hY
            go_wp2_with (first
              | (go_at_call 11; go_loud (obtain ⟨⟨F, hW, hF⟩, hbw, h2⟩ := hI.out; have hlen := HM.out.2.2.2.2.2.2.2.2.2; have hx := wuint_calls hbw (below_size H1.out) hW px x0 (by omega) (by omega); refine hx.mono ?_; clear hx; rintro e w4 ⟨rfl, hd4, hb4, hk4⟩; have hc4 := HC.out w4 hb4; obtain ⟨a0, a1, a1', a2, a2'⟩ := hc4; rw [← HM.out.2.2.2.1] at a1 a1'; have hF4 : ∀ k, Or F wr k → w1.heap.size ≤ k := (fun k hk => by rcases hk with h | h; exact (hF k h).1; have := hbw.size; have := below_size H1.out; have h6 : w1.heap.size < wr.heap.size := (by obtain ⟨_, _, _, h, _⟩ := hW; exact blk_lt h); omega); have H4 := Aside0.mk (And.intro hd4 (And.intro hb4 (And.intro hF4 h2))); clear hd4 hb4 hk4 hF4 a0 a2 a2' hW hF hbw h2 hlen))
              | (go_at_call 12; go_loud (refine (ref_put (w := w4) px x0 (by omega)).mono ?_; rw [← HZ.out.2]; rintro e w5 ⟨rfl, hb5⟩; have H5 := Aside0.mk hb5; clear hb5)))
            all_goals
              go_roundg (n - (i + 1))
              case measure => omega
              case rel =>
                obtain ⟨hd4, hb4, hF4, h2⟩ := H4.out
                obtain ⟨hz, hY⟩ := HZ.out
                obtain ⟨hpp, hX, hnb, hpx, hpk, hC, hcb, hpo, hil, hlen⟩ := HM.out
                rw [hpp] at hz hnb
                exact ⟨i + 1, by go_num, by rw [hX, hY, S_app, ← hz, ← allPut_snoc, ← takeP_snoc hil], by omega, ⟨bk_step hil hd4 (by rw [hz]) hb4 H5.out hF4 h2 (by omega)⟩⟩
          · by_cases h02 : q = 2
            · have hz : partPut p = putNum nb ++ p.b := by
                obtain ⟨hpp, hX, hnb, hpx, hpk, hC, hcb, hpo, hil, hlen⟩ := HM.out
                unfold partPut qk
                rw [if_neg (by rw [← hpk, hqe]; exact h01), if_pos (by rw [← hpk, hqe]; exact h02), ← hnb]
              subst h02
              clear h01
              obtain ⟨Y, hY⟩ : ∃ Y, Y = S (putNum nb ++ p.b) := ⟨_, rfl⟩
              have hYs : Y.size ≤ 210 := by rw [hY, S_size, List.length_append]; have := (putNum_len nb).1; have := HM.out.2.2.1; omega
              have hzz : (9223372036854775807 < X.size + Y.size) = False := eq_false (by omega)
              have HZ := Aside0.mk (And.intro hz hY)
              clear hz hY
              go_wp2_with (first
                | (go_at_call 13; go_loud (obtain ⟨⟨F, hW, hF⟩, hbw, h2⟩ := hI.out; obtain ⟨hpp, hX, hnb, hpx, hpk, hC, hcb, hpo, hil, hlen⟩ := HM.out; have hx := wbytes_calls0 hbw (below_size H1.out) hW B nb cb hnb (fun V hV => c_far (hC w (Below.refl _ _)) hbw hV (fun k h => Nat.le_trans (below_size H1.out) (hF k h).1)) (by omega) hpo.2.2; rw [← hnb] at hx; refine hx.mono ?_; clear hx; rintro e w4 ⟨rfl, hd4, hb4, hk4⟩; have hc4 := HC.out w4 hb4; obtain ⟨a0, a1, a1', a2, a2'⟩ := hc4; rw [← hnb] at a2 a2'; have hcv := conv_row (c := cb) hnb (hC w (Below.refl _ _)) hb4; have hF4 : ∀ k, Or F wr k → w1.heap.size ≤ k := (fun k hk => by rcases hk with h | h; exact (hF k h).1; have := hbw.size; have := below_size H1.out; have h6 : w1.heap.size < wr.heap.size := (by obtain ⟨_, _, _, h, _⟩ := hW; exact blk_lt h); omega); have H4 := Aside0.mk (And.intro hd4 (And.intro hb4 (And.intro hF4 h2))); clear hd4 hb4 hk4 hF4 a0 a1 a1' hW hF hbw h2 hlen hpp hX hnb hpx hpk hC hcb hpo hil))
                | (go_at_call 14; go_loud (have hx := ref_with (w := w4) p.b (by have := HM.out.2.2.1; omega); rw [← HM.out.2.2.1, ← HZ.out.2] at hx; refine hx.mono ?_; clear hx; rintro e w5 ⟨rfl, hb5⟩; have H5 := Aside0.mk hb5; clear hb5 hcv)))
              go_roundg (n - (i + 1))
              case measure => omega
              case rel =>
                obtain ⟨hd4, hb4, hF4, h2⟩ := H4.out
                obtain ⟨hz, hY⟩ := HZ.out
                obtain ⟨hpp, hX, hnb, hpx, hpk, hC, hcb, hpo, hil, hlen⟩ := HM.out
                rw [hpp] at hz hnb
                rw [hpp] at hY hd4
                exact ⟨i + 1, by go_num, by rw [hX, hY, S_app, ← hz, ← allPut_snoc, ← takeP_snoc hil], by omega, ⟨bk_step hil hd4 (by rw [hz, List.append_assoc]) hb4 H5.out hF4 h2 (by omega)⟩⟩
            · have hz : partPut p = [px % 2] ++ p.b := by
                obtain ⟨hpp, hX, hnb, hpx, hpk, hC, hcb, hpo, hil, hlen⟩ := HM.out
                unfold partPut qk
                rw [if_neg (by rw [← hpk, hqe]; exact h01), if_neg (by rw [← hpk, hqe]; exact h02), ← hpx]
              have e0 : (q == 0) = false := beq_eq_false_iff_ne.2 (by omega)
              have e1 : (q == 1) = false := beq_eq_false_iff_ne.2 (by omega)
              have e2 : (q == 2) = false := beq_eq_false_iff_ne.2 (by omega)
              obtain ⟨y, hy⟩ : ∃ y, y = bits .and .u64 px 1 := ⟨_, rfl⟩
              have hye : bits .and .u64 px 1 = y := hy.symm
              have hy2 : y = px % 2 := by rw [hy]; exact and_1 ⟨x0, x1⟩
              have y0 : 0 ≤ y := by omega
              have y1 : y ≤ 1 := by omega
              have hw8 : IntKind.u8.wrap y = y := by unfold IntKind.wrap; simp [IntKind.bits, IntKind.signed]; omega
              have hbt : bit (y == 1) = px % 2 := by rw [hy2]; exact bit_mod px
              have HY := Aside0.mk (And.intro hy2 hbt)
              obtain ⟨Y1, hY1⟩ : ∃ Y, Y = S [y] := ⟨_, rfl⟩
              obtain ⟨Y2, hY2⟩ : ∃ Y, Y = S p.b := ⟨_, rfl⟩
              have hs1 : Y1.size = 1 := by rw [hY1, S_size]; rfl
              have hs2 : Y2.size ≤ 200 := by rw [hY2, S_size]; have := HM.out.2.2.1; omega
              have hz1 : (9223372036854775807 < Y1.size + Y2.size) = False := eq_false (by omega)
              have hz2 : (9223372036854775807 < X.size + (Y1.size + Y2.size)) = False := eq_false (by omega)
              have hz3 : (9223372036854775807 < X.size + (Y1 ++ Y2).size) = False := eq_false (by rw [ByteArray.size_append]; omega)
              have hz4 : (9223372036854775807 < 1 + Y2.size) = False := eq_false (by omega)
              have hz5 : (9223372036854775807 < X.size + (1 + Y2.size)) = False := eq_false (by omega)
              clear hz1 hz2
              have HZ := Aside0.mk (And.intro hz (And.intro hY1 hY2))
              clear hz hY1 hY2 hy hy2 hbt h01 h02
              go_upto_region 16 with (first
                | (go_at_call 15; go_loud (obtain ⟨⟨F, hW, hF⟩, hbw, h2⟩ := hI.out; have hlen := HM.out.2.2.2.2.2.2.2.2.2; have hx := wbool_calls hbw (below_size H1.out) hW (y == 1) (by omega); refine hx.mono ?_; clear hx; rintro e w4 ⟨rfl, hd4, hb4, hk4⟩; have hc4 := HC.out w4 hb4; obtain ⟨a0, a1, a1', a2, a2'⟩ := hc4; rw [← HM.out.2.2.1] at a2 a2'; have hF4 : ∀ k, Or F wr k → w1.heap.size ≤ k := (fun k hk => by rcases hk with h | h; exact (hF k h).1; have := hbw.size; have := below_size H1.out; have h6 : w1.heap.size < wr.heap.size := (by obtain ⟨_, _, _, h, _⟩ := hW; exact blk_lt h); omega); have H4 := Aside0.mk (And.intro hd4 (And.intro hb4 (And.intro hF4 h2))); clear hd4 hb4 hk4 hF4 a0 a1 a1' hW hF hbw h2 hlen))
                | (go_at_call 16; go_loud (obtain ⟨hd4, hb4, hF4, h2⟩ := H4.out; obtain ⟨hpp, hX, hnb, hpx, hpk, hC, hcb, hpo, hil, hlen⟩ := HM.out; have hx := wfixed_calls hb4 (below_size H1.out) hd4 B nb cb hnb (hC w4 hb4) (by rw [List.length_append]; simp only [List.length_cons, List.length_nil]; omega) hpo.2.2; refine hx.mono ?_; clear hx; rintro e w5 ⟨rfl, hd5, hb5, hk5⟩; have hF5 : ∀ k, Or (Or F wr) w4 k → w1.heap.size ≤ k := (fun k hk => by rcases hk with h | h; exact hF4 k h; have := below_size H1.out; have := hb4.size; have h6 : w1.heap.size < w4.heap.size := (by obtain ⟨_, _, _, h, _⟩ := hd4; exact blk_lt h); omega); have H5 := Aside0.mk (And.intro hd5 (And.intro hb5 (And.intro hF5 h2))); clear hd5 hb5 hk5 hF5 hd4 hb4 hF4 h2 hpp hX hnb hpx hpk hC hcb hpo hil hlen)))
              have hall : ∀ W, Below w5.heap.size w5 W → W.cell? ⟨(ad.add (i * 3)).block, (ad.add (i * 3)).off + 1, none⟩ = some (.int .u64 px) ∧ W.cell? ⟨(ad.add (i * 3)).block, (ad.add (i * 3)).off + 2, none⟩ = some (.slice B nb cb) ∧ (convert 27 9 (.slice B nb cb)).run Try.prog W = .ok (.string Y2) W := by
                intro W hW
                obtain ⟨hd5, hb5, hF5, h2⟩ := H5.out
                obtain ⟨hpp, hX, hnb, hpx, hpk, hC, hcb, hpo, hil, hlen⟩ := HM.out
                have h := HC.out W (below_step hb5 hW)
                rw [← hpx, ← hnb] at h
                refine ⟨h.2.2.1, h.2.2.2.2, ?_⟩
                have hx := conv_row (c := cb) hnb (hC w5 hb5) hW
                rw [← HZ.out.2.2] at hx
                exact hx
              have HA := Aside0.mk hall
              clear hall
              obtain ⟨wd, hwd⟩ : ∃ wd, wd = w5.drew := ⟨_, rfl⟩
              have hbd : Below w5.heap.size w5 wd := by rw [hwd]; exact below_drew1 (Below.refl _ _)
              have HD := Aside0.mk hbd
              clear hbd
              refine start_ (n := 19) (S := fun w' => Below w5.heap.size w5 w') (ds := []) #[false, false, false, false, false, false, false, false, false, false, false, false, false, false, false, false, false, false, false] (by kernel_rfl) rfl rfl (by rw [← hwd]; exact HD.out) (fun hHeld => ?_)
              rw [← hwd] at hHeld ⊢
              clear hwd
              refine pure_ (i := 0) (N := some 51) (v := ?_) (a' := ?_) #[true, false, false, false, false, false, false, false, false, false, false, false, false, false, false, false, false, false, false] rfl rfl (by kernel_rfl) (fun _ _ _ h => h) (Or.inl ⟨by rfl, ?_⟩) ?_ ?_
              rotate_left
              · intro w'
                go_simp
                with_reducible rfl
              rotate_left
              · simp only [Act.put, List.setIfInBounds_toArray, List.set_cons_zero, List.set_cons_succ, i64_w, i32_w]
                rfl
              refine pure_ (i := 1) (N := some 52) (v := ?_) (a' := ?_) #[true, true, false, false, false, false, false, false, false, false, false, false, false, false, false, false, false, false, false] rfl rfl (by kernel_rfl) (fun _ _ _ h => h) (Or.inl ⟨by rfl, ?_⟩) ?_ ?_
              rotate_left
              · intro w'
                go_simp
                with_reducible rfl
              rotate_left
              · simp only [Act.put, List.setIfInBounds_toArray, List.set_cons_zero, List.set_cons_succ, i64_w, i32_w]
                rfl
              refine pure_ (i := 2) (N := some 53) (v := ?_) (a' := ?_) #[true, true, true, false, false, false, false, false, false, false, false, false, false, false, false, false, false, false, false] rfl rfl (by kernel_rfl) (fun _ _ _ h => h) (Or.inl ⟨by rfl, ?_⟩) ?_ ?_
              rotate_left
              · intro w'
                go_simp
                with_reducible rfl
              rotate_left
              · simp only [Act.put, List.setIfInBounds_toArray, List.set_cons_zero, List.set_cons_succ, i64_w, i32_w]
                rfl
              refine pure_ (i := 3) (N := some 54) (v := ?_) (a' := ?_) #[true, true, true, true, false, false, false, false, false, false, false, false, false, false, false, false, false, false, false] rfl rfl (by kernel_rfl) (fun _ _ _ h => h) (Or.inl ⟨by rfl, ?_⟩) ?_ ?_
              rotate_left
              · intro w'
                go_simp
                with_reducible rfl
              rotate_left
              · simp only [Act.put, List.setIfInBounds_toArray, List.set_cons_zero, List.set_cons_succ, i64_w, i32_w]
                rfl
              refine pure_ (i := 4) (N := some 55) (v := ?_) (a' := ?_) #[true, true, true, true, true, false, false, false, false, false, false, false, false, false, false, false, false, false, false] rfl rfl (by kernel_rfl) (fun _ _ _ h => h) (Or.inl ⟨by rfl, ?_⟩) ?_ ?_
              rotate_left
              · intro w'
                go_simp
                with_reducible rfl
              rotate_left
              · simp only [Act.put, List.setIfInBounds_toArray, List.set_cons_zero, List.set_cons_succ, i64_w, i32_w]
                rfl
              refine take_ (i := 5) (N := some 56) (v := ?_) (a' := ?_) #[true, true, true, true, true, true, false, false, false, false, false, false, false, false, false, false, false, false, false] rfl rfl (by kernel_rfl) (fun _ _ _ h => h) (Or.inl ⟨by rfl, ?_⟩) hHeld ?_ ?_
              rotate_left
              · rintro w' s0
                obtain ⟨a1, a2, a3⟩ := HA.out w' s0
                go_simp
                with_reducible rfl
              rotate_left
              · simp only [Act.put, List.setIfInBounds_toArray, List.set_cons_zero, List.set_cons_succ, i64_w, i32_w]
                rfl
              refine pure_ (i := 6) (N := some 57) (v := ?_) (a' := ?_) #[true, true, true, true, true, true, true, false, false, false, false, false, false, false, false, false, false, false, false] rfl rfl (by kernel_rfl) (fun _ _ _ h => h) (Or.inl ⟨by rfl, ?_⟩) ?_ ?_
              rotate_left
              · intro w'
                go_simp
                with_reducible rfl
              rotate_left
              · simp only [Act.put, List.setIfInBounds_toArray, List.set_cons_zero, List.set_cons_succ, i64_w, i32_w]
                rfl
              refine pure_ (i := 7) (N := some 58) (v := ?_) (a' := ?_) #[true, true, true, true, true, true, true, true, false, false, false, false, false, false, false, false, false, false, false] rfl rfl (by kernel_rfl) (fun _ _ _ h => h) (Or.inl ⟨by rfl, ?_⟩) ?_ ?_
              rotate_left
              · intro w'
                go_simp
                with_reducible rfl
              rotate_left
              · simp only [Act.put, List.setIfInBounds_toArray, List.set_cons_zero, List.set_cons_succ, i64_w, i32_w]
                rfl
              refine pure_ (i := 10) (N := some 61) (v := ?_) (a' := ?_) #[true, true, true, true, true, true, true, true, false, false, true, false, false, false, false, false, false, false, false] rfl rfl (by kernel_rfl) (fun _ _ _ h => h) (Or.inl ⟨by rfl, ?_⟩) ?_ ?_
              rotate_left
              · intro w'
                go_simp
                with_reducible rfl
              rotate_left
              · simp only [Act.put, List.setIfInBounds_toArray, List.set_cons_zero, List.set_cons_succ, i64_w, i32_w]
                rfl
              refine pure_ (i := 11) (N := some 62) (v := ?_) (a' := ?_) #[true, true, true, true, true, true, true, true, false, false, true, true, false, false, false, false, false, false, false] rfl rfl (by kernel_rfl) (fun _ _ _ h => h) (Or.inl ⟨by rfl, ?_⟩) ?_ ?_
              rotate_left
              · intro w'
                go_simp
                with_reducible rfl
              rotate_left
              · simp only [Act.put, List.setIfInBounds_toArray, List.set_cons_zero, List.set_cons_succ, i64_w, i32_w]
                rfl
              refine pure_ (i := 12) (N := some 63) (v := ?_) (a' := ?_) #[true, true, true, true, true, true, true, true, false, false, true, true, true, false, false, false, false, false, false] rfl rfl (by kernel_rfl) (fun _ _ _ h => h) (Or.inl ⟨by rfl, ?_⟩) ?_ ?_
              rotate_left
              · intro w'
                go_simp
                with_reducible rfl
              rotate_left
              · simp only [Act.put, List.setIfInBounds_toArray, List.set_cons_zero, List.set_cons_succ, i64_w, i32_w]
                rfl
              refine pure_ (i := 13) (N := some 64) (v := ?_) (a' := ?_) #[true, true, true, true, true, true, true, true, false, false, true, true, true, true, false, false, false, false, false] rfl rfl (by kernel_rfl) (fun _ _ _ h => h) (Or.inl ⟨by rfl, ?_⟩) ?_ ?_
              rotate_left
              · intro w'
                go_simp
                with_reducible rfl
              rotate_left
              · simp only [Act.put, List.setIfInBounds_toArray, List.set_cons_zero, List.set_cons_succ, i64_w, i32_w]
                rfl
              refine take_ (i := 14) (N := some 65) (v := ?_) (a' := ?_) #[true, true, true, true, true, true, true, true, false, false, true, true, true, true, true, false, false, false, false] rfl rfl (by kernel_rfl) (fun _ _ _ h => h) (Or.inl ⟨by rfl, ?_⟩) hHeld ?_ ?_
              rotate_left
              · rintro w' s0
                obtain ⟨a1, a2, a3⟩ := HA.out w' s0
                go_simp
                with_reducible rfl
              rotate_left
              · simp only [Act.put, List.setIfInBounds_toArray, List.set_cons_zero, List.set_cons_succ, i64_w, i32_w]
                rfl
              refine take_ (i := 15) (N := some 66) (v := ?_) (a' := ?_) #[true, true, true, true, true, true, true, true, false, false, true, true, true, true, true, true, false, false, false] rfl rfl (by kernel_rfl) (fun _ _ _ h => h) (Or.inl ⟨by rfl, ?_⟩) hHeld ?_ ?_
              rotate_left
              · rintro w' s0
                obtain ⟨a1, a2, a3⟩ := HA.out w' s0
                go_simp
                with_reducible rfl
              rotate_left
              · simp only [Act.put, List.setIfInBounds_toArray, List.set_cons_zero, List.set_cons_succ, i64_w, i32_w]
                rfl
              refine one_ (i := 8) (N := some 59) #[true, true, true, true, true, true, true, true, true, false, true, true, true, true, true, true, false, false, false] rfl rfl (by kernel_rfl) (by decide) (fun K hK => ?_)
              refine value_ (w1 := ?_) (v := ?_) (by rfl) rfl ?_ ?_
              rotate_left 2
              · go_simp
                constructor
                · rfl
                · rfl
              have hbe : Below w5.heap.size w5 (wd.alloc (.cells #[.int .u8 y] 5)) := below_alloc HD.out _
              have hcy := conv_row (c := 1) (n := 1) rfl (one_reads wd y) (Below.refl _ _)
              rw [← HZ.out.2.1] at hcy
              have HE := Aside0.mk hbe
              clear hbe
              refine hK.out _ _ (HE.out) (fun hHeld => ?_)
              clear hK K
              refine norm_ (a' := ?_) ?_ ?_
              rotate_left
              · show Act.put _ (some 59) _ = _
                simp only [Act.put, List.setIfInBounds_toArray, List.set_cons_zero, List.set_cons_succ, i64_w, i32_w]
                rfl
              refine one_ (i := 9) (N := some 60) #[true, true, true, true, true, true, true, true, true, true, true, true, true, true, true, true, false, false, false] rfl rfl (by kernel_rfl) (by decide) (fun K hK => ?_)
              refine value_ (w1 := ?_) (v := ?_) (by rfl) rfl ?_ ?_
              rotate_left 2
              · go_simp
                constructor
                · rfl
                · rfl
              refine hK.out _ _ (hHeld) (fun hHeld => ?_)
              clear hK K
              refine norm_ (a' := ?_) ?_ ?_
              rotate_left
              · show Act.put _ (some 60) _ = _
                simp only [Act.put, List.setIfInBounds_toArray, List.set_cons_zero, List.set_cons_succ, i64_w, i32_w]
                rfl
              clear hcy
              refine pure_ (i := 16) (N := some 67) (v := ?_) (a' := ?_) #[true, true, true, true, true, true, true, true, true, true, true, true, true, true, true, true, true, false, false] rfl rfl (by kernel_rfl) (fun _ _ _ h => h) (Or.inl ⟨by rfl, ?_⟩) ?_ ?_
              rotate_left
              · intro w'
                go_simp
                with_reducible rfl
              rotate_left
              · simp only [Act.put, List.setIfInBounds_toArray, List.set_cons_zero, List.set_cons_succ, i64_w, i32_w]
                rfl
              refine pure_ (i := 17) (N := some 68) (v := ?_) (a' := ?_) #[true, true, true, true, true, true, true, true, true, true, true, true, true, true, true, true, true, true, false] rfl rfl (by kernel_rfl) (fun _ _ _ h => h) (Or.inl ⟨by rfl, ?_⟩) ?_ ?_
              rotate_left
              · intro w'
                go_simp
                with_reducible rfl
              rotate_left
              · simp only [Act.put, List.setIfInBounds_toArray, List.set_cons_zero, List.set_cons_succ, i64_w, i32_w]
                rfl
              refine pure_ (i := 18) (N := some 5) (v := ?_) (a' := ?_) #[true, true, true, true, true, true, true, true, true, true, true, true, true, true, true, true, true, true, true] rfl rfl (by kernel_rfl) (fun _ _ _ h => h) (Or.inl ⟨by rfl, ?_⟩) ?_ ?_
              rotate_left
              · intro w'
                go_simp
                with_reducible rfl
              rotate_left
              · simp only [Act.put, List.setIfInBounds_toArray, List.set_cons_zero, List.set_cons_succ, i64_w, i32_w]
                rfl
              refine done_ (by kernel_rfl) ?_
              go_wp2
              go_roundg (n - (i + 1))
              case measure => omega
              case rel =>
                obtain ⟨hd5, hb5, hF5, h2⟩ := H5.out
                obtain ⟨hz, hY1, hY2⟩ := HZ.out
                obtain ⟨hpp, hX, hnb, hpx, hpk, hC, hcb, hpo, hil, hlen⟩ := HM.out
                have hbt := HY.out
                rw [hbt.1] at hY1
                rw [hbt.2] at hd5
                rw [hpp] at hz hnb hY2 hd5
                exact ⟨i + 1, by go_num, by rw [hX, hY1, hY2, S_app, S_app, ← hz, ← allPut_snoc, ← takeP_snoc hil], by omega, ⟨bk_step hil hd5 (by rw [hz, List.append_assoc]) hb5 HE.out hF5 h2 (by omega)⟩⟩
      · have htk : l.take i = l := List.take_of_length_le (by have := HP.out.1; omega)
        obtain ⟨⟨F, hW, hF⟩, hbw, h2⟩ := hI.out
        rw [htk] at hW ⊢
        have hin : i = l.length := by have := HP.out.1; omega
        have h200 : ∀ j, j < l.length → (l.getD j Part.none).b.length ≤ 200 := fun j hj => h2 j (by omega)
        have hgd : ∀ (j : Nat) (h : j < l.length), l.getD j Part.none = l[j] := fun j h => by rw [List.getD_eq_getElem?_getD, List.getElem?_eq_getElem h]; rfl
        have hok2 : ∀ p ∈ l, p.Ok ∧ p.b.length ≤ 200 := fun p hp => by
          obtain ⟨j, hj, rfl⟩ := List.getElem_of_mem hp
          exact ⟨HP.out.2.2 _ hp, by have := h200 j hj; rw [hgd j hj] at this; exact this⟩
        have hbyt := allPut_byt l hok2
        have hlen := allPut_len l l.length (Nat.le_refl _) h200
        rw [List.take_length] at hlen
        have hl63 : (allPut l).length ≤ 6300 := by have := HP.out.1; omega
        obtain ⟨L, hL⟩ : ∃ L, L = allPut l := ⟨_, rfl⟩
        rw [← hL] at hW hbyt hl63 ⊢
        obtain ⟨X, hX⟩ : ∃ X, X = S L := ⟨_, rfl⟩
        rw [← hX]
        have hXs : X.size = L.length := by rw [hX, S_size]
        have hXb : bytesOf X = L := by rw [hX]; exact bytesOf_str hbyt
        have HI := Aside0.mk (And.intro hW (And.intro hbw (And.intro hok2 (And.intro hbyt (And.intro hl63 (And.intro hL (And.intro hX (And.intro hXs hXb))))))))
        have hq1 : (X.toList != X.toList) = false := by simp
        clear hI hW hF hbw h2 htk hin h200 hgd hok2 hbyt hlen hl63 hL hX hXs hXb hq
        go_wp2_with (first
          | (go_at_call 17; go_loud (have hx := wout_calls HI.out.1; refine hx.mono ?_; clear hx; rintro e w4 ⟨v4, rfl, hv4, hb4⟩; obtain ⟨A4, c4, rfl, _, hC4⟩ := Kd.R_reads hv4; have hcv := conv_row (c := c4) rfl hC4 (Below.refl _ _); rw [← HI.out.2.2.2.2.2.2.1] at hcv; have H4 := Aside0.mk (below_step HI.out.2.1 hb4); clear hv4 hb4 hC4))
          | ((with_reducible refine gate_dst (N := 111) rfl ?_); go_loud (refine str_event (s := X) (w0 := w) (base := w.heap.size) rfl rfl rfl Try.underlying9 Try.underlying27 Try.underlying5 (by have h1 := HI.out.2.2.2.2.1; have h2 := HI.out.2.2.2.2.2.2.2.1; omega) H4.out (below_size H4.out) ?_; intro w5 c5 hb5 hbb5 hc5 hs5 hC5 hfz5; have h2 := HI.out.2.2.2.2.2.2.2.1; have h3 := HI.out.2.2.2.2.2.2.2.2; rw [h3, h2] at hC5; rw [h2] at hc5 ⊢; have H5 := Aside0.mk (And.intro hb5 (And.intro hc5 (And.intro hs5 hC5))); clear hcv hb5 hbb5 hc5 hs5 hC5 hfz5 h2 h3))
          | (go_at_call 18; go_loud (obtain ⟨hb5, hc5, hs5, hC5⟩ := H5.out; have hx := newReader_calls (some ⟨w4.heap.size, 0, none⟩) c5 hC5 hc5 (by have h1 := HI.out.2.2.2.2.1; omega) HI.out.2.2.2.1; refine hx.mono ?_; clear hx; rintro e w6 ⟨g, rfl, hd6, hb6⟩; have H6 := Aside0.mk (And.intro hd6 (below_step hb5 hb6)); clear hd6 hb6 hb5 hc5 hs5 hC5)))
        have hall := HI.out.2.2.2.2.2.1
        have HJ : Aside0 (RdAt w6 (Span w5 w6) g ⟨allPut (l.drop 0), 0⟩ ∧ Below w.heap.size w w6) := ⟨⟨by have h := H6.out.1; rw [hall] at h; exact h, H6.out.2⟩⟩
        have HOK := Aside0.mk HI.out.2.2.1
        have HB5 := Aside0.mk (below_size H5.out.1)
        clear hall HI H6 hq1
        go_loopg [8] n (fun q v8 wr => ∃ j : Nat, v8 = .int .i64 j ∧ q + j = n ∧ Aside0 (RdAt wr (Span w5 w6) g ⟨allPut (l.drop j), 0⟩ ∧ Below w.heap.size w wr))
        case atStart => exact ⟨0, rfl, by omega, HJ⟩
        case round =>
          clear HJ
          obtain ⟨j, rfl, hq, hI⟩ := hrel
          by_cases hlt : j < n
          · have d2 : decide ((j : Int) < (n : Int)) = true := decide_eq_true (by omega)
            have d2n : decide (j < n) = true := decide_eq_true (by omega)
            have hjl : j < l.length := by have := HP.out.1; omega
            obtain ⟨ad, B, cb, rfl, hall⟩ := part_at HP.out.2.1 hjl
            have hpo := HOK.out (l.getD j Part.none) (by rw [List.getD_eq_getElem?_getD, List.getElem?_eq_getElem hjl]; exact List.getElem_mem hjl)
            have hdr : allPut (l.drop j) = partPut (l.getD j Part.none) ++ allPut (l.drop (j + 1)) := by rw [dropP_cons hjl, allPut_cons]
            rw [hdr] at hI
            obtain ⟨p, hpp⟩ : ∃ p, p = l.getD j Part.none := ⟨_, rfl⟩
            rw [← hpp] at hall hpo hI
            obtain ⟨nb, hnb⟩ : ∃ nb, nb = p.b.length := ⟨_, rfl⟩
            obtain ⟨px, hpx⟩ : ∃ x, x = p.x := ⟨_, rfl⟩
            obtain ⟨pk, hpk⟩ : ∃ x, x = p.k := ⟨_, rfl⟩
            have hcell : ∀ W, Below w.heap.size w W → W.cell? (ad.add (j * 3)) = some (.int .i64 pk) ∧ W.cell? ⟨(ad.add (j * 3)).block, (ad.add (j * 3)).off + 1, none⟩ = some (.int .u64 px) ∧ W.cell? ⟨(ad.add (j * 3)).block, (ad.add (j * 3)).off + 2, none⟩ = some (.slice B nb cb) ∧ (convert 27 9 (.slice B nb cb)).run Try.prog W = .ok (.string (S p.b)) W := by
              intro W hW
              have h := hall W hW
              rw [← hpk, ← hpx, ← hnb] at h
              exact ⟨h.1.1, h.1.2.2.1, h.1.2.2.2.2, conv_row (c := cb) hnb (hall w (Below.refl _ _)).2.1 hW⟩
            have HC := Aside0.mk hcell
            have c0 := (hcell wr hI.out.2).1
            have k0 : -9223372036854775808 ≤ pk := by rw [hpk]; exact hpo.1.1.1
            have k1 : pk ≤ 9223372036854775807 := by rw [hpk]; exact hpo.1.1.2
            have x0 : 0 ≤ px := by rw [hpx]; exact hpo.1.2.1.1
            have x1 : px ≤ 18446744073709551615 := by rw [hpx]; exact hpo.1.2.1.2
            have HM := Aside0.mk (And.intro hnb (And.intro hpx (And.intro hpk hpo)))
            clear hall hpo hdr hpp hnb hpx hpk hcell hjl
            obtain ⟨q3, hqd⟩ : ∃ q, q = bits .and .i64 pk 3 := ⟨_, rfl⟩
            have hqe : bits .and .i64 pk 3 = q3 := hqd.symm
            have HQ := Aside0.mk (show qk p = q3 by unfold qk; rw [← HM.out.2.2.1]; exact hqe)
            clear hqd
            by_cases h01 : q3 = 0 ∨ q3 = 1
            · have hqq : qk p = 0 ∨ qk p = 1 := by rw [HQ.out]; exact h01
              have HQ1 := Aside0.mk hqq
              have dn : (px != px) = false := by simp
              clear hqq
              rcases h01 with rfl | rfl
              all_goals
                go_upto_region 35 with (fail)
                obtain ⟨wd, hwd⟩ : ∃ wd, wd = wr.drew := ⟨_, rfl⟩
                have hbd : Below wr.heap.size wr wd := by rw [hwd]; exact below_drew1 (Below.refl _ _)
                have HD := Aside0.mk (And.intro (hI.out.1.below hbd) (below_step hI.out.2 hbd))
                clear hbd hI
                refine start_ (n := 8) (S := fun w' => Below w.heap.size w w') (ds := []) #[false, false, false, false, false, false, false, false] (by kernel_rfl) rfl rfl (by rw [← hwd]; exact HD.out.2) (fun hHeld => ?_)
                rw [← hwd] at hHeld ⊢
                clear hwd
                refine pure_ (i := 0) (N := some 156) (v := ?_) (a' := ?_) #[true, false, false, false, false, false, false, false] rfl rfl (by kernel_rfl) (fun _ _ _ h => h) (Or.inl ⟨by rfl, ?_⟩) ?_ ?_
                rotate_left
                · intro w'
                  go_simp
                  with_reducible rfl
                rotate_left
                · simp only [Act.put, List.setIfInBounds_toArray, List.set_cons_zero, List.set_cons_succ, i64_w, i32_w]
                  rfl
                refine pure_ (i := 2) (N := some 158) (v := ?_) (a' := ?_) #[true, false, true, false, false, false, false, false] rfl rfl (by kernel_rfl) (fun _ _ _ h => h) (Or.inl ⟨by rfl, ?_⟩) ?_ ?_
                rotate_left
                · intro w'
                  go_simp
                  with_reducible rfl
                rotate_left
                · simp only [Act.put, List.setIfInBounds_toArray, List.set_cons_zero, List.set_cons_succ, i64_w, i32_w]
                  rfl
                refine pure_ (i := 3) (N := some 159) (v := ?_) (a' := ?_) #[true, false, true, true, false, false, false, false] rfl rfl (by kernel_rfl) (fun _ _ _ h => h) (Or.inl ⟨by rfl, ?_⟩) ?_ ?_
                rotate_left
                · intro w'
                  go_simp
                  with_reducible rfl
                rotate_left
                · simp only [Act.put, List.setIfInBounds_toArray, List.set_cons_zero, List.set_cons_succ, i64_w, i32_w]
                  rfl
                refine pure_ (i := 4) (N := some 160) (v := ?_) (a' := ?_) #[true, false, true, true, true, false, false, false] rfl rfl (by kernel_rfl) (fun _ _ _ h => h) (Or.inl ⟨by rfl, ?_⟩) ?_ ?_
                rotate_left
                · intro w'
                  go_simp
                  with_reducible rfl
                rotate_left
                · simp only [Act.put, List.setIfInBounds_toArray, List.set_cons_zero, List.set_cons_succ, i64_w, i32_w]
                  rfl
                refine pure_ (i := 5) (N := some 161) (v := ?_) (a' := ?_) #[true, false, true, true, true, true, false, false] rfl rfl (by kernel_rfl) (fun _ _ _ h => h) (Or.inl ⟨by rfl, ?_⟩) ?_ ?_
                rotate_left
                · intro w'
                  go_simp
                  with_reducible rfl
                rotate_left
                · simp only [Act.put, List.setIfInBounds_toArray, List.set_cons_zero, List.set_cons_succ, i64_w, i32_w]
                  rfl
                refine take_ (i := 6) (N := some 162) (v := ?_) (a' := ?_) #[true, false, true, true, true, true, true, false] rfl rfl (by kernel_rfl) (fun _ _ _ h => h) (Or.inl ⟨by rfl, ?_⟩) hHeld ?_ ?_
                rotate_left
                · rintro w' s0
                  obtain ⟨a0, a1, a2, a3⟩ := HC.out w' s0
                  go_simp
                  with_reducible rfl
                rotate_left
                · simp only [Act.put, List.setIfInBounds_toArray, List.set_cons_zero, List.set_cons_succ, i64_w, i32_w]
                  rfl
                refine one_ (i := 1) (N := some 157) #[true, true, true, true, true, true, true, false] rfl rfl (by kernel_rfl) (by decide) (fun K hK => ?_)
                refine goes_ Try.func19 (by kernel_rfl) rfl #[.pointer (some ⟨g, 0, none⟩)] (by rfl) rfl rfl (by (try simp only [List.map_toArray, List.map_cons, List.map_nil]); first | rfl | (go_simp; done)) ?_
                have hx := uint_any HD.out.2 (fun k h => by have h1 : w5.heap.size ≤ k := h.1; have := HB5.out; omega) HD.out.1
                rw [back_uint HM.out.2.2.2.1 HQ1.out, ← HM.out.2.1] at hx
                refine hx.mono ?_
                clear hx
                rintro e w7 ⟨rfl, hd7, hb7, _⟩
                refine ⟨_, rfl, ?_⟩
                refine hK.out _ _ (hb7) (fun hHeld => ?_)
                clear hK K
                refine norm_ (a' := ?_) ?_ ?_
                rotate_left
                · show Act.put _ (some 157) _ = _
                  simp only [Act.put, List.setIfInBounds_toArray, List.set_cons_zero, List.set_cons_succ, i64_w, i32_w]
                  rfl
                have H7 := Aside0.mk (And.intro hd7 hb7)
                clear hd7 hb7
                refine pure_ (i := 7) (N := some 163) (v := ?_) (a' := ?_) #[true, true, true, true, true, true, true, true] rfl rfl (by kernel_rfl) (fun _ _ _ h => h) (Or.inl ⟨by rfl, ?_⟩) ?_ ?_
                rotate_left
                · intro w'
                  go_simp
                  with_reducible rfl
                rotate_left
                · simp only [Act.put, List.setIfInBounds_toArray, List.set_cons_zero, List.set_cons_succ, i64_w, i32_w]
                  rfl
                refine done_ (by kernel_rfl) ?_
                go_wp2
                go_roundg (n - (j + 1))
                case measure => omega
                case rel => exact ⟨j + 1, by go_num, by omega, H7⟩
            · by_cases h02 : q3 = 2
              · have hqq : qk p = 2 := by rw [HQ.out]; exact h02
                have HQ1 := Aside0.mk hqq
                obtain ⟨Y, hY⟩ : ∃ Y, Y = S p.b := ⟨_, rfl⟩
                have HY := Aside0.mk hY
                have dn : (Y.toList != Y.toList) = false := by simp
                rw [← hY] at HC
                clear hqq hY h01
                subst h02
                go_upto_region 38 with (fail)
                obtain ⟨wd, hwd⟩ : ∃ wd, wd = wr.drew := ⟨_, rfl⟩
                have hbd : Below wr.heap.size wr wd := by rw [hwd]; exact below_drew1 (Below.refl _ _)
                have HD := Aside0.mk (And.intro (hI.out.1.below hbd) (below_step hI.out.2 hbd))
                clear hbd hI
                refine start_ (n := 10) (S := fun w' => Below w.heap.size w w') (ds := []) #[false, false, false, false, false, false, false, false, false, false] (by kernel_rfl) rfl rfl (by rw [← hwd]; exact HD.out.2) (fun hHeld => ?_)
                rw [← hwd] at hHeld ⊢
                clear hwd
                refine pure_ (i := 0) (N := some 166) (v := ?_) (a' := ?_) #[true, false, false, false, false, false, false, false, false, false] rfl rfl (by kernel_rfl) (fun _ _ _ h => h) (Or.inl ⟨by rfl, ?_⟩) ?_ ?_
                rotate_left
                · intro w'
                  go_simp
                  with_reducible rfl
                rotate_left
                · simp only [Act.put, List.setIfInBounds_toArray, List.set_cons_zero, List.set_cons_succ, i64_w, i32_w]
                  rfl
                refine pure_ (i := 3) (N := some 169) (v := ?_) (a' := ?_) #[true, false, false, true, false, false, false, false, false, false] rfl rfl (by kernel_rfl) (fun _ _ _ h => h) (Or.inl ⟨by rfl, ?_⟩) ?_ ?_
                rotate_left
                · intro w'
                  go_simp
                  with_reducible rfl
                rotate_left
                · simp only [Act.put, List.setIfInBounds_toArray, List.set_cons_zero, List.set_cons_succ, i64_w, i32_w]
                  rfl
                refine pure_ (i := 4) (N := some 170) (v := ?_) (a' := ?_) #[true, false, false, true, true, false, false, false, false, false] rfl rfl (by kernel_rfl) (fun _ _ _ h => h) (Or.inl ⟨by rfl, ?_⟩) ?_ ?_
                rotate_left
                · intro w'
                  go_simp
                  with_reducible rfl
                rotate_left
                · simp only [Act.put, List.setIfInBounds_toArray, List.set_cons_zero, List.set_cons_succ, i64_w, i32_w]
                  rfl
                refine pure_ (i := 5) (N := some 171) (v := ?_) (a' := ?_) #[true, false, false, true, true, true, false, false, false, false] rfl rfl (by kernel_rfl) (fun _ _ _ h => h) (Or.inl ⟨by rfl, ?_⟩) ?_ ?_
                rotate_left
                · intro w'
                  go_simp
                  with_reducible rfl
                rotate_left
                · simp only [Act.put, List.setIfInBounds_toArray, List.set_cons_zero, List.set_cons_succ, i64_w, i32_w]
                  rfl
                refine pure_ (i := 6) (N := some 172) (v := ?_) (a' := ?_) #[true, false, false, true, true, true, true, false, false, false] rfl rfl (by kernel_rfl) (fun _ _ _ h => h) (Or.inl ⟨by rfl, ?_⟩) ?_ ?_
                rotate_left
                · intro w'
                  go_simp
                  with_reducible rfl
                rotate_left
                · simp only [Act.put, List.setIfInBounds_toArray, List.set_cons_zero, List.set_cons_succ, i64_w, i32_w]
                  rfl
                refine take_ (i := 7) (N := some 173) (v := ?_) (a' := ?_) #[true, false, false, true, true, true, true, true, false, false] rfl rfl (by kernel_rfl) (fun _ _ _ h => h) (Or.inl ⟨by rfl, ?_⟩) hHeld ?_ ?_
                rotate_left
                · rintro w' s0
                  obtain ⟨a0, a1, a2, a3⟩ := HC.out w' s0
                  go_simp
                  with_reducible rfl
                rotate_left
                · simp only [Act.put, List.setIfInBounds_toArray, List.set_cons_zero, List.set_cons_succ, i64_w, i32_w]
                  rfl
                refine take_ (i := 8) (N := some 174) (v := ?_) (a' := ?_) #[true, false, false, true, true, true, true, true, true, false] rfl rfl (by kernel_rfl) (fun _ _ _ h => h) (Or.inl ⟨by rfl, ?_⟩) hHeld ?_ ?_
                rotate_left
                · rintro w' s0
                  obtain ⟨a0, a1, a2, a3⟩ := HC.out w' s0
                  go_simp
                  with_reducible rfl
                rotate_left
                · simp only [Act.put, List.setIfInBounds_toArray, List.set_cons_zero, List.set_cons_succ, i64_w, i32_w]
                  rfl
                refine one_ (i := 1) (N := some 167) #[true, true, false, true, true, true, true, true, true, false] rfl rfl (by kernel_rfl) (by decide) (fun K hK => ?_)
                refine goes_ Try.func20 (by kernel_rfl) rfl #[.pointer (some ⟨g, 0, none⟩), .int .i64 200] (by rfl) rfl rfl (by (try simp only [List.map_toArray, List.map_cons, List.map_nil]); first | rfl | (go_simp; done)) ?_
                have hx := bytes_calls HD.out.2 (fun k h => by have h1 : w5.heap.size ≤ k := h.1; have := HB5.out; omega) HD.out.1 200 (by omega)
                rw [back_bytes HM.out.2.2.2.2 HQ1.out] at hx
                refine hx.mono ?_
                clear hx
                rintro e w7 ⟨v7, rfl, hv7, hd7, hb7, _⟩
                obtain ⟨A7, c7, rfl, hc7, hC7⟩ := Kd.R_reads hv7
                refine ⟨_, rfl, ?_⟩
                have hcv7 := conv_row (c := c7) rfl hC7 (Below.refl _ _)
                rw [← HY.out] at hcv7
                refine hK.out _ _ (hb7) (fun hHeld => ?_)
                clear hK K
                refine norm_ (a' := ?_) ?_ ?_
                rotate_left
                · show Act.put _ (some 167) _ = _
                  simp only [Act.put, List.setIfInBounds_toArray, List.set_cons_zero, List.set_cons_succ, i64_w, i32_w]
                  rfl
                have H7 := Aside0.mk (And.intro hd7 hb7)
                clear hv7 hd7 hb7 hc7 hC7
                refine one_ (i := 2) (N := some 168) #[true, true, true, true, true, true, true, true, true, false] rfl rfl (by kernel_rfl) (by decide) (fun K hK => ?_)
                refine value_ (w1 := ?_) (v := ?_) (by rfl) rfl ?_ ?_
                rotate_left 2
                · go_simp
                  constructor
                  · rfl
                  · rfl
                refine hK.out _ _ (hHeld) (fun hHeld => ?_)
                clear hK K
                refine norm_ (a' := ?_) ?_ ?_
                rotate_left
                · show Act.put _ (some 168) _ = _
                  simp only [Act.put, List.setIfInBounds_toArray, List.set_cons_zero, List.set_cons_succ, i64_w, i32_w]
                  rfl
                clear hcv7
                refine pure_ (i := 9) (N := some 175) (v := ?_) (a' := ?_) #[true, true, true, true, true, true, true, true, true, true] rfl rfl (by kernel_rfl) (fun _ _ _ h => h) (Or.inl ⟨by rfl, ?_⟩) ?_ ?_
                rotate_left
                · intro w'
                  go_simp
                  with_reducible rfl
                rotate_left
                · simp only [Act.put, List.setIfInBounds_toArray, List.set_cons_zero, List.set_cons_succ, i64_w, i32_w]
                  rfl
                refine done_ (by kernel_rfl) ?_
                go_wp2
                go_roundg (n - (j + 1))
                case measure => omega
                case rel => exact ⟨j + 1, by go_num, by omega, H7⟩
              · have hqq : qk p ≠ 0 ∧ qk p ≠ 1 ∧ qk p ≠ 2 := by rw [HQ.out]; omega
                have HQ1 := Aside0.mk hqq
                have e0 : (q3 == 0) = false := beq_eq_false_iff_ne.2 (by omega)
                have e1 : (q3 == 1) = false := beq_eq_false_iff_ne.2 (by omega)
                have e2 : (q3 == 2) = false := beq_eq_false_iff_ne.2 (by omega)
                obtain ⟨Y, hY⟩ : ∃ Y, Y = S p.b := ⟨_, rfl⟩
                have HY := Aside0.mk hY
                have dn : (Y.toList != Y.toList) = false := by simp
                rw [← hY] at HC
                obtain ⟨y, hy⟩ : ∃ y, y = bits .and .u64 px 1 := ⟨_, rfl⟩
                have hye : bits .and .u64 px 1 = y := hy.symm
                have hy2 : y = px % 2 := by rw [hy]; exact and_1 ⟨x0, x1⟩
                obtain ⟨t, ht⟩ : ∃ t, t = (y == 1) := ⟨_, rfl⟩
                have hte : (y == 1) = t := ht.symm
                have htt : (t != t) = false := by simp
                have hbk : ∀ r : List Int, (⟨partPut p ++ r, 0⟩ : RM).bool = (⟨p.b ++ r, 0⟩, t) := fun r => by rw [back_bool HQ1.out, ht, hy2, HM.out.2.1]
                have HBK := Aside0.mk hbk
                have hnb0 : nb ≤ 200 := by rw [HM.out.1]; exact HM.out.2.2.2.2
                clear hqq hY h01 h02 hy hy2 ht hbk
                go_upto_region 31 with (fail)
                obtain ⟨wd, hwd⟩ : ∃ wd, wd = wr.drew := ⟨_, rfl⟩
                have hbd : Below wr.heap.size wr wd := by rw [hwd]; exact below_drew1 (Below.refl _ _)
                have HD := Aside0.mk (And.intro (hI.out.1.below hbd) (below_step hI.out.2 hbd))
                clear hbd hI
                refine start_ (n := 28) (S := fun w' => Below w.heap.size w w') (ds := []) #[false, false, false, false, false, false, false, false, false, false, false, false, false, false, false, false, false, false, false, false, false, false, false, false, false, false, false, false] (by kernel_rfl) rfl rfl (by rw [← hwd]; exact HD.out.2) (fun hHeld => ?_)
                rw [← hwd] at hHeld ⊢
                clear hwd
                refine pure_ (i := 0) (N := some 125) (v := ?_) (a' := ?_) #[true, false, false, false, false, false, false, false, false, false, false, false, false, false, false, false, false, false, false, false, false, false, false, false, false, false, false, false] rfl rfl (by kernel_rfl) (fun _ _ _ h => h) (Or.inl ⟨by rfl, ?_⟩) ?_ ?_
                rotate_left
                · intro w'
                  go_simp
                  with_reducible rfl
                rotate_left
                · simp only [Act.put, List.setIfInBounds_toArray, List.set_cons_zero, List.set_cons_succ, i64_w, i32_w]
                  rfl
                refine pure_ (i := 2) (N := some 127) (v := ?_) (a' := ?_) #[true, false, true, false, false, false, false, false, false, false, false, false, false, false, false, false, false, false, false, false, false, false, false, false, false, false, false, false] rfl rfl (by kernel_rfl) (fun _ _ _ h => h) (Or.inl ⟨by rfl, ?_⟩) ?_ ?_
                rotate_left
                · intro w'
                  go_simp
                  with_reducible rfl
                rotate_left
                · simp only [Act.put, List.setIfInBounds_toArray, List.set_cons_zero, List.set_cons_succ, i64_w, i32_w]
                  rfl
                refine pure_ (i := 3) (N := some 128) (v := ?_) (a' := ?_) #[true, false, true, true, false, false, false, false, false, false, false, false, false, false, false, false, false, false, false, false, false, false, false, false, false, false, false, false] rfl rfl (by kernel_rfl) (fun _ _ _ h => h) (Or.inl ⟨by rfl, ?_⟩) ?_ ?_
                rotate_left
                · intro w'
                  go_simp
                  with_reducible rfl
                rotate_left
                · simp only [Act.put, List.setIfInBounds_toArray, List.set_cons_zero, List.set_cons_succ, i64_w, i32_w]
                  rfl
                refine pure_ (i := 4) (N := some 129) (v := ?_) (a' := ?_) #[true, false, true, true, true, false, false, false, false, false, false, false, false, false, false, false, false, false, false, false, false, false, false, false, false, false, false, false] rfl rfl (by kernel_rfl) (fun _ _ _ h => h) (Or.inl ⟨by rfl, ?_⟩) ?_ ?_
                rotate_left
                · intro w'
                  go_simp
                  with_reducible rfl
                rotate_left
                · simp only [Act.put, List.setIfInBounds_toArray, List.set_cons_zero, List.set_cons_succ, i64_w, i32_w]
                  rfl
                refine pure_ (i := 5) (N := some 130) (v := ?_) (a' := ?_) #[true, false, true, true, true, true, false, false, false, false, false, false, false, false, false, false, false, false, false, false, false, false, false, false, false, false, false, false] rfl rfl (by kernel_rfl) (fun _ _ _ h => h) (Or.inl ⟨by rfl, ?_⟩) ?_ ?_
                rotate_left
                · intro w'
                  go_simp
                  with_reducible rfl
                rotate_left
                · simp only [Act.put, List.setIfInBounds_toArray, List.set_cons_zero, List.set_cons_succ, i64_w, i32_w]
                  rfl
                refine take_ (i := 6) (N := some 131) (v := ?_) (a' := ?_) #[true, false, true, true, true, true, true, false, false, false, false, false, false, false, false, false, false, false, false, false, false, false, false, false, false, false, false, false] rfl rfl (by kernel_rfl) (fun _ _ _ h => h) (Or.inl ⟨by rfl, ?_⟩) hHeld ?_ ?_
                rotate_left
                · rintro w' s0
                  obtain ⟨a0, a1, a2, a3⟩ := HC.out w' s0
                  go_simp
                  with_reducible rfl
                rotate_left
                · simp only [Act.put, List.setIfInBounds_toArray, List.set_cons_zero, List.set_cons_succ, i64_w, i32_w]
                  rfl
                refine pure_ (i := 7) (N := some 132) (v := ?_) (a' := ?_) #[true, false, true, true, true, true, true, true, false, false, false, false, false, false, false, false, false, false, false, false, false, false, false, false, false, false, false, false] rfl rfl (by kernel_rfl) (fun _ _ _ h => h) (Or.inl ⟨by rfl, ?_⟩) ?_ ?_
                rotate_left
                · intro w'
                  go_simp
                  with_reducible rfl
                rotate_left
                · simp only [Act.put, List.setIfInBounds_toArray, List.set_cons_zero, List.set_cons_succ, i64_w, i32_w]
                  rfl
                refine pure_ (i := 8) (N := some 133) (v := ?_) (a' := ?_) #[true, false, true, true, true, true, true, true, true, false, false, false, false, false, false, false, false, false, false, false, false, false, false, false, false, false, false, false] rfl rfl (by kernel_rfl) (fun _ _ _ h => h) (Or.inl ⟨by rfl, ?_⟩) ?_ ?_
                rotate_left
                · intro w'
                  go_simp
                  with_reducible rfl
                rotate_left
                · simp only [Act.put, List.setIfInBounds_toArray, List.set_cons_zero, List.set_cons_succ, i64_w, i32_w]
                  rfl
                refine one_ (i := 1) (N := some 126) #[true, true, true, true, true, true, true, true, true, false, false, false, false, false, false, false, false, false, false, false, false, false, false, false, false, false, false, false] rfl rfl (by kernel_rfl) (by decide) (fun K hK => ?_)
                refine goes_ Try.func21 (by kernel_rfl) rfl #[.pointer (some ⟨g, 0, none⟩)] (by rfl) rfl rfl (by (try simp only [List.map_toArray, List.map_cons, List.map_nil]); first | rfl | (go_simp; done)) ?_
                have hx := bool_calls HD.out.2 (fun k h => by have h1 : w5.heap.size ≤ k := h.1; have := HB5.out; omega) HD.out.1
                rw [HBK.out] at hx
                refine hx.mono ?_
                clear hx
                rintro e w7 ⟨rfl, hd7, hb7, _⟩
                refine ⟨_, rfl, ?_⟩
                refine hK.out _ _ (hb7) (fun hHeld => ?_)
                clear hK K
                refine norm_ (a' := ?_) ?_ ?_
                rotate_left
                · show Act.put _ (some 126) _ = _
                  simp only [Act.put, List.setIfInBounds_toArray, List.set_cons_zero, List.set_cons_succ, i64_w, i32_w]
                  rfl
                have H7 := Aside0.mk (And.intro hd7 hb7)
                clear hd7 hb7
                refine pure_ (i := 9) (N := some 134) (v := ?_) (a' := ?_) #[true, true, true, true, true, true, true, true, true, true, false, false, false, false, false, false, false, false, false, false, false, false, false, false, false, false, false, false] rfl rfl (by kernel_rfl) (fun _ _ _ h => h) (Or.inl ⟨by rfl, ?_⟩) ?_ ?_
                rotate_left
                · intro w'
                  go_simp
                  with_reducible rfl
                rotate_left
                · simp only [Act.put, List.setIfInBounds_toArray, List.set_cons_zero, List.set_cons_succ, i64_w, i32_w]
                  rfl
                refine pure_ (i := 10) (N := some 135) (v := ?_) (a' := ?_) #[true, true, true, true, true, true, true, true, true, true, true, false, false, false, false, false, false, false, false, false, false, false, false, false, false, false, false, false] rfl rfl (by kernel_rfl) (fun _ _ _ h => h) (Or.inl ⟨by rfl, ?_⟩) ?_ ?_
                rotate_left
                · intro w'
                  go_simp
                  with_reducible rfl
                rotate_left
                · simp only [Act.put, List.setIfInBounds_toArray, List.set_cons_zero, List.set_cons_succ, i64_w, i32_w]
                  rfl
                refine pure_ (i := 11) (N := some 136) (v := ?_) (a' := ?_) #[true, true, true, true, true, true, true, true, true, true, true, true, false, false, false, false, false, false, false, false, false, false, false, false, false, false, false, false] rfl rfl (by kernel_rfl) (fun _ _ _ h => h) (Or.inl ⟨by rfl, ?_⟩) ?_ ?_
                rotate_left
                · intro w'
                  go_simp
                  with_reducible rfl
                rotate_left
                · simp only [Act.put, List.setIfInBounds_toArray, List.set_cons_zero, List.set_cons_succ, i64_w, i32_w]
                  rfl
                refine pure_ (i := 12) (N := some 137) (v := ?_) (a' := ?_) #[true, true, true, true, true, true, true, true, true, true, true, true, true, false, false, false, false, false, false, false, false, false, false, false, false, false, false, false] rfl rfl (by kernel_rfl) (fun _ _ _ h => h) (Or.inl ⟨by rfl, ?_⟩) ?_ ?_
                rotate_left
                · intro w'
                  go_simp
                  with_reducible rfl
                rotate_left
                · simp only [Act.put, List.setIfInBounds_toArray, List.set_cons_zero, List.set_cons_succ, i64_w, i32_w]
                  rfl
                refine pure_ (i := 13) (N := some 138) (v := ?_) (a' := ?_) #[true, true, true, true, true, true, true, true, true, true, true, true, true, true, false, false, false, false, false, false, false, false, false, false, false, false, false, false] rfl rfl (by kernel_rfl) (fun _ _ _ h => h) (Or.inl ⟨by rfl, ?_⟩) ?_ ?_
                rotate_left
                · intro w'
                  go_simp
                  with_reducible rfl
                rotate_left
                · simp only [Act.put, List.setIfInBounds_toArray, List.set_cons_zero, List.set_cons_succ, i64_w, i32_w]
                  rfl
                refine pure_ (i := 14) (N := some 139) (v := ?_) (a' := ?_) #[true, true, true, true, true, true, true, true, true, true, true, true, true, true, true, false, false, false, false, false, false, false, false, false, false, false, false, false] rfl rfl (by kernel_rfl) (fun _ _ _ h => h) (Or.inl ⟨by rfl, ?_⟩) ?_ ?_
                rotate_left
                · intro w'
                  go_simp
                  with_reducible rfl
                rotate_left
                · simp only [Act.put, List.setIfInBounds_toArray, List.set_cons_zero, List.set_cons_succ, i64_w, i32_w]
                  rfl
                refine pure_ (i := 15) (N := some 140) (v := ?_) (a' := ?_) #[true, true, true, true, true, true, true, true, true, true, true, true, true, true, true, true, false, false, false, false, false, false, false, false, false, false, false, false] rfl rfl (by kernel_rfl) (fun _ _ _ h => h) (Or.inl ⟨by rfl, ?_⟩) ?_ ?_
                rotate_left
                · intro w'
                  go_simp
                  with_reducible rfl
                rotate_left
                · simp only [Act.put, List.setIfInBounds_toArray, List.set_cons_zero, List.set_cons_succ, i64_w, i32_w]
                  rfl
                refine take_ (i := 16) (N := some 141) (v := ?_) (a' := ?_) #[true, true, true, true, true, true, true, true, true, true, true, true, true, true, true, true, true, false, false, false, false, false, false, false, false, false, false, false] rfl rfl (by kernel_rfl) (fun _ _ _ h => h) (Or.inl ⟨by rfl, ?_⟩) hHeld ?_ ?_
                rotate_left
                · rintro w' s0
                  obtain ⟨a0, a1, a2, a3⟩ := HC.out w' s0
                  go_simp
                  with_reducible rfl
                rotate_left
                · simp only [Act.put, List.setIfInBounds_toArray, List.set_cons_zero, List.set_cons_succ, i64_w, i32_w]
                  rfl
                refine pure_ (i := 17) (N := some 142) (v := ?_) (a' := ?_) #[true, true, true, true, true, true, true, true, true, true, true, true, true, true, true, true, true, true, false, false, false, false, false, false, false, false, false, false] rfl rfl (by kernel_rfl) (fun _ _ _ h => h) (Or.inl ⟨by rfl, ?_⟩) ?_ ?_
                rotate_left
                · intro w'
                  go_simp
                  with_reducible rfl
                rotate_left
                · simp only [Act.put, List.setIfInBounds_toArray, List.set_cons_zero, List.set_cons_succ, i64_w, i32_w]
                  rfl
                refine pure_ (i := 20) (N := some 145) (v := ?_) (a' := ?_) #[true, true, true, true, true, true, true, true, true, true, true, true, true, true, true, true, true, true, false, false, true, false, false, false, false, false, false, false] rfl rfl (by kernel_rfl) (fun _ _ _ h => h) (Or.inl ⟨by rfl, ?_⟩) ?_ ?_
                rotate_left
                · intro w'
                  go_simp
                  with_reducible rfl
                rotate_left
                · simp only [Act.put, List.setIfInBounds_toArray, List.set_cons_zero, List.set_cons_succ, i64_w, i32_w]
                  rfl
                refine pure_ (i := 21) (N := some 146) (v := ?_) (a' := ?_) #[true, true, true, true, true, true, true, true, true, true, true, true, true, true, true, true, true, true, false, false, true, true, false, false, false, false, false, false] rfl rfl (by kernel_rfl) (fun _ _ _ h => h) (Or.inl ⟨by rfl, ?_⟩) ?_ ?_
                rotate_left
                · intro w'
                  go_simp
                  with_reducible rfl
                rotate_left
                · simp only [Act.put, List.setIfInBounds_toArray, List.set_cons_zero, List.set_cons_succ, i64_w, i32_w]
                  rfl
                refine pure_ (i := 22) (N := some 147) (v := ?_) (a' := ?_) #[true, true, true, true, true, true, true, true, true, true, true, true, true, true, true, true, true, true, false, false, true, true, true, false, false, false, false, false] rfl rfl (by kernel_rfl) (fun _ _ _ h => h) (Or.inl ⟨by rfl, ?_⟩) ?_ ?_
                rotate_left
                · intro w'
                  go_simp
                  with_reducible rfl
                rotate_left
                · simp only [Act.put, List.setIfInBounds_toArray, List.set_cons_zero, List.set_cons_succ, i64_w, i32_w]
                  rfl
                refine pure_ (i := 23) (N := some 148) (v := ?_) (a' := ?_) #[true, true, true, true, true, true, true, true, true, true, true, true, true, true, true, true, true, true, false, false, true, true, true, true, false, false, false, false] rfl rfl (by kernel_rfl) (fun _ _ _ h => h) (Or.inl ⟨by rfl, ?_⟩) ?_ ?_
                rotate_left
                · intro w'
                  go_simp
                  with_reducible rfl
                rotate_left
                · simp only [Act.put, List.setIfInBounds_toArray, List.set_cons_zero, List.set_cons_succ, i64_w, i32_w]
                  rfl
                refine take_ (i := 24) (N := some 149) (v := ?_) (a' := ?_) #[true, true, true, true, true, true, true, true, true, true, true, true, true, true, true, true, true, true, false, false, true, true, true, true, true, false, false, false] rfl rfl (by kernel_rfl) (fun _ _ _ h => h) (Or.inl ⟨by rfl, ?_⟩) hHeld ?_ ?_
                rotate_left
                · rintro w' s0
                  obtain ⟨a0, a1, a2, a3⟩ := HC.out w' s0
                  go_simp
                  with_reducible rfl
                rotate_left
                · simp only [Act.put, List.setIfInBounds_toArray, List.set_cons_zero, List.set_cons_succ, i64_w, i32_w]
                  rfl
                refine take_ (i := 25) (N := some 150) (v := ?_) (a' := ?_) #[true, true, true, true, true, true, true, true, true, true, true, true, true, true, true, true, true, true, false, false, true, true, true, true, true, true, false, false] rfl rfl (by kernel_rfl) (fun _ _ _ h => h) (Or.inl ⟨by rfl, ?_⟩) hHeld ?_ ?_
                rotate_left
                · rintro w' s0
                  obtain ⟨a0, a1, a2, a3⟩ := HC.out w' s0
                  go_simp
                  with_reducible rfl
                rotate_left
                · simp only [Act.put, List.setIfInBounds_toArray, List.set_cons_zero, List.set_cons_succ, i64_w, i32_w]
                  rfl
                refine one_ (i := 18) (N := some 143) #[true, true, true, true, true, true, true, true, true, true, true, true, true, true, true, true, true, true, true, false, true, true, true, true, true, true, false, false] rfl rfl (by kernel_rfl) (by decide) (fun K hK => ?_)
                refine goes_ Try.func22 (by kernel_rfl) rfl #[.pointer (some ⟨g, 0, none⟩), .int .i64 nb] (by rfl) rfl rfl (by (try simp only [List.map_toArray, List.map_cons, List.map_nil]); first | rfl | (go_simp; done)) ?_
                have hx := fixed_calls H7.out.2 (fun k h => by have h1 : w5.heap.size ≤ k := h.1; have := HB5.out; omega) H7.out.1 nb
                rw [HM.out.1, fixed_put] at hx
                rw [HM.out.1]
                refine hx.mono ?_
                clear hx
                rintro e w8 ⟨v8, rfl, hv8, hd8, hb8, _⟩
                obtain ⟨A8, c8, rfl, hc8, hC8⟩ := Kd.R_reads hv8
                refine ⟨_, rfl, ?_⟩
                have hcv8 := conv_row (c := c8) rfl hC8 (Below.refl _ _)
                rw [← HY.out] at hcv8
                refine hK.out _ _ (hb8) (fun hHeld => ?_)
                clear hK K
                refine norm_ (a' := ?_) ?_ ?_
                rotate_left
                · show Act.put _ (some 143) _ = _
                  simp only [Act.put, List.setIfInBounds_toArray, List.set_cons_zero, List.set_cons_succ, i64_w, i32_w]
                  rfl
                have H8 := Aside0.mk (And.intro hd8 hb8)
                clear hv8 hd8 hb8 hc8 hC8
                refine one_ (i := 19) (N := some 144) #[true, true, true, true, true, true, true, true, true, true, true, true, true, true, true, true, true, true, true, true, true, true, true, true, true, true, false, false] rfl rfl (by kernel_rfl) (by decide) (fun K hK => ?_)
                refine value_ (w1 := ?_) (v := ?_) (by rfl) rfl ?_ ?_
                rotate_left 2
                · go_simp
                  constructor
                  · rfl
                  · rfl
                refine hK.out _ _ (hHeld) (fun hHeld => ?_)
                clear hK K
                refine norm_ (a' := ?_) ?_ ?_
                rotate_left
                · show Act.put _ (some 144) _ = _
                  simp only [Act.put, List.setIfInBounds_toArray, List.set_cons_zero, List.set_cons_succ, i64_w, i32_w]
                  rfl
                clear hcv8
                refine pure_ (i := 26) (N := some 151) (v := ?_) (a' := ?_) #[true, true, true, true, true, true, true, true, true, true, true, true, true, true, true, true, true, true, true, true, true, true, true, true, true, true, true, false] rfl rfl (by kernel_rfl) (fun _ _ _ h => h) (Or.inl ⟨by rfl, ?_⟩) ?_ ?_
                rotate_left
                · intro w'
                  go_simp
                  with_reducible rfl
                rotate_left
                · simp only [Act.put, List.setIfInBounds_toArray, List.set_cons_zero, List.set_cons_succ, i64_w, i32_w]
                  rfl
                refine pure_ (i := 27) (N := some 152) (v := ?_) (a' := ?_) #[true, true, true, true, true, true, true, true, true, true, true, true, true, true, true, true, true, true, true, true, true, true, true, true, true, true, true, true] rfl rfl (by kernel_rfl) (fun _ _ _ h => h) (Or.inl ⟨by rfl, ?_⟩) ?_ ?_
                rotate_left
                · intro w'
                  go_simp
                  with_reducible rfl
                rotate_left
                · simp only [Act.put, List.setIfInBounds_toArray, List.set_cons_zero, List.set_cons_succ, i64_w, i32_w]
                  rfl
                refine done_ (by kernel_rfl) ?_
                go_wp2
                go_roundg (n - (j + 1))
                case measure => omega
                case rel => exact ⟨j + 1, by go_num, by omega, H8⟩
          · have d2 : decide ((j : Int) < (n : Int)) = false := decide_eq_false (by omega)
            have d2n : decide (j < n) = false := decide_eq_false (by omega)
            have hend : (⟨allPut (l.drop j), 0⟩ : RM).end_ = 0 := by rw [List.drop_of_length_le (by have := HP.out.1; omega), RM.end_0 rfl]; rfl
            have HE := Aside0.mk hend
            clear hend hlt
            go_wp2_with (go_at_call 23; go_loud (have hx := end_calls hI.out.1; rw [HE.out] at hx; refine hx.mono ?_; clear hx; rintro e w7 ⟨rfl, rfl⟩))
            go_ret
            exact ⟨rfl, hI.out.2⟩
end
end Go.Proofs.Ytlcanfniphdelaa.Cod
