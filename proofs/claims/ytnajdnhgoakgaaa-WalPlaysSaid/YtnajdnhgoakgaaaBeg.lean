/- Begin. -/
import Derived.Test.YtnajdnhgoakgaaaOpn
namespace Go.Proofs.Ytnajdnhgoakgaaa.Wal
open Go.RowKit Go.Proofs.YtnajdnhgoakgaaaW.PrintWords Go.Proofs.YtnajdnhgoakgaaaW.PrintLast Go.Proofs.YtnajdnhgoakgaaaW.PrintMore Go.Proofs.Ytnajdnhgoakgaaa.Mem Go.Proofs.Ytnajdnhgoakgaaa.PWal Go.Proofs.Ytnajdnhgoakgaaa.Blk
set_option linter.unusedVariables false
set_option linter.unusedSimpArgs false
set_option maxRecDepth 8000
set_option maxHeartbeats 4000000
attribute [local go_sem] max2_mx max_two max_three
def openN (D : DM) (fr n : Int) : Int := IntKind.u64.wrap (mostM (rowsD D fr n) + 1)
def beginN (D : DM) (fr n least : Int) : Int := if openN D fr n > 0 then mx2 (openN D fr n) least else openN D fr n
def beginM (D : DM) (fr n least : Int) : LM := freshL fr n (beginN D fr n least)
section
variable {w : World} {F : Nat → Prop} {g gl : Nat} {D : DM}
theorem begin_calls (hd : DiskAt w F g D) (fr n l : Int) (hl0 : 0 ≤ l) (hl1 : l ≤ 18446744073709551615) : Calls Try.prog 29 #[.pointer (some ⟨g, 0, none⟩), .int .i64 fr, .int .i64 n, .int .u64 l] w fun e w' => ∃ v, e = .returned (.tuple #[v, .int .i64 (allE D fr n)]) ∧ (allE D fr n ≠ 0 → v = .pointer none) ∧ (allE D fr n = 0 → ∃ gl, v = .pointer (some ⟨gl, 0, none⟩) ∧ LogAt w' w.heap.size (fun k => w.heap.size ≤ k) gl g (beginM D fr n l)) ∧ Below w.heap.size w w' := by
  have hok : D.Ok := by obtain ⟨lb, _, _, _, _, h⟩ := hd; exact h
  have HA := Aside0.mk (And.intro (open_calls hd fr n) (And.intro hok (And.intro hl0 hl1)))
  clear hd hok hl0 hl1
  by_cases hE : allE D fr n = 0
  · have hnb : ¬ bad D fr n := fun h => by have e : allE D fr n = 1 := if_pos h; rw [e] at hE; cases hE
    rw [hE] at HA ⊢
    have HN := Aside0.mk hnb
    clear hnb hE
    obtain ⟨nx, hnx⟩ : ∃ nx, nx = openN D fr n := ⟨_, rfl⟩
    have hfin : ∀ (w1 w2 : World) (nn : Int), Below w.heap.size w w1 → nn = beginN D fr n l → w2 = w1.alloc (.cells (lcells g (freshL fr n nn) (.slice none 0 0)) 91) → LogAt w2 w.heap.size (fun k => w.heap.size ≤ k) w1.heap.size g (beginM D fr n l) ∧ Below w.heap.size w w2 := fun w1 w2 nn h1 h2 h3 => by
      have hwi := wrap_in (mostM (rowsD D fr n) + 1)
      have e : openN D fr n = IntKind.u64.wrap (mostM (rowsD D fr n) + 1) := rfl
      have hb2 : 0 ≤ nn ∧ nn ≤ 18446744073709551615 := by
        rw [h2]
        unfold beginN
        split
        · exact ⟨mx2_0 hwi.1 HA.out.2.2.1, mx2_le hwi.2 HA.out.2.2.2⟩
        · exact hwi
      rw [h3]
      refine ⟨⟨.slice none 0 0, h1.size, h1.size, ?_, Kd.R_nil _ _ _ _ _, ?_⟩, below_step h1 (below_alloc (Below.refl _ _) _)⟩
      · unfold beginM; rw [← h2]; exact blk_new w1 _
      · unfold beginM; rw [← h2]; exact fresh_ok HA.out.2.1 HN.out hb2.1 hb2.2
    have HF := Aside0.mk hfin
    have HX := Aside0.mk hnx
    clear hfin
    by_cases h0 : 0 < nx
    · have d0 : decide (nx > 0) = true := decide_eq_true h0
      have hbn : beginN D fr n l = mx2 nx l := by unfold beginN; rw [← hnx, if_pos h0]
      have HB := Aside0.mk hbn
      clear hnx h0 hbn
      go_enter Try.func29, Try.ntmps29
      go_wp2_with (go_at_call 36; go_loud (refine HA.out.1.mono ?_; rintro e w1 ⟨v, rfl, _, h1, h2⟩; obtain ⟨gl, rfl, h3⟩ := h1 rfl; obtain ⟨v, _, _, h4, _⟩ := h3; have c4 : w1.cell? ⟨gl, 4, none⟩ = some (.int .u64 nx) := (blk_cell h4 4).trans (by rw [HX.out]; rfl); have H1 := Aside0.mk h2; clear h1 h2 h4))
      go_ret2
      have hz := HF.out _ _ _ H1.out HB.out.symm rfl
      exact ⟨_, rfl, fun h => absurd rfl h, fun _ => ⟨_, rfl, hz.1⟩, hz.2⟩
    · have d0 : decide (nx > 0) = false := decide_eq_false h0
      have hbn : beginN D fr n l = nx := by unfold beginN; rw [← hnx, if_neg h0]
      have HB := Aside0.mk hbn
      clear hnx h0 hbn
      go_enter Try.func29, Try.ntmps29
      go_wp2_with (go_at_call 36; go_loud (refine HA.out.1.mono ?_; rintro e w1 ⟨v, rfl, _, h1, h2⟩; obtain ⟨gl, rfl, h3⟩ := h1 rfl; obtain ⟨v, _, _, h4, _⟩ := h3; have c4 : w1.cell? ⟨gl, 4, none⟩ = some (.int .u64 nx) := (blk_cell h4 4).trans (by rw [HX.out]; rfl); have H1 := Aside0.mk h2; clear h1 h2 h4))
      go_ret2
      have hz := HF.out _ _ _ H1.out HB.out.symm rfl
      exact ⟨_, rfl, fun h => absurd rfl h, fun _ => ⟨_, rfl, hz.1⟩, hz.2⟩
  · obtain ⟨q, hq⟩ : ∃ q, q = allE D fr n := ⟨_, rfl⟩
    rw [← hq] at HA hE ⊢
    have hb : (q != 0) = true := bne_iff_ne.2 hE
    have HE := Aside0.mk hE
    clear hE hq
    go_enter Try.func29, Try.ntmps29
    go_wp2_with (first
      | (go_at_call 36; go_loud (refine HA.out.1.mono ?_; rintro e w1 ⟨v, rfl, h1, _, h2⟩; obtain rfl := h1 HE.out; have H1 := Aside0.mk h2; clear h1 h2)))
    go_ret2
    exact ⟨_, rfl, fun _ => rfl, fun h => absurd h HE.out, H1.out⟩
/-- Blocks. -/
def blocksM (n : Int) : Int := if n < 1 then 1 else (n - 1) / 110 + 1
theorem blocks_calls (n : Int) (h : n ≤ 9223372036854775807) : Calls Try.prog 35 #[.int .i64 n] w fun e w' => e = .returned (.int .i64 (blocksM n)) ∧ Below w.heap.size w w' := by
  refine (wal_Blocks.calls n (blocksM n) w ?_).mono fun e w' h => ⟨h.1, h.2.below⟩
  unfold wal_Blocks.f blocksM
  by_cases h1 : n < 1
  · rw [if_pos h1, if_pos h1]
  · rw [if_neg h1, if_neg h1, IntWalk.wrap64_in (n - 1) ⟨by omega, by omega⟩, Int.tdiv_eq_ediv_of_nonneg (by omega), IntWalk.wrap64_in ((n - 1) / 110) ⟨by omega, by omega⟩, IntWalk.wrap64_in _ ⟨by omega, by omega⟩]
end
end Go.Proofs.Ytnajdnhgoakgaaa.Wal
