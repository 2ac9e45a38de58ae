/- The law WalNone. -/
import Derived.Test.YtnajdnhgoakgaaaAwk9
namespace Go.Proofs.Ytnajdnhgoakgaaa.Wal
open Go.RowKit Go.Proofs.YtnajdnhgoakgaaaW.PrintWords Go.Proofs.YtnajdnhgoakgaaaW.PrintLast Go.Proofs.YtnajdnhgoakgaaaW.PrintMore Go.Proofs.Ytnajdnhgoakgaaa.Mem Go.Proofs.Ytnajdnhgoakgaaa.PWal Go.Proofs.Ytnajdnhgoakgaaa.Blk
set_option linter.unusedVariables false
set_option linter.unusedSimpArgs false
set_option maxRecDepth 100000
set_option maxHeartbeats 4000000
def zD (k : Nat) : DM := ⟨List.replicate k zero128, -1, 0, false⟩
theorem zD_len (k : Nat) : ((zD k).L.length : Int) = k := by unfold zD; rw [List.length_replicate]
theorem zD_bad (k : Nat) (fr n : Int) : allE (zD k) fr n = if fr < 0 ∨ n < 1 ∨ (k : Int) < fr ∨ (k : Int) - fr < n then 1 else 0 := by
  unfold allE
  by_cases h : bad (zD k) fr n
  · have h' := h
    unfold bad at h'
    rw [zD_len] at h'
    rw [if_pos h, if_pos h']
  · have h' := h
    unfold bad at h'
    rw [zD_len] at h'
    rw [if_neg h, if_neg h']
    rfl
theorem none_law (fr n l : Int) (hl0 : 0 ≤ l) (hl1 : l ≤ 18446744073709551615) (w : World) : Calls Try.prog 7 #[.int .i64 fr, .int .i64 n, .int .u64 l] w fun e w' => e = .returned (.bool true) ∧ Below w.heap.size w w' := by
  have hnew : ∀ w1, Below w.heap.size w w1 → Calls Try.prog 14 #[.int .i64 10] w1 _ := fun w1 hb => Dk.new (w0 := w) hb 10 (by omega) (by omega)
  have HN := Aside0.mk hnew
  have HL := Aside0.mk (And.intro hl0 hl1)
  have hE := zD_bad 10 fr n
  have HE := Aside0.mk hE
  clear hnew hl0 hl1 hE
  by_cases hg : 0 ≤ fr ∧ fr ≤ 10 ∧ 1 ≤ n ∧ n ≤ 10 - fr
  · obtain ⟨g1, g2, g3, g4⟩ := hg
    have HE0 : Aside0 (allE (zD 10) fr n = 0) := ⟨by rw [HE.out, if_neg (by omega)]⟩
    go_enter Try.func7, Try.ntmps7
    go_wp2_with (first
      | (go_at_call 28; go_loud (refine (awake_calls w).mono ?_; rintro e w1 ⟨rfl, hb0⟩; have HB := Aside0.mk hb0; clear hb0))
      | (go_at_call 14; go_loud (refine (HN.out w1 HB.out).mono ?_; rintro e w2 ⟨g, rfl, hd, _⟩; have H1 := Aside0.mk (show Dk w w2 _ g (zD 10) from hd); clear hd))
      | (go_at_call 29; have _t := H2; go_loud (have hx := H1.out.begin_ fr n l HL.out.1 HL.out.2; rw [HE0.out] at hx; refine hx.mono ?_; clear hx; rintro e w4 ⟨v, rfl, _, h2, _⟩; obtain ⟨gl, rfl, hs⟩ := h2 rfl; have H3 := Aside0.mk (hs.bl); clear h2 hs H1))
      | (go_at_call 29; go_loud (refine (begin_nil 0 1 1).mono ?_; rintro e w3 ⟨rfl, rfl⟩; have H2 := Aside0.mk trivial))
      | (go_at_call 30; go_loud (refine (add_nil none 0).mono ?_; rintro e w5 ⟨rfl, hb⟩; have H5 := Aside0.mk (below_step H3.out hb); clear hb))
      | (go_at_call 31; go_loud (refine (records_nil).mono ?_; rintro e w6 ⟨rfl, rfl⟩))
      | (go_at_call 32; go_loud (refine (next_nil).mono ?_; rintro e w6 ⟨rfl, rfl⟩))
      | (go_at_call 33; go_loud (refine (first_nil).mono ?_; rintro e w6 ⟨rfl, rfl⟩))
      | (go_at_call 34; go_loud (refine (free_nil).mono ?_; rintro e w6 ⟨rfl, rfl⟩)))
    go_ret
    exact ⟨rfl, H5.out⟩
  · have HE0 : Aside0 (allE (zD 10) fr n = 1) := ⟨by rw [HE.out, if_pos (by omega)]⟩
    by_cases g1 : 0 ≤ fr
    · by_cases g2 : fr ≤ 10
      · by_cases g3 : 1 ≤ n
        · have g4 : ¬ n ≤ 10 - fr := fun h => hg ⟨g1, g2, g3, h⟩
          have d4 : decide (n ≤ 10 - fr) = false := decide_eq_false g4
          clear hg
          go_enter Try.func7, Try.ntmps7
          go_wp2_with (first
            | (go_at_call 28; go_loud (refine (awake_calls w).mono ?_; rintro e w1 ⟨rfl, hb0⟩; have HB := Aside0.mk hb0; clear hb0))
            | (go_at_call 14; go_loud (refine (HN.out w1 HB.out).mono ?_; rintro e w2 ⟨g, rfl, hd, _⟩; have H1 := Aside0.mk (show Dk w w2 _ g (zD 10) from hd); clear hd))
            | (go_at_call 29; have _t := H2; go_loud (have hx := H1.out.begin_ fr n l HL.out.1 HL.out.2; rw [HE0.out] at hx; refine hx.mono ?_; clear hx; rintro e w4 ⟨v, rfl, h2, _, hb⟩; obtain rfl := h2 (by decide); have H3 := Aside0.mk (below_step H1.out.bl hb); clear h2 hb H1))
            | (go_at_call 29; go_loud (refine (begin_nil 0 1 1).mono ?_; rintro e w3 ⟨rfl, rfl⟩; have H2 := Aside0.mk trivial))
            | (go_at_call 30; go_loud (refine (add_nil none 0).mono ?_; rintro e w5 ⟨rfl, hb⟩; have H5 := Aside0.mk (below_step H3.out hb); clear hb))
            | (go_at_call 31; go_loud (refine (records_nil).mono ?_; rintro e w6 ⟨rfl, rfl⟩))
            | (go_at_call 32; go_loud (refine (next_nil).mono ?_; rintro e w6 ⟨rfl, rfl⟩))
            | (go_at_call 33; go_loud (refine (first_nil).mono ?_; rintro e w6 ⟨rfl, rfl⟩))
            | (go_at_call 34; go_loud (refine (free_nil).mono ?_; rintro e w6 ⟨rfl, rfl⟩)))
          go_ret
          exact ⟨rfl, H5.out⟩
        · clear hg
          go_enter Try.func7, Try.ntmps7
          go_wp2_with (first
            | (go_at_call 28; go_loud (refine (awake_calls w).mono ?_; rintro e w1 ⟨rfl, hb0⟩; have HB := Aside0.mk hb0; clear hb0))
            | (go_at_call 14; go_loud (refine (HN.out w1 HB.out).mono ?_; rintro e w2 ⟨g, rfl, hd, _⟩; have H1 := Aside0.mk (show Dk w w2 _ g (zD 10) from hd); clear hd))
            | (go_at_call 29; have _t := H2; go_loud (have hx := H1.out.begin_ fr n l HL.out.1 HL.out.2; rw [HE0.out] at hx; refine hx.mono ?_; clear hx; rintro e w4 ⟨v, rfl, h2, _, hb⟩; obtain rfl := h2 (by decide); have H3 := Aside0.mk (below_step H1.out.bl hb); clear h2 hb H1))
            | (go_at_call 29; go_loud (refine (begin_nil 0 1 1).mono ?_; rintro e w3 ⟨rfl, rfl⟩; have H2 := Aside0.mk trivial))
            | (go_at_call 30; go_loud (refine (add_nil none 0).mono ?_; rintro e w5 ⟨rfl, hb⟩; have H5 := Aside0.mk (below_step H3.out hb); clear hb))
            | (go_at_call 31; go_loud (refine (records_nil).mono ?_; rintro e w6 ⟨rfl, rfl⟩))
            | (go_at_call 32; go_loud (refine (next_nil).mono ?_; rintro e w6 ⟨rfl, rfl⟩))
            | (go_at_call 33; go_loud (refine (first_nil).mono ?_; rintro e w6 ⟨rfl, rfl⟩))
            | (go_at_call 34; go_loud (refine (free_nil).mono ?_; rintro e w6 ⟨rfl, rfl⟩)))
          go_ret
          exact ⟨rfl, H5.out⟩
      · clear hg
        go_enter Try.func7, Try.ntmps7
        go_wp2_with (first
          | (go_at_call 28; go_loud (refine (awake_calls w).mono ?_; rintro e w1 ⟨rfl, hb0⟩; have HB := Aside0.mk hb0; clear hb0))
          | (go_at_call 14; go_loud (refine (HN.out w1 HB.out).mono ?_; rintro e w2 ⟨g, rfl, hd, _⟩; have H1 := Aside0.mk (show Dk w w2 _ g (zD 10) from hd); clear hd))
          | (go_at_call 29; have _t := H2; go_loud (have hx := H1.out.begin_ fr n l HL.out.1 HL.out.2; rw [HE0.out] at hx; refine hx.mono ?_; clear hx; rintro e w4 ⟨v, rfl, h2, _, hb⟩; obtain rfl := h2 (by decide); have H3 := Aside0.mk (below_step H1.out.bl hb); clear h2 hb H1))
          | (go_at_call 29; go_loud (refine (begin_nil 0 1 1).mono ?_; rintro e w3 ⟨rfl, rfl⟩; have H2 := Aside0.mk trivial))
          | (go_at_call 30; go_loud (refine (add_nil none 0).mono ?_; rintro e w5 ⟨rfl, hb⟩; have H5 := Aside0.mk (below_step H3.out hb); clear hb))
          | (go_at_call 31; go_loud (refine (records_nil).mono ?_; rintro e w6 ⟨rfl, rfl⟩))
          | (go_at_call 32; go_loud (refine (next_nil).mono ?_; rintro e w6 ⟨rfl, rfl⟩))
          | (go_at_call 33; go_loud (refine (first_nil).mono ?_; rintro e w6 ⟨rfl, rfl⟩))
          | (go_at_call 34; go_loud (refine (free_nil).mono ?_; rintro e w6 ⟨rfl, rfl⟩)))
        go_ret
        exact ⟨rfl, H5.out⟩
    · clear hg
      go_enter Try.func7, Try.ntmps7
      go_wp2_with (first
        | (go_at_call 28; go_loud (refine (awake_calls w).mono ?_; rintro e w1 ⟨rfl, hb0⟩; have HB := Aside0.mk hb0; clear hb0))
        | (go_at_call 14; go_loud (refine (HN.out w1 HB.out).mono ?_; rintro e w2 ⟨g, rfl, hd, _⟩; have H1 := Aside0.mk (show Dk w w2 _ g (zD 10) from hd); clear hd))
        | (go_at_call 29; have _t := H2; go_loud (have hx := H1.out.begin_ fr n l HL.out.1 HL.out.2; rw [HE0.out] at hx; refine hx.mono ?_; clear hx; rintro e w4 ⟨v, rfl, h2, _, hb⟩; obtain rfl := h2 (by decide); have H3 := Aside0.mk (below_step H1.out.bl hb); clear h2 hb H1))
        | (go_at_call 29; go_loud (refine (begin_nil 0 1 1).mono ?_; rintro e w3 ⟨rfl, rfl⟩; have H2 := Aside0.mk trivial))
        | (go_at_call 30; go_loud (refine (add_nil none 0).mono ?_; rintro e w5 ⟨rfl, hb⟩; have H5 := Aside0.mk (below_step H3.out hb); clear hb))
        | (go_at_call 31; go_loud (refine (records_nil).mono ?_; rintro e w6 ⟨rfl, rfl⟩))
        | (go_at_call 32; go_loud (refine (next_nil).mono ?_; rintro e w6 ⟨rfl, rfl⟩))
        | (go_at_call 33; go_loud (refine (first_nil).mono ?_; rintro e w6 ⟨rfl, rfl⟩))
        | (go_at_call 34; go_loud (refine (free_nil).mono ?_; rintro e w6 ⟨rfl, rfl⟩)))
      go_ret
      exact ⟨rfl, H5.out⟩
end Go.Proofs.Ytnajdnhgoakgaaa.Wal
