/- The law WalRow. -/
import Derived.Test.YtnajdnhgoakgaaaRSt
namespace Go.Proofs.Ytnajdnhgoakgaaa.Wal
open Go.RowKit Go.Proofs.YtnajdnhgoakgaaaW.PrintWords Go.Proofs.YtnajdnhgoakgaaaW.PrintLast Go.Proofs.YtnajdnhgoakgaaaW.PrintMore Go.Proofs.Ytnajdnhgoakgaaa.Mem Go.Proofs.Ytnajdnhgoakgaaa.PWal Go.Proofs.Ytnajdnhgoakgaaa.Blk Go.Proofs.Ytnajdnhgoakgaaa.Open
set_option linter.unusedVariables false
set_option linter.unusedSimpArgs false
set_option maxRecDepth 100000
set_option maxHeartbeats 8000000
/-- What is true between two records. -/
structure RowSt (w wr : World) (gd gl : Nat) (fr : Int) (u : Nat) (v : Value) (E : Nat → Prop) (D : DM) (L : LM) (m : List ByteArray) : Prop where
  rs : RS w wr E gd gl fr 40 D L (m.map bytesOf)
  tk : Tk D L
  fu : Full D L
  lf : D.left < 0
  hv : L.hv = u
  nx : L.next = u + 1
  td : Told wr w E v m
theorem RowSt.below {w wr w' : World} {gd gl u : Nat} {fr : Int} {v : Value} {E : Nat → Prop} {D : DM} {L : LM} {m : List ByteArray} (h : RowSt w wr gd gl fr u v E D L m) (hb : Below wr.heap.size wr w') : RowSt w w' gd gl fr u v E D L m :=
  ⟨h.rs.below hb, h.tk, h.fu, h.lf, h.hv, h.nx, h.td.below hb⟩
theorem told_len {w wr : World} {gd gl u : Nat} {fr : Int} {v : Value} {E : Nat → Prop} {D : DM} {L : LM} {m : List ByteArray} (h : RowSt w wr gd gl fr u v E D L m) : m.length ≤ u ∧ u ≤ 40 := by
  have h1 := h.rs.sys.lok.lh
  have h2 := h.rs.sys.lok.h1
  rw [h.rs.l, List.length_map, h.hv] at h1
  rw [h.rs.hn, h.hv] at h2
  omega
section
variable {w : World}
theorem row_law {l : List (List Int)} {A : Option Addr} {c : Nat} (hl : RowsAt w A l) (hy : ∀ q ∈ l, Byt q) (hc : l.length ≤ c) (fb : Int) (hf0 : 0 ≤ fb) (hf1 : fb ≤ 255) :
    Calls Try.prog 8 #[.slice A l.length c, .int .u8 fb] w fun e w' => e = .returned (.bool true) ∧ Below w.heap.size w w' := by
  by_cases h10 : 10 < l.length
  · have d1 : decide ((l.length : Int) > 10) = true := decide_eq_true (by omega)
    obtain ⟨n, hn⟩ : ∃ n, n = l.length := ⟨_, rfl⟩
    rw [← hn] at d1 ⊢
    clear hl hy hc h10 hn
    go_enter Try.func8, Try.ntmps8
    go_wp2_with (first | (go_at_call 28; go_loud (refine (awake_calls w).mono ?_; rintro e w1 ⟨rfl, hb0⟩; have HB := Aside0.mk hb0; clear hb0)))
    go_ret
    exact ⟨rfl, HB.out⟩
  · have d1 : decide ((l.length : Int) > 10) = false := decide_eq_false (by omega)
    obtain ⟨n, hn⟩ : ∃ n, n = l.length := ⟨_, rfl⟩
    have hn10 : n ≤ 10 := by omega
    have HX := Aside0.mk (And.intro hl (And.intro hy hn))
    rw [← hn] at d1 ⊢
    have hnew : ∀ w1, Below w.heap.size w w1 → Calls Try.prog 14 #[.int .i64 60] w1 _ := fun w1 hb => Dk.new (w0 := w) hb 60 (by omega) (by omega)
    have HN := Aside0.mk hnew
    obtain ⟨fr, hfr⟩ : ∃ fr, fr = fb % 20 := ⟨_, rfl⟩
    have hE : allE (zD 60) fr 40 = 0 := by rw [zD_bad, if_neg (by omega)]
    have hnb : ¬ bad (zD 60) fr 40 := fun h => by unfold allE at hE; rw [if_pos h] at hE; cases hE
    have HE := Aside0.mk (And.intro hE (begin_0 (k := 60) (by omega) (by omega) hnb))
    have HF := Aside0.mk (show 0 ≤ fr ∧ fr ≤ 19 by omega)
    clear hl hy hc h10 hn hnew hE hnb
    go_enter Try.func8, Try.ntmps8
    go_wp2_with (first
      | (go_at_call 28; go_loud (refine (awake_calls w).mono ?_; rintro e w1 ⟨rfl, hb0⟩; have HB := Aside0.mk hb0; clear hb0))
      | (go_at_call 14; go_loud (refine (HN.out w1 HB.out).mono ?_; rintro e w2 ⟨g, rfl, hd, _⟩; have H1 := Aside0.mk (show Dk w w2 _ g (zD 60) from hd); clear hd))
      | (go_at_call 29; go_loud (rw [← hfr]; have hx := H1.out.begin_ fr 40 1 (by omega) (by omega); rw [HE.out.1] at hx; refine hx.mono ?_; clear hx; rintro e w3 ⟨v, rfl, _, h2, _⟩; obtain ⟨gl, rfl, hs⟩ := h2 rfl; have H3 := Aside0.mk (show Sys w w3 _ g gl (zD 60) (beginM (zD 60) fr 40 1) from hs); clear h2 hs H1)))
    have HI : Aside0 (RowSt w w3 g gl fr 0 (.slice none 0 0) _ (zD 60) (beginM (zD 60) fr 40 1) []) :=
      ⟨⟨⟨H3.out, HE.out.2.1, rfl, rfl, rfl⟩, HE.out.2.2.1, HE.out.2.2.2.1, by decide, rfl, HE.out.2.2.2.2, Kd.R_nil _ _ _ _ _⟩⟩
    rw [← hfr]
    clear hfr H3
    go_loopg [11, 12, 13] n (fun q v11 v12 v13 wr => ∃ (i u m : Nat) (A1 : Option Addr) (c1 : Nat) (E : Nat → Prop) (D : DM) (L : LM) (ms : List ByteArray), v11 = .slice A1 m c1 ∧ v12 = .int .i64 u ∧ v13 = .int .i64 i ∧ q + i = n ∧ m = ms.length ∧ Aside0 (RowSt w wr g gl fr u (.slice A1 m c1) E D L ms))
    case atStart => exact ⟨0, 0, 0, none, 0, _, _, _, [], rfl, rfl, rfl, by omega, rfl, HI⟩
    case round =>
      clear HI
      obtain ⟨i, u, m, A1, c1, E, D, L, ms, rfl, rfl, rfl, hq, hms, hI⟩ := hrel
      have hu := told_len hI.out
      have HM := Aside0.mk hms
      clear hms
      by_cases hlt : i < n
      · have d2 : decide ((i : Int) < (n : Int)) = true := decide_eq_true (by omega)
        have d2n : decide (i < n) = true := decide_eq_true (by omega)
        obtain ⟨a, B, cb, rfl, hcell, hC, hcb, hbz⟩ := HX.out.1.2 i (by rw [← HX.out.2.2]; exact hlt)
        obtain ⟨b, hb⟩ : ∃ b, b = l.getD i [] := ⟨_, rfl⟩
        have hby : Byt b := by
          have hi : i < l.length := by rw [← HX.out.2.2]; exact hlt
          rw [hb, List.getD_eq_getElem?_getD, List.getElem?_eq_getElem hi]
          exact HX.out.2.1 _ (List.getElem_mem hi)
        rw [← hb] at hcell hC hcb hbz
        obtain ⟨bl, hbl⟩ : ∃ k, k = b.length := ⟨_, rfl⟩
        have HB := Aside0.mk (And.intro hC (And.intro hcb (And.intro hby (And.intro hbl hcell))))
        rw [← hbl] at hbz
        have e1 : wr.cell? (a.add i) = some (.slice B bl cb) := by rw [hbl]; exact cell_below hcell hI.out.rs.sys.bl
        by_cases h400 : 400 < bl
        · have d3 : decide ((bl : Int) > 400) = true := decide_eq_true (by omega)
          clear hcell hC hcb hby hbl hb h400
          go_wp2
          go_ret
          exact ⟨rfl, hI.out.rs.sys.bl⟩
        · have d3 : decide ((bl : Int) > 400) = false := decide_eq_false (by omega)
          obtain ⟨nb, hnb⟩ : ∃ nb, nb = npc b := ⟨_, rfl⟩
          have hnb2 : 1 ≤ nb ∧ nb ≤ 401 := by have h1 := npc_pos b; have h2 := npc_le b; omega
          have HNB := Aside0.mk (And.intro hnb (show blocksM bl = (nb : Int) by rw [hnb, hbl]; exact (npc_blocks b).symm))
          have HL4 := Aside0.mk (show b.length ≤ 100000000 by omega)
          clear hcell hC hcb hby hbl hb h400 hnb
          by_cases hfit : 40 < u + nb
          · have d4 : decide ((u : Int) + (nb : Int) > 40) = true := decide_eq_true (by omega)
            have HFT := Aside0.mk hfit
            clear hfit
            go_wp2_with (first
              | (go_at_call 35; go_loud (have hx := blocks_calls (w := wr) (bl : Int) (by omega); rw [HNB.out.2] at hx; refine hx.mono ?_; clear hx; rintro e w4 ⟨rfl, hb4⟩; have H4 := Aside0.mk (hI.out.below hb4); have e2 : w4.cell? (a.add i) = some (.slice B bl cb) := cell_below e1 hb4; clear hb4))
              | (go_at_call 30; go_loud (have hx := H4.out.rs.add_full HB.out.1 HB.out.2.1 HL4.out HB.out.2.2.1 (by rw [H4.out.rs.hn, H4.out.hv, ← HNB.out.1]; have := HFT.out; omega); rw [← HB.out.2.2.2.1] at hx; refine hx.mono ?_; clear hx; rintro e w5 ⟨rfl, h5, k5⟩; have H5 := Aside0.mk (RowSt.mk h5 H4.out.tk H4.out.fu H4.out.lf H4.out.hv H4.out.nx (H4.out.td.ext k5)); clear h5 k5)))
            go_roundg (n - (i + 1))
            case measure => omega
            case rel => exact ⟨i + 1, u, m, A1, c1, _, D, L, ms, rfl, rfl, by go_num, by omega, HM.out, H5⟩
          · have d4 : decide ((u : Int) + (nb : Int) > 40) = false := decide_eq_false (by omega)
            have HFT := Aside0.mk hfit
            clear hfit
            go_wp2_with (first
              | (go_at_call 35; go_loud (have hx := blocks_calls (w := wr) (bl : Int) (by omega); rw [HNB.out.2] at hx; refine hx.mono ?_; clear hx; rintro e w4 ⟨rfl, hb4⟩; have H4 := Aside0.mk (hI.out.below hb4); have e2 : w4.cell? (a.add i) = some (.slice B bl cb) := cell_below e1 hb4; clear hb4))
              | (go_at_call 30; go_loud (have hx := H4.out.rs.add_ok H4.out.lf HB.out.1 HB.out.2.1 HL4.out HB.out.2.2.1 (by rw [H4.out.rs.hn, H4.out.hv, ← HNB.out.1]; have := HFT.out; omega) (by rw [H4.out.nx, ← HNB.out.1]; have := HFT.out; omega); rw [← HB.out.2.2.2.1] at hx; refine hx.mono ?_; clear hx; rintro e w5 ⟨rfl, D5, h5, tk5, fu5, lf5, k5⟩; have H5 := Aside0.mk (And.intro h5 (And.intro tk5 (And.intro fu5 (And.intro lf5 (H4.out.td.ext k5))))); have e3 : w5.cell? (a.add i) = some (.slice B bl cb) := (by rw [HB.out.2.2.2.1]; exact cell_below HB.out.2.2.2.2 h5.sys.bl); have hcv := conv_nums (wd := w5) (c := cb) (n := bl) HB.out.2.2.1 HB.out.2.2.2.1 HB.out.1 h5.sys.bl; clear h5 tk5 fu5 lf5 k5))
              | ((with_reducible refine gate_builtin (b := .append) (xs := #[.tmp 74, .tmp 80]) rfl ?_); at_builtin; go_loud ( refine Kd.R_append Kd.string (w0 := w) (W := w5) w.heap.size ?q1 (.tmp 74) (.tmp 80) 28 9 (.string ByteArray.empty) 16 ?q2 Try.underlying28 ?q3 ?q4 (by decide) (by decide) (.slice A1 m c1) ms (strOfNums b) [.string (strOfNums b)] (fun k => ¬ Ext E w4 w5 k) (fun _ => False) ?q5 ?q6 ?aM (fun _ hk => hk.elim) ?aF ?aH ?aB ?aS ?aL ?_; (case q1 => rfl); (case q2 => rfl); (case q3 => exact info_str); (case q4 => rfl); (case q5 => rfl); (case q6 => rfl); (case aH => exact H5.out.2.2.2.2); (case aM => exact (show Kd.M Kd.string _ _ _ (strOfNums b) [.string (strOfNums b)] from rfl)); (case aF => exact fun k hk he => by have := he.2; omega); (case aB => exact H5.out.1.sys.bl); (case aS => exact below_size H5.out.1.sys.bl); (case aL => omega); intro v6 w6 ho6 hb6 hg6 _; obtain ⟨A6, c6, rfl, _, _⟩ := Kd.R_reads ho6; have H6 := Aside0.mk (And.intro (H5.out.1.grown H5.out.2.2.2.2 hg6 hb6) ho6); clear ho6 hb6 hg6)))
            go_roundg (n - (i + 1))
            case measure => omega
            case rel =>
              refine ⟨i + 1, u + nb, (ms ++ [strOfNums b]).length, A6, c6, _, D5, L.added b, ms ++ [strOfNums b], by rw [List.length_append, List.length_singleton], by go_num, by go_num, by omega, rfl, ⟨?_, H5.out.2.1, H5.out.2.2.1, H5.out.2.2.2.1, ?_, ?_, H6.out.2⟩⟩
              · rw [List.map_append, List.map_singleton, str_bytes HB.out.2.2.1]
                exact H6.out.1
              · show L.hv + npc b = _
                rw [hI.out.hv, ← HNB.out.1]; omega
              · show L.next + npc b = _
                rw [hI.out.nx, ← HNB.out.1]; omega
      · have d2 : decide ((i : Int) < (n : Int)) = false := decide_eq_false (by omega)
        have d2n : decide (i < n) = false := decide_eq_false (by omega)
        have hal : allE D fr 40 = 0 := by
          have h1 := hI.out.rs.live.nb
          rw [hI.out.rs.hfr, hI.out.rs.hn] at h1
          unfold allE
          rw [if_neg h1, hI.out.rs.live.up]
          rfl
        have hof := open_full hI.out.rs.live hI.out.tk hI.out.fu (by rw [hI.out.nx]; omega)
        rw [hI.out.rs.hfr, hI.out.rs.hn, hI.out.rs.l, hI.out.hv, hI.out.nx] at hof
        have HA := Aside0.mk (And.intro hal hof)
        have hw1 : IntKind.u64.wrap (u : Int) = u := wraps_u64 _ (by omega) (by omega)
        have hw2 : IntKind.u64.wrap ((u : Int) + 1) = u + 1 := wraps_u64 _ (by omega) (by omega)
        have hm65 : ms.length ≤ 65536 := by omega
        clear hal hof
        go_wp2_with (first
          | (go_at_call 36; go_loud (have hx := hI.out.rs.sys.dk.open_ fr 40; rw [HA.out.1] at hx; refine hx.mono ?_; clear hx; rintro e w7 ⟨v, rfl, _, h2, hb7⟩; obtain ⟨gm, rfl, hs⟩ := h2 rfl; have H7 := Aside0.mk (And.intro hs (And.intro (hI.out.rs.sys.below hb7) (hI.out.td.below hb7))); clear h2 hs hb7))
          | (go_at_call 31; have _t := H9; go_loud (have hx := H9.out.1.records; rw [HA.out.2.1] at hx; refine hx.mono ?_; clear hx; rintro e w10 ⟨v10, rfl, hr10, hb10⟩; have H10 := Aside0.mk (And.intro hr10 (And.intro (H9.out.1.below hb10) (And.intro (H9.out.2.1.below hb10) (H9.out.2.2.below hb10)))); clear hr10 hb10))
          | (go_at_call 31; go_loud (have hx := H7.out.2.1.records; rw [hI.out.rs.l] at hx; refine hx.mono ?_; clear hx; rintro e w8 ⟨v8, rfl, hr8, hb8⟩; have H8 := Aside0.mk (And.intro hr8 (And.intro (H7.out.1.below hb8) (And.intro (H7.out.2.1.below hb8) (H7.out.2.2.below hb8)))); clear hr8 hb8))
          | (go_at_call 37; have _t := H10; go_loud (refine (same_calls H10.out.1 H10.out.2.2.2 rfl hm65).mono ?_; rintro e w11 ⟨rfl, hb11⟩; have H11 := Aside0.mk (And.intro (H10.out.2.1.below hb11) (H10.out.2.2.1.below hb11)); clear hb11))
          | (go_at_call 37; go_loud (refine (same_calls H8.out.1 H8.out.2.2.2 rfl hm65).mono ?_; rintro e w9 ⟨rfl, hb9⟩; have H9 := Aside0.mk (And.intro (H8.out.2.1.below hb9) (And.intro (H8.out.2.2.1.below hb9) (H8.out.2.2.2.below hb9))); clear hb9))
          | (go_at_call 34; have _t := H12; go_loud (have hx := H12.out.1.free; rw [show (openM D fr 40).n = 40 from rfl, HA.out.2.2.1] at hx; refine hx.mono ?_; clear hx; rintro e w13 ⟨rfl, hb13⟩; have H13 := Aside0.mk (And.intro (H12.out.1.below hb13) (H12.out.2.below hb13)); clear hb13))
          | (go_at_call 34; go_loud (have hx := H11.out.2.free; rw [hI.out.rs.hn, hI.out.hv] at hx; refine hx.mono ?_; clear hx; rintro e w12 ⟨rfl, hb12⟩; have H12 := Aside0.mk (And.intro (H11.out.1.below hb12) (H11.out.2.below hb12)); clear hb12))
          | (go_at_call 32; have _t := H14; go_loud (have hx := H13.out.1.next; rw [HA.out.2.2.2.1] at hx; refine hx.mono ?_; clear hx; rintro e w' ⟨rfl, rfl⟩))
          | (go_at_call 32; go_loud (have hx := H13.out.2.next; rw [hI.out.nx] at hx; refine hx.mono ?_; clear hx; rintro e w' ⟨rfl, rfl⟩; have H14 := Aside0.mk trivial)))
        go_ret
        exact ⟨rfl, H13.out.1.bl⟩
theorem row_row {H : Type} {enc : TypeId × Value → H} {base : Nat} {held : Bool} {A : Option Addr} {len cap : Nat} {d : DataW H} {p : List MemPlace} (h : DataW.Trod enc Try.prog w base (fun _ => true) held 56 (.slice A len cap) d p) {x : Int} (h0 : 0 ≤ x) (h1 : x ≤ 255) :
    Calls Try.prog 8 #[.slice A len cap, .int .u8 x] w fun e w' => e = .returned (.bool true) ∧ Below w.heap.size w w' := by
  obtain ⟨l, rfl, hl, hc, hy⟩ := open_rows Try.underlying56 Try.underlying35 Try.underlying5 (by kernel_rfl) (by kernel_rfl) h
  exact row_law hl hy hc x h0 h1
end
end Go.Proofs.Ytnajdnhgoakgaaa.Wal
