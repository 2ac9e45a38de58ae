/- The law WalAgain. -/
import Derived.Test.YtnajdnhgoakgaaaRSt
namespace Go.Proofs.Ytnajdnhgoakgaaa.Wal
open Go.RowKit Go.Proofs.YtnajdnhgoakgaaaW.PrintWords Go.Proofs.YtnajdnhgoakgaaaW.PrintLast Go.Proofs.YtnajdnhgoakgaaaW.PrintMore Go.Proofs.Ytnajdnhgoakgaaa.Mem Go.Proofs.Ytnajdnhgoakgaaa.PWal Go.Proofs.Ytnajdnhgoakgaaa.Blk Go.Proofs.Ytnajdnhgoakgaaa.Open
set_option linter.unusedVariables false
set_option linter.unusedSimpArgs false
set_option maxRecDepth 100000
set_option maxHeartbeats 8000000
/-- What is true between two records of the first log. -/
structure AgA (w wr : World) (gd gl : Nat) (i : Nat) (E : Nat → Prop) (D : DM) (L : LM) (q : List (List Int)) : Prop where
  rs : RS w wr E gd gl 0 40 D L q
  tk : Tk D L
  fu : Full D L
  lf : D.left < 0
  hv : L.hv ≤ 3 * i
  nx : L.next = L.hv + 1
/-- .. and of the second. -/
structure AgB (w wr : World) (gd gl n0 : Nat) (i : Nat) (v : Value) (E : Nat → Prop) (D : DM) (L : LM) (m : List ByteArray) : Prop where
  rs : RS w wr E gd gl 0 40 D L (m.map bytesOf)
  lf : D.left < 0
  hv : L.hv ≤ 3 * i
  nx : L.next ≤ 4294967400 + L.hv
  td : Told wr w E v m
  ml : m.length = i
  z0 : i = 0 → (takeM (rowsD D 0 40) 0 t0).l.length = n0
  z1 : 0 < i → Tk D L ∧ Full D L
theorem AgB.below {w wr w' : World} {gd gl n0 i : Nat} {v : Value} {E : Nat → Prop} {D : DM} {L : LM} {m : List ByteArray} (h : AgB w wr gd gl n0 i v E D L m) (hb : Below wr.heap.size wr w') : AgB w w' gd gl n0 i v E D L m :=
  ⟨h.rs.below hb, h.lf, h.hv, h.nx, h.td.below hb, h.ml, h.z0, h.z1⟩
theorem npc_300 {b : List Int} (h : b.length ≤ 300) : npc b ≤ 3 := by unfold npc pieces; split <;> omega
theorem live_all {D : DM} {L : LM} {fr n : Int} (h : Live D L) (h1 : L.fr = fr) (h2 : L.n = n) : allE D fr n = 0 := by
  have h3 := h.nb
  rw [h1, h2] at h3
  unfold allE
  rw [if_neg h3, h.up]
  rfl
section
variable {w : World}
theorem rows_in {l : List (List Int)} {A : Option Addr} {n : Nat} (hl : RowsAt w A l) (hy : ∀ q ∈ l, Byt q) (hn : n = l.length) {i : Nat} (hi : i < n) : ∃ (a : Addr) (B : Option Addr) (cb : Nat) (b : List Int), A = some a ∧ w.cell? (a.add i) = some (.slice B b.length cb) ∧ Kd.C (Kd.int .u8) w B b.length b ∧ b.length ≤ cb ∧ b.length ≤ 9223372036854775807 ∧ Byt b := by
  subst hn
  obtain ⟨a, B, cb, rfl, hcell, hC, hcb, hbz⟩ := hl.2 i hi
  refine ⟨a, B, cb, _, rfl, hcell, hC, hcb, hbz, ?_⟩
  rw [List.getD_eq_getElem?_getD, List.getElem?_eq_getElem hi]
  exact hy _ (List.getElem_mem hi)
theorem again_law {l k : List (List Int)} {A B : Option Addr} {c d : Nat} (hl : RowsAt w A l) (hy : ∀ q ∈ l, Byt q) (hk : RowsAt w B k) (hz : ∀ q ∈ k, Byt q) (x : Int) (hx0 : 0 ≤ x) (hx1 : x ≤ 4294967295) :
    Calls Try.prog 9 #[.slice A l.length c, .slice B k.length d, .int .u32 x] w fun e w' => e = .returned (.bool true) ∧ Below w.heap.size w w' := by
  obtain ⟨n, hn⟩ : ∃ n, n = l.length := ⟨_, rfl⟩
  obtain ⟨o, ho⟩ : ∃ n, n = k.length := ⟨_, rfl⟩
  have HX := Aside0.mk (And.intro hl (And.intro hy hn))
  have HY := Aside0.mk (And.intro hk (And.intro hz ho))
  rw [← hn, ← ho]
  clear hl hy hk hz hn ho
  by_cases h6 : 6 < n ∨ 6 < o
  · have d0 : decide ((n : Int) > 6) = true ∨ (decide ((n : Int) > 6) = false ∧ decide ((o : Int) > 6) = true) := by
      by_cases h1 : 6 < n
      · exact .inl (decide_eq_true (by omega))
      · exact .inr ⟨decide_eq_false (by omega), decide_eq_true (by omega)⟩
    clear h6
    rcases d0 with d1 | ⟨d1, d2⟩
    all_goals
      go_enter Try.func9, Try.ntmps9
      go_wp2_with (first | (go_at_call 28; go_loud (refine (awake_calls w).mono ?_; rintro e w1 ⟨rfl, hb0⟩; have HB := Aside0.mk hb0; clear hb0)))
      go_ret
      exact ⟨rfl, HB.out⟩
  · have d1 : decide ((n : Int) > 6) = false := decide_eq_false (by omega)
    have d2 : decide ((o : Int) > 6) = false := decide_eq_false (by omega)
    have hn6 : n ≤ 6 := by omega
    have ho6 : o ≤ 6 := by omega
    have hnew : ∀ w1, Below w.heap.size w w1 → Calls Try.prog 14 #[.int .i64 40] w1 _ := fun w1 hb => Dk.new (w0 := w) hb 40 (by omega) (by omega)
    have HN := Aside0.mk hnew
    have hE : allE (zD 40) 0 40 = 0 := by rw [zD_bad, if_neg (by omega)]
    have hnb : ¬ bad (zD 40) 0 40 := fun h => by unfold allE at hE; rw [if_pos h] at hE; cases hE
    have HE := Aside0.mk (And.intro hE (begin_0 (k := 40) (by omega) (by omega) hnb))
    have hxw : IntKind.u64.wrap x = x := wraps_u64 _ (by omega) (by omega)
    clear h6 hnew hE hnb
    go_enter Try.func9, Try.ntmps9
    go_wp2_with (first
      | (go_at_call 28; go_loud (refine (awake_calls w).mono ?_; rintro e w1 ⟨rfl, hb0⟩; have HB := Aside0.mk hb0; clear hb0))
      | (go_at_call 14; go_loud (refine (HN.out w1 HB.out).mono ?_; rintro e w2 ⟨g, rfl, hd, _⟩; have H1 := Aside0.mk (show Dk w w2 _ g (zD 40) from hd); clear hd))
      | (go_at_call 29; go_loud (have hx := H1.out.begin_ 0 40 1 (by omega) (by omega); rw [HE.out.1] at hx; refine hx.mono ?_; clear hx; rintro e w3 ⟨v, rfl, _, h2, _⟩; obtain ⟨gl, rfl, hs⟩ := h2 rfl; have H3 := Aside0.mk (show Sys w w3 _ g gl (zD 40) (beginM (zD 40) 0 40 1) from hs); clear h2 hs H1)))
    have HI : Aside0 (AgA w w3 g gl 0 _ (zD 40) (beginM (zD 40) 0 40 1) (l.take 0)) :=
      ⟨⟨⟨H3.out, HE.out.2.1, rfl, rfl, rfl⟩, HE.out.2.2.1, HE.out.2.2.2.1, by decide, by decide, HE.out.2.2.2.2⟩⟩
    clear H3
    go_loopg [12] n (fun q v12 wr => ∃ (i : Nat) (E : Nat → Prop) (D : DM) (L : LM), v12 = .int .i64 i ∧ q + i = n ∧ Aside0 (AgA w wr g gl i E D L (l.take i)))
    case atStart => exact ⟨0, _, _, _, rfl, by omega, HI⟩
    case round =>
      clear HI
      obtain ⟨i, E, D, L, rfl, hq, hI⟩ := hrel
      by_cases hlt : i < n
      · have d3 : decide ((i : Int) < (n : Int)) = true := decide_eq_true (by omega)
        have d3n : decide (i < n) = true := decide_eq_true (by omega)
        have hsn := takeR_snoc (l := l) (i := i) (by rw [← HX.out.2.2]; exact hlt)
        obtain ⟨a, B1, cb, rfl, hcell, hC, hcb, hbz⟩ := HX.out.1.2 i (by rw [← HX.out.2.2]; exact hlt)
        obtain ⟨b, hb⟩ : ∃ b, b = l.getD i [] := ⟨_, rfl⟩
        have hby : Byt b := by
          have hi : i < l.length := by rw [← HX.out.2.2]; exact hlt
          rw [hb, List.getD_eq_getElem?_getD, List.getElem?_eq_getElem hi]
          exact HX.out.2.1 _ (List.getElem_mem hi)
        rw [← hb] at hcell hC hcb hbz hsn
        obtain ⟨bl, hbl⟩ : ∃ k, k = b.length := ⟨_, rfl⟩
        have HB := Aside0.mk (And.intro hC (And.intro hcb (And.intro hby (And.intro hbl hsn))))
        rw [← hbl] at hbz hcell
        have e1 : wr.cell? (a.add i) = some (.slice B1 bl cb) := cell_below hcell hI.out.rs.sys.bl
        by_cases h300 : 300 < bl
        · have d4 : decide ((bl : Int) > 300) = true := decide_eq_true (by omega)
          clear hcell hC hcb hby hbl hb h300 hsn
          go_wp2
          go_ret
          exact ⟨rfl, hI.out.rs.sys.bl⟩
        · have d4 : decide ((bl : Int) > 300) = false := decide_eq_false (by omega)
          have h3 : npc b ≤ 3 := npc_300 (by omega)
          have HL4 := Aside0.mk (And.intro (show b.length ≤ 100000000 by omega) (And.intro h3 (show i ≤ 5 by omega)))
          clear hcell hC hcb hby hbl hb h300 hsn h3
          go_wp2_with (first
            | (go_at_call 30; go_loud (have hhv := hI.out.hv; have h5 := HL4.out.2.2; have h6 := HL4.out.2.1; have hx := hI.out.rs.add_ok hI.out.lf HB.out.1 HB.out.2.1 HL4.out.1 HB.out.2.2.1 (by rw [hI.out.rs.hn]; omega) (by rw [hI.out.nx]; omega); rw [← HB.out.2.2.2.1] at hx; refine hx.mono ?_; clear hx; rintro e w5 ⟨rfl, D5, g5, tk5, fu5, lf5, k5⟩; have H5 := Aside0.mk (show AgA w w5 g gl (i + 1) _ D5 (L.added b) (l.take (i + 1)) from ⟨by rw [HB.out.2.2.2.2]; exact g5, tk5, fu5, lf5, by show L.hv + npc b ≤ _; omega, by show L.next + npc b = L.hv + npc b + 1; have := hI.out.nx; omega⟩); clear g5 tk5 fu5 lf5 k5 hhv h5 h6)))
          go_roundg (n - (i + 1))
          case measure => omega
          case rel => exact ⟨i + 1, _, D5, L.added b, by go_num, by omega, H5⟩
      · have d3 : decide ((i : Int) < (n : Int)) = false := decide_eq_false (by omega)
        have d3n : decide (i < n) = false := decide_eq_false (by omega)
        have hin : i = n := by omega
        have hql : l.take i = l := List.take_of_length_le (by rw [hin, HX.out.2.2]; exact Nat.le_refl _)
        have hm : mostM (rowsD D 0 40) + 1 = L.next := by have := hI.out.fu; unfold Full at this; rw [hI.out.rs.hfr, hI.out.rs.hn] at this; exact this
        have hhv := hI.out.hv
        have hnx := hI.out.nx
        have hh0 := hI.out.rs.live.h0
        have hnb : ¬ bad D 0 40 := by have := hI.out.rs.live.nb; rw [hI.out.rs.hfr, hI.out.rs.hn] at this; exact this
        have hbg := begin_live (D := D) (fr := 0) (n := 40) (least := x) hI.out.rs.live.ok hnb hI.out.rs.live.up hx0 (by omega)
        rw [hm] at hbg
        have htl : (takeM (rowsD D 0 40) 0 t0).l.length = n := by
          have h1 := hI.out.tk.l
          rw [hI.out.rs.hfr, hI.out.rs.hn] at h1
          rw [h1, hI.out.rs.l, hql, HX.out.2.2]
        obtain ⟨xn, hxn⟩ : ∃ xn, xn = L.next := ⟨_, rfl⟩
        obtain ⟨yn, hyn⟩ : ∃ yn, yn = mx2 L.next x := ⟨_, rfl⟩
        rw [← hyn] at hbg
        have hy1 : xn ≤ yn := by rw [hyn, hxn]; exact mx2_l _ _
        have hy2 : x ≤ yn := by rw [hyn]; exact mx2_r _ _
        have hy3 : yn ≤ 4294967400 := by rw [hyn]; exact mx2_le (by omega) (by omega)
        have d5 : decide (yn < xn) = false := decide_eq_false (by omega)
        have d6 : decide (yn < x) = false := decide_eq_false (by omega)
        have HA := Aside0.mk (And.intro (live_all hI.out.rs.live hI.out.rs.hfr hI.out.rs.hn) (And.intro hbg (And.intro htl (And.intro hxn hy3))))
        clear hin hql hm hhv hnx hh0 hnb hbg htl hxn hyn hy1 hy2 hy3
        go_wp2_with (first
          | (go_at_call 29; go_loud (have hx := hI.out.rs.sys.dk.begin_ 0 40 x hx0 (by omega); rw [HA.out.1] at hx; refine hx.mono ?_; clear hx; rintro e w4 ⟨v, rfl, _, h2, hb4⟩; obtain ⟨gy, rfl, hs⟩ := h2 rfl; have H4 := Aside0.mk (And.intro hs (hI.out.rs.sys.below hb4)); clear h2 hs hb4))
          | (go_at_call 31; go_loud (have hx := H4.out.1.records; rw [show (beginM D 0 40 x).l = [] from rfl] at hx; refine hx.mono ?_; clear hx; rintro e w5 ⟨v5, rfl, hr5, hb5⟩; obtain ⟨A5, c5, rfl, _, _⟩ := Kd.R_reads hr5; have H5 := Aside0.mk (And.intro (H4.out.1.below hb5) (H4.out.2.below hb5)); clear hr5 hb5))
          | (go_at_call 34; go_loud (have hx := H5.out.1.free; rw [show (beginM D 0 40 x).n - (beginM D 0 40 x).hv = 40 from rfl] at hx; refine hx.mono ?_; clear hx; rintro e w6 ⟨rfl, hb6⟩; have H6 := Aside0.mk (And.intro (H5.out.1.below hb6) (H5.out.2.below hb6)); clear hb6))
          | (go_at_call 33; go_loud (have hx := H6.out.1.first; rw [show (beginM D 0 40 x).First = 0 from rfl] at hx; refine hx.mono ?_; clear hx; rintro e w' ⟨rfl, rfl⟩))
          | (go_at_call 32; (have hx := H6.out.1.next; rw [HA.out.2.1.2] at hx; refine hx.mono ?_; clear hx; rintro e w' ⟨rfl, rfl⟩))
          | (go_at_call 32; (have hx := H6.out.2.next; rw [← HA.out.2.2.2.1] at hx; refine hx.mono ?_; clear hx; rintro e w' ⟨rfl, rfl⟩)))
        have HJ : Aside0 (AgB w w6 g gy n 0 (.slice none 0 0) _ D (beginM D 0 40 x) []) :=
          ⟨⟨⟨H6.out.1, HA.out.2.1.1, rfl, rfl, rfl⟩, hI.out.lf, by show (0 : Int) ≤ 3 * ((0 : Nat) : Int); omega, by rw [HA.out.2.1.2]; show yn ≤ 4294967400 + 0; have := HA.out.2.2.2.2; omega, Kd.R_nil _ _ _ _ _, rfl, fun _ => HA.out.2.2.1, fun h => absurd h (by omega)⟩⟩
        clear H4 H5 H6
        clear d5 d6 HA hI HE HN HB
        go_loopg [15, 16] o (fun q v15 v16 wr => ∃ (i m : Nat) (A1 : Option Addr) (c1 : Nat) (E : Nat → Prop) (D : DM) (L : LM) (ms : List ByteArray), v15 = .slice A1 m c1 ∧ v16 = .int .i64 i ∧ q + i = o ∧ m = i ∧ Aside0 (AgB w wr g gy n i (.slice A1 m c1) E D L ms))
        case atStart => exact ⟨0, 0, none, 0, _, _, _, [], rfl, rfl, by omega, rfl, HJ⟩
        case round =>
          clear HJ
          obtain ⟨i, m, A1, c1, E, D, L, ms, rfl, rfl, hq, rfl, hI⟩ := hrel
          by_cases hlt : m < o
          · have d5 : decide ((m : Int) < (o : Int)) = true := decide_eq_true (by omega)
            have d5n : decide (m < o) = true := decide_eq_true (by omega)
            obtain ⟨a, B1, cb, b, rfl, hcell, hC, hcb, hbz, hby⟩ := rows_in HY.out.1 HY.out.2.1 HY.out.2.2 hlt
            obtain ⟨bl, hbl⟩ : ∃ k, k = b.length := ⟨_, rfl⟩
            have HB := Aside0.mk (And.intro hC (And.intro hcb (And.intro hby (And.intro hbl hcell))))
            rw [← hbl] at hbz hcell
            have e1 : wr.cell? (a.add m) = some (.slice B1 bl cb) := cell_below hcell hI.out.rs.sys.bl
            by_cases h300 : 300 < bl
            · have d6 : decide ((bl : Int) > 300) = true := decide_eq_true (by omega)
              clear hcell hC hcb hby hbl h300
              go_wp2
              go_ret
              exact ⟨rfl, hI.out.rs.sys.bl⟩
            · have d6 : decide ((bl : Int) > 300) = false := decide_eq_false (by omega)
              have h3 : npc b ≤ 3 := npc_300 (by omega)
              have HL4 := Aside0.mk (And.intro (show b.length ≤ 100000000 by omega) (And.intro h3 (show m ≤ 5 by omega)))
              have hm65 : ms.length ≤ 65536 := by have := hI.out.ml; omega
              clear hcell hC hcb hby hbl h300 h3
              go_wp2_with (first
                | (go_at_call 30; go_loud (have hhv := hI.out.hv; have hnx := hI.out.nx; have h5 := HL4.out.2.2; have h6 := HL4.out.2.1; have hx := hI.out.rs.add_ok hI.out.lf HB.out.1 HB.out.2.1 HL4.out.1 HB.out.2.2.1 (by rw [hI.out.rs.hn]; omega) (by omega); rw [← HB.out.2.2.2.1] at hx; refine hx.mono ?_; clear hx; rintro e w5 ⟨rfl, D5, g5, tk5, fu5, lf5, k5⟩; have H5 := Aside0.mk (And.intro g5 (And.intro tk5 (And.intro fu5 (And.intro lf5 (And.intro (hI.out.td.ext k5) (show L.hv + npc b ≤ 3 * ((m + 1 : Nat) : Int) ∧ L.next + npc b ≤ 4294967400 + (L.hv + npc b) by omega)))))); have e3 : w5.cell? (a.add m) = some (.slice B1 bl cb) := (by rw [HB.out.2.2.2.1]; exact cell_below HB.out.2.2.2.2 g5.sys.bl); have hcv := conv_nums (wd := w5) (c := cb) (n := bl) HB.out.2.2.1 HB.out.2.2.2.1 HB.out.1 g5.sys.bl; clear g5 tk5 fu5 lf5 k5 hhv hnx h5 h6))
                | ((with_reducible refine gate_builtin (b := .append) (xs := #[.tmp 134, .tmp 140]) rfl ?_); at_builtin; go_loud ( refine Kd.R_append Kd.string (w0 := w) (W := w5) w.heap.size ?q1 (.tmp 134) (.tmp 140) 28 9 (.string ByteArray.empty) 16 ?q2 Try.underlying28 ?q3 ?q4 (by decide) (by decide) (.slice A1 m c1) ms (strOfNums b) [.string (strOfNums b)] (fun k => ¬ Ext E wr w5 k) (fun _ => False) ?q5 ?q6 ?aM (fun _ hk => hk.elim) ?aF ?aH ?aB ?aS ?aL ?_; (case q1 => rfl); (case q2 => rfl); (case q3 => exact info_str); (case q4 => rfl); (case q5 => rfl); (case q6 => rfl); (case aH => exact H5.out.2.2.2.2.1); (case aM => exact (show Kd.M Kd.string _ _ _ (strOfNums b) [.string (strOfNums b)] from rfl)); (case aF => exact fun k hk he => by have := he.2; omega); (case aB => exact H5.out.1.sys.bl); (case aS => exact below_size H5.out.1.sys.bl); (case aL => omega); intro v6 w6 ho6 hb6 hg6 _; obtain ⟨A6, c6, rfl, _, _⟩ := Kd.R_reads ho6; have H6 := Aside0.mk (And.intro (H5.out.1.grown H5.out.2.2.2.2.1 hg6 hb6) ho6); clear ho6 hb6 hg6)))
              go_roundg (o - (m + 1))
              case measure => omega
              case rel =>
                have hml : (ms ++ [strOfNums b]).length = m + 1 := by rw [List.length_append, List.length_singleton, hI.out.ml]
                have h6 := H6.out.2
                refine ⟨m + 1, m + 1, A6, c6, Ext E wr w5, D5, L.added b, ms ++ [strOfNums b], ?_, by go_num, by omega, rfl, ⟨?_, H5.out.2.2.2.1, H5.out.2.2.2.2.2.1, H5.out.2.2.2.2.2.2, ?_, hml, fun h => absurd h (by omega), fun _ => ⟨H5.out.2.1, H5.out.2.2.1⟩⟩⟩
                · rw [hI.out.ml]
                · rw [List.map_append, List.map_singleton, str_bytes HB.out.2.2.1]
                  exact H6.out.1
                · rw [hml] at h6
                  exact h6
          · have d5 : decide ((m : Int) < (o : Int)) = false := decide_eq_false (by omega)
            have d5n : decide (m < o) = false := decide_eq_false (by omega)
            have hmo : m = o := by omega
            have hal := live_all hI.out.rs.live hI.out.rs.hfr hI.out.rs.hn
            by_cases h0 : o = 0
            · have d7 : ((o : Int) == 0) = true := beq_iff_eq.2 (by omega)
              have hz := hI.out.z0 (by omega)
              have HA := Aside0.mk (And.intro hal hz)
              clear hal hz hmo h0
              go_wp2_with (first
                | (go_at_call 36; go_loud (have hx := hI.out.rs.sys.dk.open_ 0 40; rw [HA.out.1] at hx; refine hx.mono ?_; clear hx; rintro e w7 ⟨v, rfl, _, h2, hb7⟩; obtain ⟨gm, rfl, hs⟩ := h2 rfl; have H7 := Aside0.mk hs; clear h2 hs hb7))
                | (go_at_call 31; go_loud (have hx := H7.out.records; refine hx.mono ?_; clear hx; rintro e w8 ⟨v8, rfl, hr8, hb8⟩; obtain ⟨A8, c8, rfl, _, _⟩ := Kd.R_reads hr8; rw [show (openM D 0 40).l.length = n from HA.out.2]; have H8 := Aside0.mk (H7.out.below hb8); clear hr8 hb8)))
              go_ret
              exact ⟨rfl, H8.out.bl⟩
            · have d7 : ((o : Int) == 0) = false := beq_eq_false_iff_ne.2 (by omega)
              obtain ⟨htk, hfu⟩ := hI.out.z1 (by omega)
              have hhv := hI.out.hv
              have hnx := hI.out.nx
              have hof := open_full hI.out.rs.live htk hfu (by omega)
              rw [hI.out.rs.hfr, hI.out.rs.hn] at hof
              have hl : (openM D 0 40).l = ms.map bytesOf := hof.1.trans hI.out.rs.l
              have hFi : (openM D 0 40).First = L.First := by
                unfold LM.First
                rw [hof.1]
                by_cases hz : L.l.length = 0
                · rw [if_pos hz, if_pos hz]
                · rw [if_neg hz, if_neg hz]
                  have := hI.out.rs.sys.lok.lh
                  exact hof.2.2.2 (by omega)
              obtain ⟨F, hF⟩ : ∃ F, F = L.First := ⟨_, rfl⟩
              rw [← hF] at hFi
              have hm65 : ms.length ≤ 65536 := by have := hI.out.ml; omega
              have HA := Aside0.mk (And.intro hal (And.intro hl (And.intro hFi hF)))
              clear hal htk hfu hhv hnx hof hl hFi hF hmo h0
              go_wp2_with (first
                | (go_at_call 36; go_loud (have hx := hI.out.rs.sys.dk.open_ 0 40; rw [HA.out.1] at hx; refine hx.mono ?_; clear hx; rintro e w7 ⟨v, rfl, _, h2, hb7⟩; obtain ⟨gm, rfl, hs⟩ := h2 rfl; have H7 := Aside0.mk (And.intro hs (And.intro (hI.out.rs.sys.below hb7) (hI.out.td.below hb7))); clear h2 hs hb7))
                | (go_at_call 31; have _t := H9; go_loud (have hx := H9.out.1.records; rw [HA.out.2.1] at hx; refine hx.mono ?_; clear hx; rintro e w10 ⟨v10, rfl, hr10, hb10⟩; have H10 := Aside0.mk (And.intro hr10 (And.intro (H9.out.1.below hb10) (And.intro (H9.out.2.1.below hb10) (H9.out.2.2.below hb10)))); clear hr10 hb10))
                | (go_at_call 31; go_loud (have hx := H7.out.2.1.records; rw [hI.out.rs.l] at hx; refine hx.mono ?_; clear hx; rintro e w8 ⟨v8, rfl, hr8, hb8⟩; have H8 := Aside0.mk (And.intro hr8 (And.intro (H7.out.1.below hb8) (And.intro (H7.out.2.1.below hb8) (H7.out.2.2.below hb8)))); clear hr8 hb8))
                | (go_at_call 37; have _t := H10; go_loud (refine (same_calls H10.out.1 H10.out.2.2.2 rfl hm65).mono ?_; rintro e w11 ⟨rfl, hb11⟩; have H11 := Aside0.mk (And.intro (H10.out.2.1.below hb11) (H10.out.2.2.1.below hb11)); clear hb11))
                | (go_at_call 37; go_loud (refine (same_calls H8.out.1 H8.out.2.2.2 rfl hm65).mono ?_; rintro e w9 ⟨rfl, hb9⟩; have H9 := Aside0.mk (And.intro (H8.out.2.1.below hb9) (And.intro (H8.out.2.2.1.below hb9) (H8.out.2.2.2.below hb9))); clear hb9))
                | (go_at_call 33; have _t := H14; go_loud (have hx := H11.out.2.first; rw [← HA.out.2.2.2] at hx; refine hx.mono ?_; clear hx; rintro e w' ⟨rfl, rfl⟩))
                | (go_at_call 33; go_loud (have hx := H11.out.1.first; rw [HA.out.2.2.1] at hx; refine hx.mono ?_; clear hx; rintro e w' ⟨rfl, rfl⟩; have H14 := Aside0.mk trivial)))
              go_ret
              exact ⟨rfl, H11.out.1.bl⟩
theorem again_row {H : Type} {enc : TypeId × Value → H} {base : Nat} {held : Bool} {A B : Option Addr} {len cap len2 cap2 : Nat} {d d2 : DataW H} {p p2 : List MemPlace} (h : DataW.Trod enc Try.prog w base (fun _ => true) held 56 (.slice A len cap) d p) (h2 : DataW.Trod enc Try.prog w base (fun _ => true) held 56 (.slice B len2 cap2) d2 p2) {x : Int} (h0 : 0 ≤ x) (h1 : x ≤ 4294967295) :
    Calls Try.prog 9 #[.slice A len cap, .slice B len2 cap2, .int .u32 x] w fun e w' => e = .returned (.bool true) ∧ Below w.heap.size w w' := by
  obtain ⟨l, rfl, hl, _, hy⟩ := open_rows Try.underlying56 Try.underlying35 Try.underlying5 (by kernel_rfl) (by kernel_rfl) h
  obtain ⟨k, rfl, hk, _, hz⟩ := open_rows Try.underlying56 Try.underlying35 Try.underlying5 (by kernel_rfl) (by kernel_rfl) h2
  exact again_law hl hy hk hz x h0 h1
end
end Go.Proofs.Ytnajdnhgoakgaaa.Wal
