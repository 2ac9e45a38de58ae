/- WalPlays: the program's log and the document's, beside each other. -/
import Derived.Test.YtnajdnhgoakgaaaKAll
import Derived.Test.YtnajdnhgoakgaaaKTail
namespace Go.Proofs.Ytnajdnhgoakgaaa.Blk
open Go.RowKit Go.Proofs.YtnajdnhgoakgaaaW.PrintWords Go.Proofs.YtnajdnhgoakgaaaW.PrintLast Go.Proofs.YtnajdnhgoakgaaaW.PrintMore Go.Proofs.Ytnajdnhgoakgaaa.Mem Go.Proofs.Ytnajdnhgoakgaaa.Open Go.Proofs.Ytnajdnhgoakgaaa.Wal
set_option linter.unusedVariables false
set_option linter.unusedSimpArgs false
set_option maxRecDepth 100000
set_option maxHeartbeats 8000000
section
variable {w : World}
theorem plays9_law (fr n l : Int) (hl : 0 ≤ l ∧ l ≤ 18446744073709551615) (A : Option Addr) (m c : Nat) (s : List A9) (hm : m = s.length) (hp : Acts9At w A s) (hok : ∀ q ∈ s, q.Ok) :
    Calls Try.prog 12 #[.int .i64 fr, .int .i64 n, .int .u64 l, .slice A m c] w fun e w' => e = .returned (.bool true) ∧ Below w.heap.size w w' := by
  have hmm : m ≤ 9223372036854775807 := by rw [hm]; exact hp.1
  have HP := Aside0.mk (And.intro hm (And.intro hp (And.intro hok hl)))
  clear hm hp hok hl
  obtain ⟨D0, hD0⟩ : ∃ D, D = (⟨List.replicate 10 zero128, -1, 0, false⟩ : DM) := ⟨_, rfl⟩
  have HD0 := Aside0.mk hD0
  clear hD0
  go_enter Try.func12, Try.ntmps12
  go_upto_region 8 with (first
    | (go_at_call 28; go_loud (refine (awake_calls w).mono ?_; rintro e w1 ⟨rfl, hb1⟩; have H1 := Aside0.mk hb1; clear hb1))
    | (go_at_call 14; go_loud (have hx := Dk.new (w0 := w) (w := w1) H1.out 10 (by omega) (by omega); rw [← HD0.out] at hx; refine hx.mono ?_; clear hx; rintro e w2 ⟨gd, rfl, hd2, hb2⟩; have H2 := Aside0.mk hd2; clear hd2 hb2))
    | (go_at_call 15; go_loud (have hx := r_new (w := w2) 10 (by omega) (by omega); rw [← HD0.out] at hx; refine hx.mono ?_; clear hx; rintro e w3 ⟨v3, rfl, hv3, hb3⟩; obtain ⟨A3, c3, rfl, _, _⟩ := Kd.R_reads hv3; have H3 := Aside0.mk (And.intro hv3 hb3); clear hv3 hb3))
    | ((with_reducible refine gate_dst (N := 12) rfl ?_); refine box_new ?hg ?hr ?_; (case hg => rfl); (case hr => first | kernel_rfl | (go_simp; done) | (go_simp; rfl)); intro w4 hb4 hbl4 hs4; obtain ⟨ga, hga⟩ : ∃ g, g = w3.heap.size := ⟨_, rfl⟩; rw [← hga] at hb4 ⊢; have H4 := Aside0.mk (And.intro hb4 (And.intro hbl4 hga)); clear hb4 hbl4 hs4 hga)
    | ((with_reducible refine gate_store (ty := 30) (x := .tmp 12) (y := .tmp 31) rfl ?_); refine box_put (D' := D0) ?hg (.tmp 12) (.tmp 31) ?ho (g := ga) (n := 10) (c := c3) (A := A3) ?hx ?hy H4.out.1 ?_; (case hg => rfl); (case ho => rfl); (case hx => rfl); (case hy => rfl); intro w5 hb5 hk5 hbl5 hs5; have h5 := q9_start H2.out (by have h := H3.out.1; rw [show D0.L = List.replicate 10 zero128 by rw [HD0.out]]; exact h) H3.out.2 (hbl5 _ _ (by rw [H4.out.2.2]; exact Nat.le_refl _) H4.out.2.1) (by rw [← H4.out.2.2]; exact hb5); rw [← H4.out.2.2] at h5; have H5 := Aside0.mk (And.intro h5 ((H2.out.below H3.out.2).below (hbl5 _ _ (by rw [H4.out.2.2]; exact Nat.le_refl _) H4.out.2.1))); clear hb5 hk5 hbl5 hs5 h5)
    | (go_at_call 36; go_loud (have hx := H5.out.2.open_ fr n; refine hx.mono ?_; clear hx; rintro e w6 ⟨pl, rfl, ho1, ho2, hb6⟩; have H6 := Aside0.mk (And.intro (H5.out.1.prog hb6) (And.intro ho1 (And.intro ho2 hb6))); clear ho1 ho2 hb6))
    | ((with_reducible refine gate_dst (N := 41) rfl ?_); refine box_load (v := .slice A3 10 c3) (D := D0) (g := ga) ?hg (.tmp 12) ?ho ?hx ?hb ?_; (case hg => rfl); (case ho => rfl); (case hx => rfl); (case hb => exact H6.out.1.a))
    | (go_at_call 42; go_loud (have hv := Kd.R_reads' H6.out.1.vr; have hok := H5.out.2.ok; have hx := ropen_calls (w := w6) (D := D0) hok (A := A3) (c := c3) hv.2.2 (by rw [← hv.1]; exact hv.2.1) fr n; rw [← hv.1] at hx; refine hx.mono ?_; clear hx hv hok; rintro e w7 ⟨v7, rfl, hv7, hb7⟩; obtain ⟨A7, c7, rfl, _, _⟩ := Kd.R_reads hv7; have H7 := Aside0.mk (And.intro hv7 hb7); obtain ⟨n7, hn7⟩ : ∃ k, k = (openR D0 fr n).l.length := ⟨_, rfl⟩; have HN7 := Aside0.mk hn7; rw [← hn7]; clear hv7 hb7 hn7))
    | ((with_reducible refine gate_dst (N := 16) rfl ?_); refine lbox_new ?hg ?hr ?_; (case hg => rfl); (case hr => first | kernel_rfl | (go_simp; done) | (go_simp; rfl)); intro w8 hb8 hbl8 hs8; obtain ⟨gb, hgb⟩ : ∃ g, g = w7.heap.size := ⟨_, rfl⟩; rw [← hgb] at hb8 ⊢; have H8 := Aside0.mk (And.intro hb8 (And.intro hbl8 hgb)); clear hb8 hbl8 hs8 hgb)
    | ((with_reducible refine gate_store (ty := 75) (x := .tmp 16) (y := .tmp 45) rfl ?_); refine lbox_put (R' := openR D0 fr n) ?hg (.tmp 16) (.tmp 45) ?ho (g := gb) (n := n7) (c := c7) (A := A7) ?hx ?hy H8.out.1 ?_; (case hg => rfl); (case ho => rfl); (case hx => rfl); (case hy => rfl); go_loud (intro w9 hb9 hk9 hbl9 hs9; have h9 := H6.out.1.p9 (u1 := .slice A7 n7 c7) (R1 := openR D0 fr n) H7.out.2 (by rw [HN7.out]; exact H7.out.1) (hbl9 _ _ (by rw [H8.out.2.2]; exact Nat.le_refl _) H8.out.2.1) (by rw [← H8.out.2.2]; exact hb9); rw [← H8.out.2.2] at h9; have H9 := Aside0.mk (And.intro h9 (And.intro H7.out.2 (hbl9 _ _ (by rw [H8.out.2.2]; exact Nat.le_refl _) H8.out.2.1))); clear hb9 hk9 hbl9 hs9 h9)))
  obtain ⟨E, hE⟩ : ∃ E, E = Ext (Ext (fun _ => False) w1 w2) w5 w6 := ⟨_, rfl⟩
  have hS : P9 w w9 E ga gb (.slice A3 10 c3) (.slice A7 n7 c7) D0 (openR D0 fr n) ∧ LogV w w9 E gd pl D0 (openR D0 fr n) := by
    refine ⟨by rw [hE]; exact H9.out.1, LogV.below (LogV.below ?_ H9.out.2.1) H9.out.2.2⟩
    rw [hE]
    by_cases h0 : allE D0 fr n = 0
    · obtain ⟨gl, hpl, hs⟩ := H6.out.2.2.1 h0
      exact .inr ⟨gl, openM D0 fr n, hpl, hs, if_pos h0, nz_open _ _ _⟩
    · exact .inl ⟨H6.out.2.1 h0, dk_ext H5.out.2 H6.out.2.2.2⟩
  have hC : (pl = .pointer none ∧ allE D0 fr n ≠ 0) ∨ ∃ gl, pl = .pointer (some ⟨gl, 0, none⟩) ∧ allE D0 fr n = 0 := by
    by_cases h0 : allE D0 fr n = 0
    · obtain ⟨gl, hpl, hs⟩ := H6.out.2.2.1 h0
      exact .inr ⟨gl, hpl, h0⟩
    · exact .inl ⟨H6.out.2.1 h0, h0⟩
  obtain ⟨er, her⟩ : ∃ x, x = allE D0 fr n := ⟨_, rfl⟩
  obtain ⟨R, hR⟩ : ∃ x, x = openR D0 fr n := ⟨_, rfl⟩
  rw [← her] at hC ⊢
  rw [← hR] at hS
  have HS := Aside0.mk hS
  clear H1 H2 H3 H4 H5 H6 H7 H8 H9 HN7 hE hS her
  go_cut [56] (fun v56 wc => v56 = .bool false ∧ w9 = wc)
  case first =>
    rcases hC with ⟨rfl, h0⟩ | ⟨gl, rfl, h0⟩
    · have d1 : (er != 0) = true := bne_iff_ne.2 h0
      clear h0
      go_wp2
      go_meet
      case rel => exact ⟨rfl, rfl⟩
    · subst h0
      go_wp2
      go_meet
      case rel => exact ⟨rfl, rfl⟩
  case rest =>
    obtain ⟨rfl, rfl⟩ := hcut
    clear hC
    go_upto_region 11 with (fail)
    go_loopg [14, 15, 17, 18] m (fun q v14 v15 v17 v18 wr => ∃ (i : Nat) (er : Int) (E : Nat → Prop) (Av Au : Option Addr) (nv cv nu cu : Nat) (D : DM) (R : RL), v15 = .int .i64 er ∧ v17 = .int .i64 er ∧ v18 = .int .i64 i ∧ q + i = m ∧ Aside0 (P9 w wr E ga gb (.slice Av nv cv) (.slice Au nu cu) D R ∧ LogV w wr E gd v14 D R))
    case atStart => exact ⟨0, er, E, A3, A7, 10, c3, n7, c7, D0, R, rfl, rfl, rfl, by omega, HS⟩
    case round =>
      clear HS
      obtain ⟨i, er, E, Av, Au, nv, cv, nu, cu, D, R, rfl, rfl, rfl, hq, hI⟩ := hrel
      rcases hI.out.2 with ⟨rfl, hdk⟩ | ⟨gl, L, rfl, hsys, hRL, hnz⟩
      · by_cases hlt : i < m
        · have d2 : decide ((i : Int) < (m : Int)) = true := decide_eq_true (by omega)
          by_cases h24 : i < 24
          · have d3 : decide ((i : Int) < 24) = true := decide_eq_true (by omega)
            clear hdk
            go_wp2
            go_ret
            exact ⟨rfl, hI.out.1.bl⟩
          · have d3 : decide ((i : Int) < 24) = false := decide_eq_false (by omega)
            clear hdk
            go_wp2
            go_ret
            exact ⟨rfl, hI.out.1.bl⟩
        · have d2 : decide ((i : Int) < (m : Int)) = false := decide_eq_false (by omega)
          clear hdk
          go_wp2
          go_ret
          exact ⟨rfl, hI.out.1.bl⟩
      · by_cases hlt : i < m ∧ i < 24
        · obtain ⟨hlt, h24⟩ := hlt
          have d2 : decide ((i : Int) < (m : Int)) = true := decide_eq_true (by omega)
          have d3 : decide ((i : Int) < 24) = true := decide_eq_true (by omega)
          have HL := Aside0.mk (And.intro hsys (And.intro hRL hnz))
          clear hsys hRL hnz
          have hil : i < s.length := by have := HP.out.1; omega
          obtain ⟨ad, B, bc, hA, hat⟩ := HP.out.2.1.2 i hil
          have hat2 := hat.below hI.out.1.bl
          obtain ⟨q, hqq⟩ : ∃ q, q = s.getD i A9.none := ⟨_, rfl⟩
          have hqo : q.Ok := by rw [hqq, List.getD_eq_getElem?_getD, List.getElem?_eq_getElem hil]; exact HP.out.2.2.1 _ (List.getElem_mem hil)
          rw [← hqq] at hat2
          obtain ⟨qk, qi, qb, qn, qt⟩ := q
          obtain ⟨c0, c1, c2, c3, c4, hC, hbc, _⟩ := hat2
          obtain ⟨bl, hbl⟩ : ∃ k, k = qb.length := ⟨_, rfl⟩
          dsimp only at c0 c1 c2 c3 c4 hC hbc
          rw [← hbl] at c2 hC hbc
          subst hA
          have e1 : wr.cell? ⟨(ad.add (i * 5)).block, (ad.add (i * 5)).off + 1, none⟩ = some (.int .i64 qi) := (show wr.cell? ((ad.add (i * 5)).add 1) = _ by rw [Go.Deep.add_add]; exact c1)
          have e2 : wr.cell? ⟨(ad.add (i * 5)).block, (ad.add (i * 5)).off + 2, none⟩ = some (.slice B bl bc) := (show wr.cell? ((ad.add (i * 5)).add 2) = _ by rw [Go.Deep.add_add]; exact c2)
          have e3 : wr.cell? ⟨(ad.add (i * 5)).block, (ad.add (i * 5)).off + 3, none⟩ = some (.int .i64 qn) := (show wr.cell? ((ad.add (i * 5)).add 3) = _ by rw [Go.Deep.add_add]; exact c3)
          have e4 : wr.cell? ⟨(ad.add (i * 5)).block, (ad.add (i * 5)).off + 4, none⟩ = some (.int .i64 qt) := (show wr.cell? ((ad.add (i * 5)).add 4) = _ by rw [Go.Deep.add_add]; exact c4)
          have HO := Aside0.mk (And.intro hqo (And.intro (hat.2.2.2.2.2.1) (And.intro hbl (And.intro hqq hbc))))
          obtain ⟨q7, hq7⟩ : ∃ q7, q7 = bits .and .i64 qk 7 := ⟨_, rfl⟩
          have hqe : bits .and .i64 qk 7 = q7 := hq7.symm
          clear hat hqq hil c1 c2 c3 c4 hC hq7 hqo hbl hbc
          go_upto_region 14 with (first
            | ((with_reducible refine gate_dst (N := 19) rfl ?_); refine act9_new rfl ?hr ?_; (case hr => first | kernel_rfl | (go_simp; done) | (go_simp; rfl)); go_loud (intro w6 hx6 hb6; have H6 := Aside0.mk (And.intro hx6 hb6); clear hx6 hb6))
            | ((with_reducible refine gate_store (ty := 79) (x := .tmp 19) (y := .tmp 74) rfl ?_); refine act9_put (qk := qk) (qi := qi) (B := B) (bl := bl) (bc := bc) (qn := qn) (qt := qt) rfl (.tmp 19) (.tmp 74) rfl rfl rfl H6.out.1 ?_; go_loud (intro w7 hx7 hb7; have H7 := Aside0.mk (And.intro hx7 (hb7 _ _ (Nat.le_refl _) H6.out.2)); clear hx7 hb7)))
          obtain rfl := HL.out.2.1
          obtain ⟨g19, hg19⟩ : ∃ g, g = wr.heap.size := ⟨_, rfl⟩
          have hlt9 := hI.out.1.lt
          have HS := Aside0.mk (And.intro (hI.out.1.below H7.out.2) (And.intro (HL.out.1.below H7.out.2) HL.out.2.2))
          have HA := Aside0.mk (show Act9Box w7 g19 qk qi B bl bc qn qt ∧ (¬ E g19 ∧ g19 ≠ ga ∧ g19 ≠ gb ∧ ¬ Own (.slice Av nv cv) g19 ∧ ¬ Own (.slice Au nu cu) g19 ∧ w.heap.size ≤ g19) from ⟨by rw [hg19]; exact H7.out.1, fun h => by have := hI.out.1.ed _ h; omega, by omega, by omega, fun h => by have := (hlt9.2.2.1 _ h).2; omega, fun h => by have := (hlt9.2.2.2 _ h).2; omega, by rw [hg19]; exact hI.out.1.bl.size⟩)
          rw [← hg19]
          obtain ⟨a0, a1, a2, a3, a4⟩ : w7.cell? ⟨g19, 0, none⟩ = some (.int .i64 qk) ∧ w7.cell? ⟨g19, 1, none⟩ = some (.int .i64 qi) ∧ w7.cell? ⟨g19, 2, none⟩ = some (.slice B bl bc) ∧ w7.cell? ⟨g19, 3, none⟩ = some (.int .i64 qn) ∧ w7.cell? ⟨g19, 4, none⟩ = some (.int .i64 qt) := ⟨(blk_cell HA.out.1 0).trans rfl, (blk_cell HA.out.1 1).trans rfl, (blk_cell HA.out.1 2).trans rfl, (blk_cell HA.out.1 3).trans rfl, (blk_cell HA.out.1 4).trans rfl⟩
          clear H6 H7 hI hlt9 hg19 c0 e1 e2 e3 e4
          by_cases h500 : 500 < bl
          · have d4 : decide ((bl : Int) > 500) = true := decide_eq_true (by omega)
            go_wp2
            go_ret
            exact ⟨rfl, HS.out.1.bl⟩
          · have d4 : decide ((bl : Int) > 500) = false := decide_eq_false (by omega)
            go_upto_region 16 with (fail)
            go_cut [81] (fun v81 wc => v81 = .int .i64 q7 ∧ w7 = wc)
            case first =>
              go_wp2
              go_meet
              case rel => exact ⟨by first | rfl | rw [hqe], rfl⟩
            case rest =>
              obtain ⟨rfl, rfl⟩ := hcut
              apply_assumption
              go_cut [14, 15, 17] (fun v14 v15 v17 wc => ∃ (er : Int) (E : Nat → Prop) (Av Au : Option Addr) (nv cv nu cu : Nat) (D : DM) (R : RL), v15 = .int .i64 er ∧ v17 = .int .i64 er ∧ Aside0 (P9 w wc E ga gb (.slice Av nv cv) (.slice Au nu cu) D R ∧ LogV w wc E gd v14 D R))
              case first =>
                have HO2 := Aside0.mk (show (⟨qk, qi, qb, qn, qt⟩ : A9).Ok ∧ Kd.C (Kd.int .u8) w B qb.length qb ∧ bl = qb.length ∧ bl ≤ bc ∧ bl ≤ 500 from ⟨HO.out.1, by have h := HO.out.2.1; rw [← HO.out.2.2.2.1] at h; exact h, HO.out.2.2.1, HO.out.2.2.2.2, by omega⟩)
                exact kinds HP.out.2.2.2 hqe HS HA HO2 a0 a1 a2 a3 a4 _ _ _ _ _ _ _ _ _ _ _ _ _ _ _ _ _ _ _ _ _ _ _ _ _ _ _ _ _ _ _ _ _ _ _ _ _ _ _ _ _ _ _ _ _ _ _ _ _ _ _ _ _ _ _ _ _ _ _ _ _ _ _ _ _ _ _ _ _ _ _ _ _ _ _ _ _ _ _ _ _ _ _ _ _ _ _ _ _ _ _ _ _ _ _ _ _ _ _ _ _ _ _ _ _ _ _ _ _ _ _ _ _ _ _ _ _ _ _ _ _ _ _ _ _ _ _ _ _ _ _ _ _ _ _ _ _ _ _ _ _ _ _ _ _ _ _ _ _ _ _ _ _ _ _ _ _ _ _ _ _ _ _ _ _ _ _ _ _ _ _ _ _ _ _ _ _ _ _ _ _ _ _ _ _ _ _ _ _ _ _ _ _ _ _ _ _ _ _ _ _ _ _ _ _ _ _ _ _ _ _ _ _ _ _ _ _ _ _ _ _ _ (by assumption) (by assumption)
              case rest =>
                obtain ⟨er, E, Av, Au, nv, cv, nu, cu, D, R, rfl, rfl, HI⟩ := hcut
                apply_assumption
                refine tail_law HI _ _ _ _ _ _ _ _ _ _ _ _ _ _ _ _ _ _ _ _ _ _ _ _ _ _ _ _ _ _ _ _ _ _ _ _ _ _ _ _ _ _ _ _ _ _ _ _ _ _ _ _ _ _ _ _ _ _ _ _ _ _ _ _ _ _ _ _ _ _ _ _ _ _ _ _ _ _ _ _ _ _ _ _ _ _ _ _ _ _ _ _ _ _ _ _ _ _ _ _ _ _ _ _ _ _ _ _ _ _ _ _ _ _ _ _ _ _ _ _ _ _ _ _ _ _ _ _ _ _ _ _ _ _ _ _ _ _ _ _ _ _ _ _ _ _ _ _ _ _ _ _ _ _ _ _ _ _ _ _ _ _ _ _ _ _ _ _ _ _ _ _ _ _ _ _ _ _ _ _ _ _ _ _ _ _ _ _ _ _ _ _ _ _ _ _ _ _ _ _ _ _ _ _ _ _ _ _ _ _ _ _ _ _ _ _ _ _ _ _ _ _ _ (fun z195 z196 z197 z198 z199 z200 z201 z202 z203 z204 z205 z206 z207 z208 z209 z210 z211 z212 z213 z214 z215 z216 z217 z218 z219 z220 z221 z222 z223 z224 z225 z226 z227 z228 z229 z230 z231 z232 z233 z234 z235 z236 z237 z238 z239 wz HZ => ?_)
                apply_assumption
                go_wp2
                go_roundg (m - (i + 1))
                case measure => omega
                case rel => exact ⟨i + 1, er, E, Av, Au, nv, cv, nu, cu, D, R, rfl, rfl, by go_num, by omega, HZ⟩
        · by_cases hlt2 : i < m
          · have d2 : decide ((i : Int) < (m : Int)) = true := decide_eq_true (by omega)
            have d3 : decide ((i : Int) < 24) = false := decide_eq_false (by omega)
            clear hsys hRL hnz
            go_wp2
            go_ret
            exact ⟨rfl, hI.out.1.bl⟩
          · have d2 : decide ((i : Int) < (m : Int)) = false := decide_eq_false (by omega)
            clear hsys hRL hnz
            go_wp2
            go_ret
            exact ⟨rfl, hI.out.1.bl⟩
end
end Go.Proofs.Ytnajdnhgoakgaaa.Blk
