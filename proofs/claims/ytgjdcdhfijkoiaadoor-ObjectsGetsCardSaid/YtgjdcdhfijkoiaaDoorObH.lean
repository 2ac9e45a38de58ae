/- The reference's Check of an object. -/
import Derived.Test.YtgjdcdhfijkoiaaDoorObG
namespace Go.Proofs.YtgjdcdhfijkoiaaDoor.Obj
open Go.RowKit Go.Proofs.YtgjdcdhfijkoiaaDoorW.PrintWords Go.Proofs.YtgjdcdhfijkoiaaDoorW.PrintLast Go.Proofs.YtgjdcdhfijkoiaaDoorW.PrintMore Go.Proofs.YtgjdcdhfijkoiaaDoor.Mem Go.Proofs.YtgjdcdhfijkoiaaDoor.Cod Go.Proofs.YtgjdcdhfijkoiaaDoor.PCod Go.Proofs.YtgjdcdhfijkoiaaDoor.Str Go.Proofs.YtgjdcdhfijkoiaaDoor.Open
set_option linter.unusedVariables false
set_option linter.unusedSimpArgs false
section
variable {w : World} {x : OM} {cs : Array Value} {Y E : Option Addr} {yc ec : Nat}
set_option maxRecDepth 100000 in
set_option maxHeartbeats 8000000 in
theorem rocheck_3 (hcs : RV cs x Y E yc ec) (hI : InR w x Y E) (hk1 : x.k = 3) :
    Calls Tryd.prog 34 #[.agg cs] w fun e w' => e = .returned (.int .i64 (errC x)) ∧ Below w.heap.size w w' := by
  obtain ⟨k, hk⟩ : ∃ z, z = x.k := ⟨_, rfl⟩
  obtain ⟨n, hn⟩ : ∃ z, z = x.n := ⟨_, rfl⟩
  obtain ⟨X, hX⟩ : ∃ z, z = S x.b := ⟨_, rfl⟩
  obtain ⟨yl, hyl⟩ : ∃ z, z = x.ids.length := ⟨_, rfl⟩
  obtain ⟨el, hel⟩ : ∃ z, z = x.es.length := ⟨_, rfl⟩
  obtain ⟨s, hs⟩ : ∃ z, z = x.s := ⟨_, rfl⟩
  have hl3 : el ≤ 9223372036854775807 := by rw [hel]; exact hI.el
  have HCS := Aside0.mk (And.intro hcs (And.intro hI (And.intro hk (And.intro hn (And.intro hX (And.intro hyl (And.intro hel hs)))))))
  have HL := Aside0.mk (err_law x hI.n.1)
  have HBAD : Aside0 (rAll x = false → errC x = 1) := ⟨fun h => by unfold errC; rw [HL.out, h]; rfl⟩
  have HR : Aside0 (rAll x = (!r1 k && !r2 k X n yl el s && !r3 X yl el s && !r4 k n yl && !r5 k yl)) := ⟨by rw [hk, hn, hX, hyl, hel, hs]; rfl⟩
  rw [← hk] at hk1
  clear hcs hI hk hn hX hyl hel hs
  have HK := Aside0.mk hk1
  clear hk1
  go_enter Tryd.func34, Tryd.ntmps34
  go_upto_region 1 with (first
    | ((with_reducible refine gate_dst (N := 1) rfl ?_); refine box_event ?hg (N := 1) ?hd (cs := cs) (t := 63) ?hr ?_; (case hd => rfl); (case hg => rfl); (case hr => exact exec_box _ _ _ rfl cs rfl); intro gb hgb w1 hbox hb1; have H1 := Aside0.mk (show RBx w1 gb x Y E yc ec ∧ Below w.heap.size w w1 from ⟨RBx.of HCS.out.1 hbox, hb1⟩); obtain ⟨a0, a1, a2, a3, a4, a5⟩ := H1.out.1.cells; rw [← HCS.out.2.2.1, HK.out] at a0; rw [← HCS.out.2.2.2.2.1] at a1; rw [← HCS.out.2.2.2.1] at a2; rw [← HCS.out.2.2.2.2.2.1] at a3; rw [← HCS.out.2.2.2.2.2.2.1] at a4; rw [← HCS.out.2.2.2.2.2.2.2] at a5; clear hbox hb1 hgb))
  go_upto_region 3 with (fail)
  go_cut [63] (fun v13 wc => v13 = .bool (r2 3 X n yl el s) ∧ w1 = wc)
  case first =>
    go_wp2
    all_goals
      go_meet
      case rel => exact ⟨by (repeat (rename (∀ (a : Act) (w : World), Code.wp _ _ _ a w → _) => hx; clear hx)); clear HCS H1 HL HBAD HR HK a0 a1 a2 a3 a4 a5; unfold r2; simp_all <;> (rw [Bool.eq_iff_iff]; simp; omega), rfl⟩
  obtain ⟨rfl, rfl⟩ := hcut
  cases e2 : r2 3 X n yl el s
  rotate_left
  · go_wp2
    go_ret
    exact ⟨by rw [HBAD.out (by rw [HR.out, HK.out, e2]; rfl)]; rfl, H1.out.2⟩
  go_upto_region 5 with (fail)
  go_cut [85] (fun v13 wc => v13 = .bool (r3 X yl el s) ∧ w1 = wc)
  case first =>
    clear e2
    go_wp2
    all_goals
      go_meet
      case rel => exact ⟨by (repeat (rename (∀ (a : Act) (w : World), Code.wp _ _ _ a w → _) => hx; clear hx)); clear HCS H1 HL HBAD HR HK a0 a1 a2 a3 a4 a5; unfold r3; simp_all <;> (rw [Bool.eq_iff_iff]; simp; omega), rfl⟩
  obtain ⟨rfl, rfl⟩ := hcut
  cases e3 : r3 X yl el s
  rotate_left
  · go_wp2
    go_ret
    exact ⟨by rw [HBAD.out (by rw [HR.out, HK.out, e2, e3]; rfl)]; rfl, H1.out.2⟩
  have HE := Aside0.mk (show errC x = if dirGo none x.es = true then 0 else 1 from by unfold errC; rw [HL.out, HR.out, HK.out, e2, e3]; rfl)
  clear HBAD HR HL e2 e3
  go_wp2
  clear a0 a1 a2 a3 a5
  clear a4
  go_loopg [3, 4, 5] el (fun q v3 v4 v5 wr => ∃ i : Nat, v3 = .int .i64 i ∧ q + i = el ∧ Aside0 (RBx wr gb x Y E yc ec ∧ Below w.heap.size w wr ∧ dirGo none x.es = dirGo (prevE x.es i) (x.es.drop i)))
  case atStart => exact ⟨0, rfl, rfl, ⟨H1.out.1, H1.out.2, rfl⟩⟩
  case round =>
    clear H1
    obtain ⟨i, rfl, hq, hI⟩ := hrel
    obtain ⟨_, _, _, _, a4, _⟩ := hI.out.1.cells
    rw [← HCS.out.2.2.2.2.2.2.1] at a4
    by_cases hlt : i < el
    · have d1 : decide ((i : Int) < (el : Int)) = true := decide_eq_true (by omega)
      have hil : i < x.es.length := by have := HCS.out.2.2.2.2.2.2.1; omega
      obtain ⟨ad, e0, _, _, c0⟩ := at_e HCS.out.2.1.eC hil
      cases e0
      obtain ⟨nm, hnm⟩ : ∃ nm, nm = (x.es.getD i eNone).nm := ⟨_, rfl⟩
      rw [← hnm] at c0
      replace c0 := (hI.out.2.1.cell (World.block_lt_of_cell? w _ c0)).trans c0
      have p25 : (0 ≤ (i : Int)) = True := eq_true (by omega)
      have q25 : ((i : Int) < (el : Int)) = True := eq_true (by omega)
      have hst : dirGo none x.es = ((pathM nm && !cutQ nm && (match prevE x.es i with | none => true | some q => lessS q nm)) && dirGo (some nm) (x.es.drop (i + 1))) := by rw [hI.out.2.2, dropE hil, dirGo_cons, ← hnm]; rfl
      have hnx : prevE x.es (i + 1) = some nm := by unfold prevE; rw [if_neg (by omega), Nat.add_sub_cancel, ← hnm]
      have HS := Aside0.mk (And.intro hst hnx)
      clear hst hnx hnm
      go_upto_region 16 with (go_at_call 19; go_loud (refine (rpath_calls nm wr).mono ?_; rintro e w2 ⟨rfl, hb2⟩; have H2 := Aside0.mk (show RBx w2 gb x Y (some ad) yc ec ∧ Below w.heap.size w w2 from ⟨hI.out.1.below hb2, below_step hI.out.2.1 hb2⟩); clear hb2))
      have HP := Aside0.mk hI.out.2.2
      clear hI a4 c0
      cases hpp : pathM nm
      · go_wp2
        go_ret
        exact ⟨by rw [HE.out, HS.out.1, hpp]; rfl, H2.out.2⟩
      have hnmz := pathM_size hpp
      have HN := Aside0.mk (And.intro (rnames_calls nm (by omega)) (names_cut nm))
      have HPP := Aside0.mk hpp
      obtain ⟨nl, hnl⟩ : ∃ nl, nl = (namesB nm).length := ⟨_, rfl⟩
      have hcl : decide (1 < nl) = cutQ nm := by obtain ⟨t, _, h⟩ := HN.out.2; rw [hnl]; exact h
      have HNL := Aside0.mk hnl
      clear hnmz hpp hnl
      cases hcq : cutQ nm
      rotate_left
      · have d2 : decide ((nl : Int) > 1) = true := by rw [hcq, decide_eq_true_eq] at hcl; exact decide_eq_true (by omega)
        have HCQ := Aside0.mk hcq
        clear hcl hcq
        go_wp2_with (go_at_call 46; go_loud (refine (HN.out.1 w2).mono ?_; rintro e w3 ⟨v3, rfl, hv3, hb3⟩; obtain ⟨A3, c3, rfl, _, _⟩ := Kd.R_reads hv3; rw [← HNL.out]; have H3 := Aside0.mk (show RBx w3 gb x Y (some ad) yc ec ∧ Below w.heap.size w w3 from ⟨H2.out.1.below hb3, below_step H2.out.2 hb3⟩); clear hv3 hb3))
        go_ret
        exact ⟨by rw [HE.out, HS.out.1, HPP.out, HCQ.out]; rfl, H3.out.2⟩
      have d2 : decide ((nl : Int) > 1) = false := by rw [hcq, decide_eq_false_iff_not] at hcl; exact decide_eq_false (by omega)
      have HCQ := Aside0.mk hcq
      clear hcl hcq
      by_cases hi0 : i = 0
      · subst hi0
        have HPR := Aside0.mk (show prevE x.es 0 = none from rfl)
        go_wp2_with (go_at_call 46; go_loud (refine (HN.out.1 w2).mono ?_; rintro e w3 ⟨v3, rfl, hv3, hb3⟩; obtain ⟨A3, c3, rfl, _, _⟩ := Kd.R_reads hv3; rw [← HNL.out]; have H3 := Aside0.mk (show RBx w3 gb x Y (some ad) yc ec ∧ Below w.heap.size w w3 from ⟨H2.out.1.below hb3, below_step H2.out.2 hb3⟩); clear hv3 hb3))
        go_roundg (el - 1)
        case measure => omega
        case rel => exact ⟨1, by go_num, by omega, ⟨H3.out.1, H3.out.2, by rw [HS.out.1, HPP.out, HCQ.out, HPR.out, HS.out.2]; rfl⟩⟩
      · obtain ⟨j, rfl⟩ : ∃ j, i = j + 1 := ⟨i - 1, by omega⟩
        obtain ⟨p, hp⟩ : ∃ p, p = (x.es.getD j eNone).nm := ⟨_, rfl⟩
        have hpr : prevE x.es (j + 1) = some p := by unfold prevE; rw [if_neg hi0, hp]; rfl
        obtain ⟨ad2, e2, _, _, p0⟩ := at_e HCS.out.2.1.eC (i := j) (by have := HCS.out.2.2.2.2.2.2.1; omega)
        cases e2
        rw [← hp] at p0
        have HP0 := Aside0.mk (And.intro p0 hpr)
        have d3 : decide (((j + 1 : Nat) : Int) > 0) = true := decide_eq_true (by omega)
        have d3a : decide (0 < (j : Int) + 1) = true := decide_eq_true (by omega)
        have d3b : decide (0 < j + 1) = true := decide_eq_true (by omega)
        have hw1 : wrap64 ((j : Int) + 1 - 1) = (j : Int) := (IntWalk.wrap64_in _ ⟨by omega, by omega⟩).trans (by omega)
        have hw2 : wrap64 (j : Int) = (j : Int) := IntWalk.wrap64_in _ ⟨by omega, by omega⟩
        have p3 : (j < el) = True := eq_true (by omega)
        have p4 : ((j : Int) < (el : Int)) = True := eq_true (by omega)
        obtain ⟨pv, hpv⟩ : ∃ pv, pv = lessS p nm := ⟨_, rfl⟩
        have hpl : Op.bytesLess p.toList nm.toList = pv := hpv.symm
        have HPV := Aside0.mk hpv
        clear hi0 hp hpr p0 hpv
        cases pv
        · go_wp2_with (go_at_call 46; go_loud (refine (HN.out.1 w2).mono ?_; rintro e w3 ⟨v3, rfl, hv3, hb3⟩; obtain ⟨A3, c3, rfl, _, _⟩ := Kd.R_reads hv3; rw [← HNL.out]; have H3 := Aside0.mk (show RBx w3 gb x Y (some ad) yc ec ∧ Below w.heap.size w w3 from ⟨H2.out.1.below hb3, below_step H2.out.2 hb3⟩); have a4 := H3.out.1.cells.2.2.2.2.1; rw [← HCS.out.2.2.2.2.2.2.1] at a4; have c0 := (H3.out.2.cell (World.block_lt_of_cell? w _ HP0.out.1)).trans HP0.out.1; clear hv3 hb3))
          go_ret
          exact ⟨by rw [HE.out, HS.out.1, HPP.out, HCQ.out, HP0.out.2]; show _ = Ending.returned (.int .i64 (if ((true && !false && lessS p nm) && _) = true then 0 else 1)); rw [← HPV.out]; rfl, H3.out.2⟩
        · go_wp2_with (go_at_call 46; go_loud (refine (HN.out.1 w2).mono ?_; rintro e w3 ⟨v3, rfl, hv3, hb3⟩; obtain ⟨A3, c3, rfl, _, _⟩ := Kd.R_reads hv3; rw [← HNL.out]; have H3 := Aside0.mk (show RBx w3 gb x Y (some ad) yc ec ∧ Below w.heap.size w w3 from ⟨H2.out.1.below hb3, below_step H2.out.2 hb3⟩); have a4 := H3.out.1.cells.2.2.2.2.1; rw [← HCS.out.2.2.2.2.2.2.1] at a4; have c0 := (H3.out.2.cell (World.block_lt_of_cell? w _ HP0.out.1)).trans HP0.out.1; clear hv3 hb3))
          go_roundg (el - (j + 2))
          case measure => omega
          case rel => exact ⟨j + 2, by go_num, by omega, ⟨H3.out.1, H3.out.2, by rw [HS.out.1, HPP.out, HCQ.out, HP0.out.2, HS.out.2]; show ((true && !false && lessS p nm) && _) = _; rw [← HPV.out]; rfl⟩⟩
    · have d1 : decide ((i : Int) < (el : Int)) = false := decide_eq_false (by omega)
      have he := Aside0.mk (show errC x = 0 by rw [HE.out, hI.out.2.2, List.drop_of_length_le (by have := HCS.out.2.2.2.2.2.2.1; omega)]; rfl)
      clear HE HCS
      go_wp2
      go_ret
      exact ⟨by rw [he.out]; rfl, hI.out.2.1⟩
set_option maxRecDepth 100000 in
set_option maxHeartbeats 8000000 in
theorem rocheck_4 (hcs : RV cs x Y E yc ec) (hI : InR w x Y E) (hk1 : x.k = 4) :
    Calls Tryd.prog 34 #[.agg cs] w fun e w' => e = .returned (.int .i64 (errC x)) ∧ Below w.heap.size w w' := by
  obtain ⟨k, hk⟩ : ∃ z, z = x.k := ⟨_, rfl⟩
  obtain ⟨n, hn⟩ : ∃ z, z = x.n := ⟨_, rfl⟩
  obtain ⟨X, hX⟩ : ∃ z, z = S x.b := ⟨_, rfl⟩
  obtain ⟨yl, hyl⟩ : ∃ z, z = x.ids.length := ⟨_, rfl⟩
  obtain ⟨el, hel⟩ : ∃ z, z = x.es.length := ⟨_, rfl⟩
  obtain ⟨s, hs⟩ : ∃ z, z = x.s := ⟨_, rfl⟩
  have hl3 : el ≤ 9223372036854775807 := by rw [hel]; exact hI.el
  have HCS := Aside0.mk (And.intro hcs (And.intro hI (And.intro hk (And.intro hn (And.intro hX (And.intro hyl (And.intro hel hs)))))))
  have HL := Aside0.mk (err_law x hI.n.1)
  have HBAD : Aside0 (rAll x = false → errC x = 1) := ⟨fun h => by unfold errC; rw [HL.out, h]; rfl⟩
  have HR : Aside0 (rAll x = (!r1 k && !r2 k X n yl el s && !r3 X yl el s && !r4 k n yl && !r5 k yl)) := ⟨by rw [hk, hn, hX, hyl, hel, hs]; rfl⟩
  rw [← hk] at hk1
  clear hcs hI hk hn hX hyl hel hs
  have HK := Aside0.mk hk1
  clear hk1
  go_enter Tryd.func34, Tryd.ntmps34
  go_upto_region 1 with (first
    | ((with_reducible refine gate_dst (N := 1) rfl ?_); refine box_event ?hg (N := 1) ?hd (cs := cs) (t := 63) ?hr ?_; (case hd => rfl); (case hg => rfl); (case hr => exact exec_box _ _ _ rfl cs rfl); intro gb hgb w1 hbox hb1; have H1 := Aside0.mk (show RBx w1 gb x Y E yc ec ∧ Below w.heap.size w w1 from ⟨RBx.of HCS.out.1 hbox, hb1⟩); obtain ⟨a0, a1, a2, a3, a4, a5⟩ := H1.out.1.cells; rw [← HCS.out.2.2.1, HK.out] at a0; rw [← HCS.out.2.2.2.2.1] at a1; rw [← HCS.out.2.2.2.1] at a2; rw [← HCS.out.2.2.2.2.2.1] at a3; rw [← HCS.out.2.2.2.2.2.2.1] at a4; rw [← HCS.out.2.2.2.2.2.2.2] at a5; clear hbox hb1 hgb))
  go_upto_region 3 with (fail)
  go_cut [63] (fun v13 wc => v13 = .bool (r2 4 X n yl el s) ∧ w1 = wc)
  case first =>
    go_wp2
    all_goals
      go_meet
      case rel => exact ⟨by (repeat (rename (∀ (a : Act) (w : World), Code.wp _ _ _ a w → _) => hx; clear hx)); clear HCS H1 HL HBAD HR HK a0 a1 a2 a3 a4 a5; unfold r2; simp_all <;> (rw [Bool.eq_iff_iff]; simp; omega), rfl⟩
  obtain ⟨rfl, rfl⟩ := hcut
  cases e2 : r2 4 X n yl el s
  rotate_left
  · go_wp2
    go_ret
    exact ⟨by rw [HBAD.out (by rw [HR.out, HK.out, e2]; rfl)]; rfl, H1.out.2⟩
  go_upto_region 5 with (fail)
  go_cut [85] (fun v13 wc => v13 = .bool (r3 X yl el s) ∧ w1 = wc)
  case first =>
    clear e2
    go_wp2
    all_goals
      go_meet
      case rel => exact ⟨by (repeat (rename (∀ (a : Act) (w : World), Code.wp _ _ _ a w → _) => hx; clear hx)); clear HCS H1 HL HBAD HR HK a0 a1 a2 a3 a4 a5; unfold r3; simp_all <;> (rw [Bool.eq_iff_iff]; simp; omega), rfl⟩
  obtain ⟨rfl, rfl⟩ := hcut
  cases e3 : r3 X yl el s
  rotate_left
  · go_wp2
    go_ret
    exact ⟨by rw [HBAD.out (by rw [HR.out, HK.out, e2, e3]; rfl)]; rfl, H1.out.2⟩
  go_upto_region 9 with (fail)
  go_cut [124] (fun v13 wc => v13 = .bool (r5 4 yl) ∧ w1 = wc)
  case first =>
    clear e2 e3
    go_wp2
    all_goals
      go_meet
      case rel => exact ⟨by (repeat (rename (∀ (a : Act) (w : World), Code.wp _ _ _ a w → _) => hx; clear hx)); clear HCS H1 HL HBAD HR HK a0 a1 a2 a3 a4 a5; unfold r5; simp_all <;> (rw [Bool.eq_iff_iff]; simp; omega), rfl⟩
  obtain ⟨rfl, rfl⟩ := hcut
  cases e5 : r5 4 yl
  rotate_left
  · go_wp2
    go_ret
    exact ⟨by rw [HBAD.out (by rw [HR.out, HK.out, e2, e3, e5]; rfl)]; rfl, H1.out.2⟩
  have HEL := Aside0.mk (show el = 0 from by unfold r2 at e2; simp at e2; omega)
  have HE := Aside0.mk (show errC x = if dirGo none x.es = true then 0 else 1 from by unfold errC; rw [HL.out, HR.out, HK.out, e2, e3, e5]; rfl)
  clear HBAD HR HL e2 e3 e5
  go_wp2
  clear a0 a1 a2 a3 a5
  clear a4
  go_loopg [3, 4, 5] el (fun q v3 v4 v5 wr => ∃ i : Nat, v3 = .int .i64 i ∧ q + i = el ∧ Aside0 (RBx wr gb x Y E yc ec ∧ Below w.heap.size w wr ∧ dirGo none x.es = dirGo (prevE x.es i) (x.es.drop i)))
  case atStart => exact ⟨0, rfl, rfl, ⟨H1.out.1, H1.out.2, rfl⟩⟩
  case round =>
    clear H1
    obtain ⟨i, rfl, hq, hI⟩ := hrel
    obtain ⟨_, _, _, _, a4, _⟩ := hI.out.1.cells
    rw [← HCS.out.2.2.2.2.2.2.1] at a4
    have hz := HEL.out
    have d1 : decide ((i : Int) < (el : Int)) = false := decide_eq_false (by omega)
    have he := Aside0.mk (show errC x = 0 by rw [HE.out, hI.out.2.2, List.drop_of_length_le (by have := HCS.out.2.2.2.2.2.2.1; omega)]; rfl)
    clear HE HCS
    go_wp2
    go_ret
    exact ⟨by rw [he.out]; rfl, hI.out.2.1⟩
theorem rocheck_calls (hcs : RV cs x Y E yc ec) (hI : InR w x Y E) :
    Calls Tryd.prog 34 #[.agg cs] w fun e w' => e = .returned (.int .i64 (errC x)) ∧ Below w.heap.size w w' := by
  by_cases h1 : x.k = 1
  · exact rocheck_1 hcs hI h1
  by_cases h2 : x.k = 2
  · exact rocheck_2 hcs hI h2
  by_cases h3 : x.k = 3
  · exact rocheck_3 hcs hI h3
  by_cases h4 : x.k = 4
  · exact rocheck_4 hcs hI h4
  · exact rocheck_no hcs hI (by omega)
end
end Go.Proofs.YtgjdcdhfijkoiaaDoor.Obj
