/- The walk of NotesKinds. -/
import Derived.Test.YtlcanfniphdelaaDoorLPuts
namespace Go.Proofs.YtlcanfniphdelaaDoor.Not
open Go.RowKit Go.Maps Go.Proofs.YtlcanfniphdelaaDoorW.PrintWords Go.Proofs.YtlcanfniphdelaaDoorW.PrintLast Go.Proofs.YtlcanfniphdelaaDoorW.PrintMore Go.Proofs.YtlcanfniphdelaaDoor.Mem Go.Proofs.YtlcanfniphdelaaDoor.Cod Go.Proofs.YtlcanfniphdelaaDoor.Ins Go.Proofs.YtlcanfniphdelaaDoor.Open Go.Proofs.YtlcanfniphdelaaDoor.PCod
set_option linter.unusedVariables false
set_option linter.unusedSimpArgs false
set_option maxRecDepth 8000
set_option maxHeartbeats 8000000
/-- The note of a kind without anything. -/
def g0 (k : Int) : GM := ⟨k, zero32, 0, 0, [], []⟩
theorem inN0 {w : World} {k : Int} (hk : -9223372036854775808 ≤ k ∧ k ≤ 9223372036854775807) : InN w (g0 k) none none := by
  exact ⟨hk, show (0 : Int) ≤ 0 ∧ (0 : Int) ≤ 18446744073709551615 by decide, show (0 : Int) ≤ 0 ∧ (0 : Int) ≤ 18446744073709551615 by decide, rfl, fun x hx => by rw [List.eq_of_mem_replicate hx]; omega, Kd.C_nil _ _, (fun x hx => by cases hx), show (0 : Nat) ≤ 9223372036854775807 by decide, (fun i hi => by cases hi), show (0 : Nat) ≤ 9223372036854775807 by decide⟩
/-- What it is put as: its kind, and noughts. -/
theorem put0 : ∀ k : Nat, k < 15 → 1 ≤ k → putB (g0 k) = (k : Int) :: List.replicate ((putB (g0 k)).length - 1) 0 ∧ chkG (g0 k) = 0 ∧ 1 ≤ (putB (g0 k)).length ∧ (putB (g0 k)).length ≤ 50 := by decide +kernel
theorem put0_bad {k : Int} (h : k < 1 ∨ 14 < k) : chkG (g0 k) = 1 := by
  unfold chkG chk
  rw [if_pos]
  refine .inr (.inl ?_)
  show kindOf k = false
  unfold kindOf
  rcases h with h | h
  · rw [decide_eq_false (show ¬ 1 ≤ k by omega)]; rfl
  · rw [decide_eq_false (show ¬ k ≤ 14 by omega), Bool.and_false]
/-- One byte more: refused, for what is left. -/
theorem get_more (kk : Nat) (h2 : kk < 15) (h1 : 1 ≤ kk) (x : Int) : (getM (putB (g0 kk) ++ [x])).1 = 12 := by
  have hp : putB (g0 kk) = putM (g0 kk) := by unfold putB; rw [if_pos (put0 kk h2 h1).2.1]
  obtain ⟨f, hf⟩ : ∃ f, f = fld kk := ⟨_, rfl⟩
  have e : putB (g0 kk) ++ [x] = putNum kk ++ (px f 1 zero32 ++ (px f 2 (putNum 0) ++ (px f 4 (putNum 0) ++ (px f 8 (putNum ([] : List Int).length ++ []) ++ (px f 16 (putNum 0) ++ [x]))))) := by
    rw [hp]
    unfold putM g0
    rw [hf]
    simp
  rw [e]
  have hu := uint_put (y := (kk : Int)) (by omega) (by omega) (px f 1 zero32 ++ (px f 2 (putNum 0) ++ (px f 4 (putNum 0) ++ (px f 8 (putNum ([] : List Int).length ++ []) ++ (px f 16 (putNum 0) ++ [x])))))
  have a1 := g1_put (f := f) (p := zero32) rfl (fun _ => rfl) (px f 2 (putNum 0) ++ (px f 4 (putNum 0) ++ (px f 8 (putNum ([] : List Int).length ++ []) ++ (px f 16 (putNum 0) ++ [x]))))
  have a2 := g2_put (f := f) (m := 2) (x := 0) (by omega) (by omega) (fun _ => rfl) (px f 4 (putNum 0) ++ (px f 8 (putNum ([] : List Int).length ++ []) ++ (px f 16 (putNum 0) ++ [x])))
  have a3 := g2_put (f := f) (m := 4) (x := 0) (by omega) (by omega) (fun _ => rfl) (px f 8 (putNum ([] : List Int).length ++ []) ++ (px f 16 (putNum 0) ++ [x]))
  have a4 := g4_put (f := f) (k := kk) (b := []) (by unfold mostOf; split <;> simp) (fun _ => rfl) (px f 16 (putNum 0) ++ [x])
  have hw : gWay f ⟨px f 16 (putNum 0) ++ [x], 0⟩ = (⟨[x], 0⟩, 0) := by
    unfold gWay
    cases h : fbit f 16
    · rw [px_off h]; rfl
    · rw [px_on h, if_pos rfl]; exact uint_put (by omega) (by omega) _
  have hk : kindOf (kk : Int) = true := by unfold kindOf; rw [decide_eq_true (by omega), decide_eq_true (by omega)]; rfl
  unfold getM gR5
  rw [hu]
  dsimp only
  rw [← hf, a1]
  dsimp only
  rw [a2]
  dsimp only
  rw [a3]
  dsimp only
  rw [a4]
  dsimp only
  rw [hw]
  dsimp only
  have hend : (idsM (0 : Int).toNat (⟨[x], 0⟩ : RM)).1.end_ = 12 := by
    show (⟨[x], 0⟩ : RM).end_ = 12
    rw [RM.end_0 rfl, if_neg (by simp)]
  rw [if_neg (by omega), if_neg (by rw [hk]; decide), if_neg (by omega), if_pos (by rw [hend]; decide), hend]
def n0 (k : Int) : Array Value := (ncells k 0 0 (List.replicate 32 0) (.slice none 0 0) (.slice none 0 0)).toArray
theorem build_n0 (W : World) (k : Int) : (Instr.build 28 #[(0, .int .i64 k)]).run Tryd.prog W = .ok (.agg (n0 k)) W := by kernel_rfl
section
variable {w : World}
theorem putk_no {k : Int} (hk : -9223372036854775808 ≤ k ∧ k ≤ 9223372036854775807) (h : k < 1 ∨ 14 < k) (hF : FAt w) : Calls Tryd.prog 8 #[.agg (n0 k)] w fun e w' => e = .returned (.tuple #[.slice none 0 0, .int .i64 1]) ∧ Below w.heap.size w w' :=
  put_no (w := w) k 0 0 hk (List.replicate 32 0) rfl none 0 0 none 0 0 hF (by decide) (by decide) (put0_bad h)
theorem putk_ok {kk : Nat} (h1 : 1 ≤ kk) (h2 : kk ≤ 14) (hF : FAt w) : Calls Tryd.prog 8 #[.agg (n0 kk)] w fun e w' => ∃ b c, e = .returned (.tuple #[.slice (some ⟨b, 0, none⟩) (putB (g0 kk)).length c, .int .i64 0]) ∧ Kd.R (Kd.int .u8) 5 w' w.heap.size (fun _ => True) (.slice (some ⟨b, 0, none⟩) (putB (g0 kk)).length c) (putB (g0 kk)) ∧ (∀ i : Nat, i < (putB (g0 kk)).length → w'.cell? ⟨b, i, none⟩ = some (.int .u8 (rd (putB (g0 kk)) i))) ∧ w.heap.size ≤ b ∧ b < w'.heap.size ∧ (putB (g0 kk)).length ≤ c ∧ Below w.heap.size w w' := by
  obtain ⟨_, q2, q3, _⟩ := put0 kk (by omega) h1
  have hI : InN w (g0 kk) none none := inN0 ⟨by omega, by omega⟩
  have hx := put_ok (w := w) kk 0 0 zero32 [] [] hI.hk hI.hn hI.ho hI.hp hI.hpy none 0 none 0 hI.hb hI.hby hI.hY hF (by decide) (by decide) q2
  have e : putB (g0 kk) = putM (g0 kk) := by unfold putB; rw [if_pos q2]
  refine hx.mono ?_
  rintro e1 w' ⟨v, rfl, hv, hb⟩
  have hv' : Kd.R (Kd.int .u8) 5 w' w.heap.size (fun _ => True) v (putB (g0 kk)) := by rw [e]; exact hv
  obtain ⟨b, c, rfl, hl, hu, _, hc, hat⟩ := own_at hv' (by omega)
  exact ⟨b, c, rfl, hv', hat, hl, hu, hc, hb⟩
theorem kinds_bad {k x : Int} (hk : -9223372036854775808 ≤ k ∧ k ≤ 9223372036854775807) (h : k < 1 ∨ 14 < k) (hF : FAt w) : Calls Tryd.prog 5 #[.int .i64 k, .int .u8 x] w fun e w' => e = .returned (.bool true) ∧ Below w.heap.size w w' := by
  have HK := Aside0.mk (And.intro hk (And.intro h hF))
  by_cases h1 : k < 1
  · have d1 : decide (k < 1) = true := decide_eq_true h1
    clear hk h hF h1
    go_enter Tryd.func5, Tryd.ntmps5
    go_wp2_with (first
      | (go_at_call 7; go_loud (refine (awake20_calls HK.out.2.2).mono ?_; rintro e w1 ⟨rfl, hb1⟩; have H1 := Aside0.mk hb1; clear hb1))
      | ((with_reducible refine gate_dst (N := 18) rfl ?_); refine Kd.event_run rfl (v := .agg (n0 k)) (w1 := w1) ?hr ?_; (case hr => exact exec_build 28 (.tmp 17) (.int .i64 k) _ rfl rfl (build_n0 w1 k)))
      | (go_at_call 8; go_loud (refine (putk_no HK.out.1 HK.out.2.1 (HK.out.2.2.below H1.out)).mono ?_; rintro e w2 ⟨rfl, hb2⟩; have H2 := Aside0.mk (below_step H1.out hb2); clear hb2)))
    go_ret
    exact ⟨rfl, H2.out⟩
  · have d1 : decide (k < 1) = false := decide_eq_false h1
    have d2 : decide (14 < k) = true := decide_eq_true (by omega)
    clear hk h hF h1
    go_enter Tryd.func5, Tryd.ntmps5
    go_wp2_with (first
      | (go_at_call 7; go_loud (refine (awake20_calls HK.out.2.2).mono ?_; rintro e w1 ⟨rfl, hb1⟩; have H1 := Aside0.mk hb1; clear hb1))
      | ((with_reducible refine gate_dst (N := 18) rfl ?_); refine Kd.event_run rfl (v := .agg (n0 k)) (w1 := w1) ?hr ?_; (case hr => exact exec_build 28 (.tmp 17) (.int .i64 k) _ rfl rfl (build_n0 w1 k)))
      | (go_at_call 8; go_loud (refine (putk_no HK.out.1 HK.out.2.1 (HK.out.2.2.below H1.out)).mono ?_; rintro e w2 ⟨rfl, hb2⟩; have H2 := Aside0.mk (below_step H1.out hb2); clear hb2)))
    go_ret
    exact ⟨rfl, H2.out⟩
theorem kinds_ok {kk : Nat} {x : Int} (h1 : 1 ≤ kk) (h2 : kk ≤ 14) (hx0 : 0 ≤ x ∧ x ≤ 255) (hF : FAt w) : Calls Tryd.prog 5 #[.int .i64 kk, .int .u8 x] w fun e w' => e = .returned (.bool true) ∧ Below w.heap.size w w' := by
  have hp0 := put0 kk (by omega) h1
  have hgm := get_more kk (by omega) h1 x
  have hI : InN w (g0 kk) none none := inN0 ⟨by omega, by omega⟩
  have hpk := fun (W : World) (hf : FAt W) => putk_ok (w := W) h1 h2 hf
  have hgb := got_back hI hp0.2.1
  have hby : Byt (putB (g0 kk)) := by
    have e : putB (g0 kk) = putM (g0 kk) := by unfold putB; rw [if_pos hp0.2.1]
    rw [e]
    exact putM_byt hgb.2.2.2 hI.hn hI.ho hI.hpy hI.hby hgb.2.1 (fun i hi => by cases hi) hgb.2.2.1
  have hgb1 : getM (putB (g0 kk)) = (0, g0 kk) := by
    have e : putB (g0 kk) = putM (g0 kk) := by unfold putB; rw [if_pos hp0.2.1]
    rw [e]; exact hgb.1
  obtain ⟨pb, hpb⟩ : ∃ pb, pb = putB (g0 kk) := ⟨_, rfl⟩
  rw [← hpb] at hp0 hgm hby hgb1 hpk
  obtain ⟨pl, hpl⟩ : ∃ pl, pl = pb.length := ⟨_, rfl⟩
  rw [← hpl] at hp0 hpk
  have hpl1 : 1 ≤ pl := hp0.2.2.1
  have hpl2 : pl ≤ 50 := hp0.2.2.2
  have hr0 : rd pb 0 = kk := by rw [hp0.1]; rfl
  have hrz : ∀ i : Nat, 1 ≤ i → i < pl → rd pb i = 0 := fun i hi1 hi2 => by
    rw [hp0.1]
    unfold rd
    obtain ⟨j, rfl⟩ : ∃ j, i = j + 1 := ⟨i - 1, by omega⟩
    rw [Int.toNat_natCast, List.getD_eq_getElem?_getD, List.getElem?_cons_succ, List.getElem?_replicate, if_pos (by omega)]
    rfl
  have HA := Aside0.mk (And.intro hF (And.intro hgm (And.intro hby (And.intro hgb1 (And.intro hpk (And.intro hrz (And.intro hr0 (And.intro hpl hx0))))))))
  have k1 : decide ((kk : Int) < 1) = false := decide_eq_false (by omega)
  have k14 : decide ((14 : Int) < (kk : Int)) = false := decide_eq_false (by omega)
  have l1 : decide ((pl : Int) < 1) = false := decide_eq_false (by omega)
  have l1n : decide (pl < 1) = false := decide_eq_false (by omega)
  have l0 : decide ((0 : Int) < (pl : Int)) = true := decide_eq_true (by omega)
  have l0n : decide (0 < pl) = true := decide_eq_true (by omega)
  have HLN := Aside0.mk (And.intro (show (pb.length + 1) * 1 ≤ 140737488355328 by omega) (And.intro (show (pb ++ [x]).length < 140737488355328 by rw [List.length_append, List.length_singleton]; omega) (show pb.length < 140737488355328 by omega)))
  have hwi : wrap64 (kk : Int) = kk := IntWalk.wrap64_in _ ⟨by omega, by omega⟩
  clear hp0 hgm hI hpk hgb hby hgb1 hF hpb hpl hr0 hrz hx0
  go_enter Tryd.func5, Tryd.ntmps5
  go_wp2_with (first
    | (go_at_call 7; go_loud (refine (awake20_calls HA.out.1).mono ?_; rintro e w1 ⟨rfl, hb1⟩; have H1 := Aside0.mk hb1; clear hb1))
    | ((with_reducible refine gate_dst (N := 18) rfl ?_); refine Kd.event_run rfl (v := .agg (n0 kk)) (w1 := w1) ?hr ?_; (case hr => exact exec_build 28 (.tmp 17) (.int .i64 kk) _ rfl rfl (build_n0 w1 kk)))
    | (go_at_call 8; go_loud (refine (HA.out.2.2.2.2.1 w1 (HA.out.1.below H1.out)).mono ?_; rintro e w2 ⟨vb, vc, rfl, hv, hat, hlo, hhi, hc, hb2⟩; have e0 : w2.cell? ⟨vb, 0, none⟩ = some (.int .u8 kk) := (by have h := hat 0 (by have := HA.out.2.2.2.2.2.2.2.1; omega); rw [show ((0 : Nat) : Int) = 0 from rfl, HA.out.2.2.2.2.2.2.1] at h; exact h); have H2 := Aside0.mk (And.intro (below_step H1.out hb2) (And.intro hv (And.intro hat (And.intro (Nat.le_trans H1.out.size hlo) (And.intro hhi hc))))); clear hb2 hv hat hlo hhi hc)))
  have hloop : ∀ i : Nat, 1 ≤ i → i < pl → w2.cell? ⟨vb, i, none⟩ = some (.int .u8 0) := fun i hi1 hi2 => by
    have h := H2.out.2.2.1 i hi2
    rw [HA.out.2.2.2.2.2.1 i hi1 hi2] at h
    exact h
  have HL := Aside0.mk hloop
  clear hloop e0
  go_loopg [8] (pl - 1) (fun q v8 wr => ∃ i : Nat, v8 = .int .i64 i ∧ 1 ≤ i ∧ q + i = pl ∧ wr = w2)
  case atStart => exact ⟨1, rfl, Nat.le_refl _, by omega, rfl⟩
  case round =>
    obtain ⟨i, rfl, hi1, hq, rfl⟩ := hrel
    by_cases hlt : i < pl
    · have ei := HL.out i hi1 hlt
      have g1 : decide ((i : Int) < (pl : Int)) = true := decide_eq_true (by omega)
      have g1n : decide (i < pl) = true := decide_eq_true hlt
      have hw : wrap64 ((i : Int) + 1) = ((i + 1 : Nat) : Int) := (IntWalk.wrap64_in _ ⟨by omega, by omega⟩).trans (by omega)
      go_wp2
      go_roundg (pl - (i + 1))
      case measure => omega
      case rel => exact ⟨i + 1, by first | rfl | (rw [hw]), by omega, by omega, rfl⟩
    · have g1 : decide ((i : Int) < (pl : Int)) = false := decide_eq_false (by omega)
      have g1n : decide (i < pl) = false := decide_eq_false hlt
      clear hlt hq hi1
      go_wp2_with (first
        | (go_at_call 13; go_loud (have _t := HQ; have hy2 : Byt (pb ++ [x]) := byt_app HA.out.2.2.1 (by intro y hy; rw [List.mem_singleton.1 hy]; exact HA.out.2.2.2.2.2.2.2.2); have hx := get_calls (w := wq) AQ cQ HQ.out.2.1 HQ.out.2.2.1 HLN.out.2.1 hy2 (HA.out.1.below HQ.out.1); rw [HA.out.2.1, ← HQ.out.2.2.2.2] at hx; refine hx.mono ?_; clear hx; rintro e wR ⟨csR, rfl, hnR, hbR⟩; have HR := Aside0.mk (And.intro (below_step HQ.out.1 hbR) (And.intro (hnR.fit (getM_ok hy2).1) ((hbR.block _ (blk_lt HQ.out.2.2.2.1)).trans HQ.out.2.2.2.1))); clear hnR hbR hy2 _t))
        | (go_at_call 13; go_loud (have hC := (Kd.R_reads' H2.out.2.1).2.2; have hx := get_calls (w := wr) (some ⟨vb, 0, none⟩) vc hC (by rw [← HA.out.2.2.2.2.2.2.2.1]; exact H2.out.2.2.2.2.2) HLN.out.2.2 HA.out.2.2.1 (HA.out.1.below H2.out.1); rw [HA.out.2.2.2.1, ← HA.out.2.2.2.2.2.2.2.1] at hx; refine hx.mono ?_; clear hx; rintro e w9 ⟨cs9, rfl, hn9, hb9⟩; have H9 := Aside0.mk (And.intro (below_step H2.out.1 hb9) (And.intro hn9 (And.intro (hn9.fit rfl) (And.intro (Kd.R_below H2.out.2.1 hb9) (Nat.lt_of_lt_of_le H2.out.2.2.2.2.1 hb9.size))))); clear hn9 hb9 hC))
        | ((with_reducible refine gate_dst (N := 9) rfl ?_); refine Kd.event_run rfl (v := .pointer (some ⟨w9.heap.size, 0, none⟩)) (w1 := w9.alloc (.cells nz28.toArray 28)) ?hr ?_; (case hr => first | kernel_rfl | (go_simp; done) | (go_simp; rfl)); go_loud (refine wpName (fun wa hwa => ?_); obtain ⟨g9, hg9⟩ : ∃ g, g = w9.heap.size := ⟨_, rfl⟩; have HB := Aside0.mk (And.intro (show wa.heap[g9]? = some (.cells nz28.toArray 28 (0, 0)) by rw [hwa, hg9]; exact blk_new w9 _) (And.intro (show Below w9.heap.size w9 wa by rw [hwa]; exact below_alloc (Below.refl _ _) _) hg9)); rw [← hg9]; clear hwa hg9))
        | ((with_reducible refine gate_store (ty := 28) (x := .tmp 9) (y := .tmp 64) rfl ?_); go_loud (refine wpList_store_row rfl 28 (.tmp 9) (.tmp 64) rfl g9 cs9 rfl rfl 28 nz28.toArray HB.out.1 H9.out.2.2.1.1 H9.out.2.2.1.2.1 H9.out.2.2.1.2.2 ?_; refine wpName (fun wb hwb => ?_); have hbb : Below w9.heap.size w9 wb := (by rw [hwb]; exact below_setRow HB.out.2.1 (by rw [HB.out.2.2]; exact Nat.le_refl _) _); have HC := Aside0.mk (And.intro (show wb.heap[g9]? = some (.cells cs9 28 (0, 0)) by rw [hwb]; exact setRow_heap _ _ _ _ _ _ HB.out.1) (And.intro (below_step H9.out.1 hbb) (Kd.R_below H9.out.2.2.2.1 hbb))); clear hwb hbb))
        | ((with_reducible refine gate_dst (N := 70) rfl ?_); go_loud (refine Kd.R_append (Kd.int .u8) (w0 := w) (W := wb) w.heap.size ?q1 (.tmp 67) (.tmp 69) 25 5 (.int .u8 0) 1 ?q2 Tryd.underlying25 ?q3 ?q4 (by decide) (by decide) (.slice (some ⟨vb, 0, none⟩) pl vc) pb x [.int .u8 x] (fun _ => True) (fun _ => False) ?q5 ?q6 ?q7 (fun _ h => h.elim) (fun _ _ => trivial) ?q8 ?q9 ?q10 ?q11 ?_; (case q1 => rfl); (case q2 => rfl); (case q3 => kernel_rfl); (case q4 => rfl); (case q5 => rfl); (case q6 => rfl); (case q7 => exact (show Kd.M (Kd.int .u8) _ _ _ x [.int .u8 x] from rfl)); (case q8 => exact Kd.R_lower HC.out.2.2 H1.out.size); (case q9 => exact HC.out.2.1); (case q10 => exact HC.out.2.1.size); (case q11 => exact HLN.out.1); intro v1 wq hv1 hbq hgq hatq; obtain ⟨AQ, cQ, hve, hcQ, hCQ⟩ := Kd.R_reads hv1; obtain ⟨qn, hqn⟩ : ∃ qn, qn = (pb ++ [x]).length := ⟨_, rfl⟩; rw [← hqn] at hve; subst hve; have HQ := Aside0.mk (And.intro hbq (And.intro hCQ (And.intro hcQ (And.intro (show wq.heap[g9]? = some (.cells cs9 28 (0, 0)) from (hgq.block g9 (blk_lt HC.out.1) (fun e => Nat.ne_of_gt (show vb < g9 by rw [HB.out.2.2]; exact H9.out.2.2.2.2) (Option.some.inj e))).trans HC.out.1) hqn)))); clear hv1 hbq hgq hatq hCQ hcQ hqn))
        | ((with_reducible refine gate_dst (N := 11) rfl ?_); refine Kd.event_run rfl (v := .pointer (some ⟨wR.heap.size, 0, none⟩)) (w1 := wR.alloc (.cells nz28.toArray 28)) ?hr ?_; (case hr => first | kernel_rfl | (go_simp; done) | (go_simp; rfl)); go_loud (refine wpName (fun wS hwS => ?_); obtain ⟨gS, hgS⟩ : ∃ g, g = wR.heap.size := ⟨_, rfl⟩; have HS := Aside0.mk (And.intro (show wS.heap[gS]? = some (.cells nz28.toArray 28 (0, 0)) by rw [hwS, hgS]; exact blk_new wR _) (And.intro (show Below wR.heap.size wR wS by rw [hwS]; exact below_alloc (Below.refl _ _) _) hgS)); rw [← hgS]; clear hwS hgS))
        | ((with_reducible refine gate_store (ty := 28) (x := .tmp 11) (y := .tmp 72) rfl ?_); go_loud (refine wpList_store_row rfl 28 (.tmp 11) (.tmp 72) rfl gS csR rfl rfl 28 nz28.toArray HS.out.1 HR.out.2.1.1 HR.out.2.1.2.1 HR.out.2.1.2.2 ?_; refine wpName (fun wT hwT => ?_); have hbT : Below wR.heap.size wR wT := (by rw [hwT]; exact below_setRow HS.out.2.1 (by rw [HS.out.2.2]; exact Nat.le_refl _) _); have hT9 : wT.heap[g9]? = some (.cells cs9 28 (0, 0)) := (hbT.block _ (blk_lt HR.out.2.2)).trans HR.out.2.2; have e1 : wT.cell? ⟨g9, 0, none⟩ = some (.int .i64 kk) := (by rw [blk_cell hT9]; obtain ⟨_, _, _, _, hcs9, _⟩ := H9.out.2.1; rw [hcs9]; rfl); have HT := Aside0.mk (below_step HR.out.1 hbT); clear hwT hbT hT9)))
      go_ret
      exact ⟨rfl, HT.out⟩
theorem kinds_row {k x : Int} (hk : (Lit.int .i64 k).wf = true) (hx : (Lit.int .u8 x).wf = true) (hT : ∀ k : Nat, k < 15 → w.cell? ⟨0, k, none⟩ = some (.int .i64 (([0, 3, 1, 3, 9, 1, 7, 31, 1, 9, 1, 10, 2, 0, 10] : List Int).getD k 0))) :
    Calls Tryd.prog 5 #[.int .i64 k, .int .u8 x] w fun e w' => e = .returned (.bool true) ∧ Below w.heap.size w w' := by
  have i64 : -9223372036854775808 ≤ k ∧ k ≤ 9223372036854775807 := by simpa [Lit.wf, IntKind.min, IntKind.max, IntKind.signed, IntKind.bits] using hk
  have i8 : 0 ≤ x ∧ x ≤ 255 := by simpa [Lit.wf, IntKind.min, IntKind.max, IntKind.signed, IntKind.bits] using hx
  by_cases h : k < 1 ∨ 14 < k
  · exact kinds_bad i64 h (fat_of hT)
  · obtain ⟨kk, rfl⟩ : ∃ kk : Nat, k = kk := ⟨k.toNat, by omega⟩
    exact kinds_ok (by omega) (by omega) i8 (fat_of hT)
end
end Go.Proofs.YtlcanfniphdelaaDoor.Not
