/- The contract of the document's Put of a note. -/
import Derived.Test.YtlcanfniphdelaaDoorRChk
namespace Go.Proofs.YtlcanfniphdelaaDoor.Not
open Go.RowKit Go.Maps Go.Proofs.YtlcanfniphdelaaDoorW.PrintWords Go.Proofs.YtlcanfniphdelaaDoorW.PrintLast Go.Proofs.YtlcanfniphdelaaDoorW.PrintMore Go.Proofs.YtlcanfniphdelaaDoor.Mem Go.Proofs.YtlcanfniphdelaaDoor.Cod Go.Proofs.YtlcanfniphdelaaDoor.Ins Go.Proofs.YtlcanfniphdelaaDoor.Open Go.Proofs.YtlcanfniphdelaaDoor.PCod
set_option linter.unusedVariables false
set_option linter.unusedSimpArgs false
set_option maxRecDepth 8000
set_option maxHeartbeats 4000000
section
variable {w : World}
theorem load_ref {gb : Nat} {k n o : Int} {p : List Int} {vB vY : Value} {oi : Oper} {ev : Operand → Value} {W : World} (hs : RAt W gb k n o p vB vY) (hp : p.length = 32) (x : Operand) (ho : oi.op = .load 36 x) (hx : ev x = .pointer (some ⟨gb, 0, none⟩)) : (execOp ev oi).run Tryd.prog W = .ok (.value (.agg (ncells k n o p vB vY).toArray)) W :=
  exec_load_any W 36 x ho ⟨gb, 0, none⟩ hx (ncells k n o p vB vY) _ (fun j v hj => by rw [add_p, Nat.zero_add, blk_cell hs j]; simpa using hj) Tryd.underlying36 rfl (by simp only [ncells, List.length_cons, List.length_append, nums_length, hp, List.length_nil]; kernel_rfl)
theorem ref_row {w : World} {gb : Nat} {k n o : Int} {p : List Int} {vB vY : Value} (h : RAt w gb k n o p vB vY) (hp : p.length = 32) : Kd.C (Kd.int .u8) w (some ⟨gb, 1, none⟩) p.length p := by
  refine Kd.C_of_reads (d := (0 : Int)) (h1 := fun _ => rfl) ⟨rfl, by omega, fun _ => ⟨_, rfl, fun j hj => ?_⟩⟩
  rw [add_p]
  exact (h.cells hp).2.2.2.2.2 j _ (by unfold nums; rw [List.getElem?_map, List.getElem?_eq_getElem hj]; simp [List.getD_eq_getElem?_getD, List.getElem?_eq_getElem hj])
theorem ids_row {w W : World} {ad : Addr} {i : Nat} {id : List Int} (h : ∀ (j : Nat) (v : Value), (nums .u8 id)[j]? = some v → w.cell? (ad.add (i * 32 + j)) = some v) (hl : id.length = 32) (hb : Below w.heap.size w W) : Kd.C (Kd.int .u8) W (some (ad.add (i * 32))) id.length id := by
  refine Kd.C_of_reads (d := (0 : Int)) (h1 := fun _ => rfl) ⟨rfl, by omega, fun _ => ⟨_, rfl, fun j hj => ?_⟩⟩
  have h2 := h j (.int .u8 (id.getD j 0)) (by unfold nums; rw [List.getElem?_map, List.getElem?_eq_getElem hj]; simp [List.getD_eq_getElem?_getD, List.getElem?_eq_getElem hj])
  rw [Go.Deep.add_add]
  exact (hb.cell (World.block_lt_of_cell? w _ h2)).trans h2
theorem rput_no (k n o : Int) (hk : -9223372036854775808 ≤ k ∧ k ≤ 9223372036854775807) (p b : List Int) (hp : p.length = 32) (Y : Option Addr) (yl yc : Nat) (hbl : b.length ≤ 9223372036854775807) (hyl : yl ≤ 9223372036854775807) (hc : chk k (accN n o p b.length yl) b.length yl = 1) :
    Calls Tryd.prog 9 #[.agg (ncells k n o p (.string (S b)) (.slice Y yl yc)).toArray] w fun e w' => e = .returned (.tuple #[.string ByteArray.empty, .int .i64 1]) ∧ Below w.heap.size w w' := by
  obtain ⟨cs, hcs⟩ : ∃ cs, cs = (ncells k n o p (.string (S b)) (.slice Y yl yc)).toArray := ⟨_, rfl⟩
  rw [← hcs]
  have HCS := Aside0.mk hcs
  have HF := Aside0.mk (And.intro hk (And.intro hbl (And.intro hyl hc)))
  clear hcs hk hbl hyl hc
  go_enter Tryd.func9, Tryd.ntmps9
  go_wp2_with (first
    | ((with_reducible refine gate_dst (N := 1) rfl ?_); refine box_event ?hg (N := 1) ?hd (cs := cs) (t := 36) ?hr ?_; (case hd => rfl); (case hg => rfl); (case hr => exact exec_box _ _ _ rfl cs rfl); intro gb hgb w1 hbox hb1; have H1 := Aside0.mk (And.intro (show RAt w1 gb k n o p (.string (S b)) (.slice Y yl yc) by rw [HCS.out] at hbox; exact hbox) hb1); clear hbox hb1 hgb)
    | ((with_reducible refine gate_dst (N := 8) rfl ?_); refine Kd.event_run rfl (v := .agg cs) (w1 := w1) ?hr ?_; (case hr => (rw [HCS.out]; exact load_ref H1.out.1 hp (.tmp 1) rfl rfl)))
    | (go_at_call 12; go_loud (obtain ⟨hk, hbl, hyl, hc⟩ := HF.out; have hx := rchk_calls (w := w1) k n o hk p b hp Y yl yc hbl hyl; rw [← HCS.out, hc] at hx; refine hx.mono ?_; clear hx; rintro e w2 ⟨rfl, hb2⟩; have H2 := Aside0.mk (below_step H1.out.2 hb2); clear hb2 hk hbl hyl hc)))
  go_ret2
  exact ⟨rfl, H2.out⟩
theorem rput_ok (k n o : Int) (p b : List Int) (ids : List (List Int)) (hk : -9223372036854775808 ≤ k ∧ k ≤ 9223372036854775807) (hn : 0 ≤ n ∧ n ≤ 18446744073709551615) (ho : 0 ≤ o ∧ o ≤ 18446744073709551615) (hp : p.length = 32) (Y : Option Addr) (yc : Nat) (hY : IdsAt w Y ids)
    (hbl : b.length ≤ 9223372036854775807) (hyl : ids.length ≤ 9223372036854775807) (hc : chk k (accN n o p b.length ids.length) b.length ids.length = 0) :
    Calls Tryd.prog 9 #[.agg (ncells k n o p (.string (S b)) (.slice Y ids.length yc)).toArray] w fun e w' => e = .returned (.tuple #[.string (S (putNum k ++ px (fld k) 1 p ++ px (fld k) 2 (putNum n) ++ px (fld k) 4 (putNum o) ++ px (fld k) 8 (putNum b.length ++ b) ++ px (fld k) 16 (putNum ids.length ++ ids.flatten))), .int .i64 0]) ∧ Below w.heap.size w w' := by
  have hbad : ¬ chkBad k (accN n o p b.length ids.length) b.length ids.length := fun h => by unfold chk at hc; rw [if_pos h] at hc; cases hc
  have hkr : 1 ≤ k ∧ k ≤ 14 := by
    have h : kindOf k = true := by
      cases e : kindOf k
      · exact absurd (.inr (.inl e)) hbad
      · rfl
    unfold kindOf at h
    simpa using h
  have hb1m : (b.length : Int) ≤ 1048576 := by
    have h : ¬ mostOf k < (b.length : Int) := fun h => hbad (.inr (.inr (.inr (.inl h))))
    unfold mostOf at h
    split at h <;> omega
  have hi64 : ids.length ≤ 64 := by
    have h : ¬ 64 < ids.length := fun h => hbad (.inr (.inr (.inr (.inr h))))
    omega
  obtain ⟨cs, hcs⟩ : ∃ cs, cs = (ncells k n o p (.string (S b)) (.slice Y ids.length yc)).toArray := ⟨_, rfl⟩
  rw [← hcs]
  have HCS := Aside0.mk hcs
  have HF := Aside0.mk (And.intro hk (And.intro hbl (And.intro hyl hc)))
  have HB := Aside0.mk (And.intro hY (And.intro hn ho))
  obtain ⟨kk, rfl⟩ : ∃ kk : Nat, k = kk := ⟨k.toNat, by omega⟩
  have hkk1 : 1 ≤ kk := by omega
  have hkk2 : kk ≤ 14 := by omega
  have hwu : IntKind.u64.wrap (kk : Int) = kk := wraps_u64 _ (by omega) (by omega)
  obtain ⟨fk, hfk⟩ : ∃ fk, fk = fld kk := ⟨_, rfl⟩
  rw [← hfk]
  have HFK := Aside0.mk hfk
  clear hcs hk hbl hyl hc hY hn ho hbad hkr hfk
  go_enter Tryd.func9, Tryd.ntmps9
  go_upto_if 19 with (first
    | ((with_reducible refine gate_dst (N := 1) rfl ?_); refine box_event ?hg (N := 1) ?hd (cs := cs) (t := 36) ?hr ?_; (case hd => rfl); (case hg => rfl); (case hr => exact exec_box _ _ _ rfl cs rfl); intro gb hgb w1 hbox hb1; have H1 := Aside0.mk (And.intro (show RAt w1 gb kk n o p (.string (S b)) (.slice Y ids.length yc) by rw [HCS.out] at hbox; exact hbox) hb1); clear hbox hb1 hgb)
    | ((with_reducible refine gate_dst (N := 8) rfl ?_); refine Kd.event_run rfl (v := .agg cs) (w1 := w1) ?hr ?_; (case hr => (rw [HCS.out]; exact load_ref H1.out.1 hp (.tmp 1) rfl rfl)))
    | (go_at_call 12; go_loud (obtain ⟨hk, hbl, hyl, hc⟩ := HF.out; have hx := rchk_calls (w := w1) kk n o hk p b hp Y ids.length yc hbl hyl; rw [← HCS.out, hc] at hx; refine hx.mono ?_; clear hx; rintro e w2 ⟨rfl, hb2⟩; have h2 := H1.out.1.below hb2; obtain ⟨a0, _, _, _, _, _⟩ := h2.cells hp; have H2 := Aside0.mk (And.intro h2 (below_step H1.out.2 hb2)); clear hb2 hk hbl hyl hc h2))
    | (go_at_call 21; go_loud (have hx := ref_put (w := w2) (kk : Int) (by omega) (by omega); refine hx.mono ?_; clear hx; rintro e w3 ⟨rfl, hb3⟩; have H3 := Aside0.mk (And.intro (H2.out.1.below hb3) (below_step H2.out.2 hb3)); clear hb3))
    | (go_at_call 22; go_loud (have hx := r_pack (w := w3) hkk1 hkk2; rw [← HFK.out] at hx; refine hx.mono ?_; clear hx; rintro e w4 ⟨rfl, hb4⟩; have HQ0 := Aside0.mk (And.intro (H3.out.1.below hb4) (below_step H3.out.2 hb4)); clear hb4)))
  clear H1 H2 H3
  have L0 := (putNum_len kk).1
  have L1 : (px fk 1 p).length ≤ 32 := by have := px_len fk 1 p; omega
  have L2 : (px fk 2 (putNum n)).length ≤ 10 := by have := px_len fk 2 (putNum n); have := (putNum_len n).1; omega
  have L3 : (px fk 4 (putNum o)).length ≤ 10 := by have := px_len fk 4 (putNum o); have := (putNum_len o).1; omega
  have L4 : (px fk 8 (putNum b.length ++ b)).length ≤ 1048586 := by have h1 := px_len fk 8 (putNum b.length ++ b); rw [List.length_append] at h1; have h2 := (putNum_len (b.length : Int)).1; omega
  go_cut [6] (fun v6 wc => v6 = .string (S (putNum kk ++ px fk 1 p)) ∧ Aside0 (RAt wc gb kk n o p (.string (S b)) (.slice Y ids.length yc) ∧ Below w.heap.size w wc))
  case first =>
    obtain ⟨a0, a1, a2, a3, a4, a5⟩ := HQ0.out.1.cells hp
    by_cases hc : fbit fk 1 = true
    · rw [hc]
      obtain ⟨s0, hx⟩ : ∃ x, x = S (putNum kk) := ⟨_, rfl⟩
      obtain ⟨y, hy⟩ : ∃ y, y = S (p) := ⟨_, rfl⟩
      have hxs : s0.size ≤ 1048700 := by rw [hx, S_size]; (try simp only [List.length_append]); have := L0; have := L1; have := L2; have := L3; have := L4; omega
      have hys : y.size ≤ 1048700 := by rw [hy, S_size]; (try simp only [List.length_append]); have := (putNum_len n).1; have := (putNum_len o).1; have := (putNum_len (b.length : Int)).1; omega
      have hzz : (9223372036854775807 < s0.size + y.size) = False := eq_false (by omega)
      have HX := Aside0.mk hx
      have HY := Aside0.mk hy
      rw [← hx]
      clear hx hy
      have hcv := conv_row (c := 32) (n := 32) hp.symm (ref_row HQ0.out.1 hp) (Below.refl _ _)
      rw [← HY.out] at hcv
      go_wp2_with (fail)
      go_meet
      case rel => exact ⟨by rw [px_on hc, HX.out, HY.out, S_app], HQ0⟩
    · have hc2 : fbit fk 1 = false := by simpa using hc
      rw [hc2]
      clear hc
      go_wp2
      go_meet
      case rel => exact ⟨by rw [px_off hc2, List.append_nil], HQ0⟩
  case rest =>
    obtain ⟨hv6, HC1⟩ := hcut
    obtain ⟨s1, hs6⟩ : ∃ x, x = S (putNum kk ++ px fk 1 p) := ⟨_, rfl⟩
    rw [← hs6] at hv6
    subst hv6
    have HS1 := Aside0.mk hs6
    clear hs6 HQ0
    go_upto_if 26 with (go_at_call 23; go_loud (have hx := r_number (w := wc) hkk1 hkk2; rw [← HFK.out] at hx; refine hx.mono ?_; clear hx; rintro e w4 ⟨rfl, hb4⟩; have HQ1 := Aside0.mk (And.intro (HC1.out.1.below hb4) (below_step HC1.out.2 hb4)); clear hb4))
    clear HC1
    go_cut [6] (fun v6 wc => v6 = .string (S (putNum kk ++ px fk 1 p ++ px fk 2 (putNum n))) ∧ Aside0 (RAt wc gb kk n o p (.string (S b)) (.slice Y ids.length yc) ∧ Below w.heap.size w wc))
    case first =>
      obtain ⟨a0, a1, a2, a3, a4, a5⟩ := HQ1.out.1.cells hp
      by_cases hc : fbit fk 2 = true
      · rw [hc]
        have hx := HS1.out
        obtain ⟨y, hy⟩ : ∃ y, y = S (putNum n) := ⟨_, rfl⟩
        have hxs : s1.size ≤ 1048700 := by rw [hx, S_size]; (try simp only [List.length_append]); have := L0; have := L1; have := L2; have := L3; have := L4; omega
        have hys : y.size ≤ 1048700 := by rw [hy, S_size]; (try simp only [List.length_append]); have := (putNum_len n).1; have := (putNum_len o).1; have := (putNum_len (b.length : Int)).1; omega
        have hzz : (9223372036854775807 < s1.size + y.size) = False := eq_false (by omega)
        have HX := Aside0.mk hx
        have HY := Aside0.mk hy
        clear hx hy
        go_wp2_with ((go_at_call 21; go_loud (have hx := ref_put (w := w4) n HB.out.2.1.1 (by have := HB.out.2.1.2; omega); rw [← HY.out] at hx; refine hx.mono ?_; clear hx; rintro e w9 ⟨rfl, hb9⟩; have HN := Aside0.mk (And.intro (HQ1.out.1.below hb9) (below_step HQ1.out.2 hb9)); clear hb9)))
        go_meet
        case rel => exact ⟨by rw [px_on hc, HX.out, HY.out, S_app], HN⟩
      · have hc2 : fbit fk 2 = false := by simpa using hc
        rw [hc2]
        clear hc
        go_wp2
        go_meet
        case rel => exact ⟨by rw [px_off hc2, List.append_nil]; exact congrArg Value.string HS1.out, HQ1⟩
    case rest =>
      obtain ⟨hv6, HC2⟩ := hcut
      obtain ⟨s2, hs6⟩ : ∃ x, x = S (putNum kk ++ px fk 1 p ++ px fk 2 (putNum n)) := ⟨_, rfl⟩
      rw [← hs6] at hv6
      subst hv6
      have HS2 := Aside0.mk hs6
      clear hs6 HQ1
      go_upto_if 33 with (go_at_call 24; go_loud (have hx := r_nonce (w := wc) hkk1 hkk2; rw [← HFK.out] at hx; refine hx.mono ?_; clear hx; rintro e w4 ⟨rfl, hb4⟩; have HQ2 := Aside0.mk (And.intro (HC2.out.1.below hb4) (below_step HC2.out.2 hb4)); clear hb4))
      clear HC2
      go_cut [6] (fun v6 wc => v6 = .string (S (putNum kk ++ px fk 1 p ++ px fk 2 (putNum n) ++ px fk 4 (putNum o))) ∧ Aside0 (RAt wc gb kk n o p (.string (S b)) (.slice Y ids.length yc) ∧ Below w.heap.size w wc))
      case first =>
        obtain ⟨a0, a1, a2, a3, a4, a5⟩ := HQ2.out.1.cells hp
        by_cases hc : fbit fk 4 = true
        · rw [hc]
          have hx := HS2.out
          obtain ⟨y, hy⟩ : ∃ y, y = S (putNum o) := ⟨_, rfl⟩
          have hxs : s2.size ≤ 1048700 := by rw [hx, S_size]; (try simp only [List.length_append]); have := L0; have := L1; have := L2; have := L3; have := L4; omega
          have hys : y.size ≤ 1048700 := by rw [hy, S_size]; (try simp only [List.length_append]); have := (putNum_len n).1; have := (putNum_len o).1; have := (putNum_len (b.length : Int)).1; omega
          have hzz : (9223372036854775807 < s2.size + y.size) = False := eq_false (by omega)
          have HX := Aside0.mk hx
          have HY := Aside0.mk hy
          clear hx hy
          go_wp2_with ((go_at_call 21; go_loud (have hx := ref_put (w := w4) o HB.out.2.2.1 (by have := HB.out.2.2.2; omega); rw [← HY.out] at hx; refine hx.mono ?_; clear hx; rintro e w9 ⟨rfl, hb9⟩; have HN := Aside0.mk (And.intro (HQ2.out.1.below hb9) (below_step HQ2.out.2 hb9)); clear hb9)))
          go_meet
          case rel => exact ⟨by rw [px_on hc, HX.out, HY.out, S_app], HN⟩
        · have hc2 : fbit fk 4 = false := by simpa using hc
          rw [hc2]
          clear hc
          go_wp2
          go_meet
          case rel => exact ⟨by rw [px_off hc2, List.append_nil]; exact congrArg Value.string HS2.out, HQ2⟩
      case rest =>
        obtain ⟨hv6, HC3⟩ := hcut
        obtain ⟨s3, hs6⟩ : ∃ x, x = S (putNum kk ++ px fk 1 p ++ px fk 2 (putNum n) ++ px fk 4 (putNum o)) := ⟨_, rfl⟩
        rw [← hs6] at hv6
        subst hv6
        have HS3 := Aside0.mk hs6
        clear hs6 HQ2
        go_upto_if 40 with (go_at_call 25; go_loud (have hx := r_bytes (w := wc) hkk1 hkk2; rw [← HFK.out] at hx; refine hx.mono ?_; clear hx; rintro e w4 ⟨rfl, hb4⟩; have HQ3 := Aside0.mk (And.intro (HC3.out.1.below hb4) (below_step HC3.out.2 hb4)); clear hb4))
        clear HC3
        go_cut [6] (fun v6 wc => v6 = .string (S (putNum kk ++ px fk 1 p ++ px fk 2 (putNum n) ++ px fk 4 (putNum o) ++ px fk 8 (putNum b.length ++ b))) ∧ Aside0 (RAt wc gb kk n o p (.string (S b)) (.slice Y ids.length yc) ∧ Below w.heap.size w wc))
        case first =>
          obtain ⟨a0, a1, a2, a3, a4, a5⟩ := HQ3.out.1.cells hp
          by_cases hc : fbit fk 8 = true
          · rw [hc]
            have hx := HS3.out
            obtain ⟨y, hy⟩ : ∃ y, y = S (putNum b.length ++ b) := ⟨_, rfl⟩
            have hxs : s3.size ≤ 1048700 := by rw [hx, S_size]; (try simp only [List.length_append]); have := L0; have := L1; have := L2; have := L3; have := L4; omega
            have hys : y.size ≤ 1048700 := by rw [hy, S_size]; (try simp only [List.length_append]); have := (putNum_len n).1; have := (putNum_len o).1; have := (putNum_len (b.length : Int)).1; omega
            have hzz : (9223372036854775807 < s3.size + y.size) = False := eq_false (by omega)
            have HX := Aside0.mk hx
            have HY := Aside0.mk hy
            clear hx hy
            go_wp2_with ((go_at_call 26; go_loud (have hx := ref_with (w := w4) b (by omega); rw [← HY.out] at hx; refine hx.mono ?_; clear hx; rintro e w9 ⟨rfl, hb9⟩; have HN := Aside0.mk (And.intro (HQ3.out.1.below hb9) (below_step HQ3.out.2 hb9)); clear hb9)))
            go_meet
            case rel => exact ⟨by rw [px_on hc, HX.out, HY.out, S_app], HN⟩
          · have hc2 : fbit fk 8 = false := by simpa using hc
            rw [hc2]
            clear hc
            go_wp2
            go_meet
            case rel => exact ⟨by rw [px_off hc2, List.append_nil]; exact congrArg Value.string HS3.out, HQ3⟩
        case rest =>
          obtain ⟨hv6, HC4⟩ := hcut
          obtain ⟨s4, hs6⟩ : ∃ x, x = S (putNum kk ++ px fk 1 p ++ px fk 2 (putNum n) ++ px fk 4 (putNum o) ++ px fk 8 (putNum b.length ++ b)) := ⟨_, rfl⟩
          rw [← hs6] at hv6
          subst hv6
          have HS4 := Aside0.mk hs6
          clear hs6 HQ3
          go_upto_if 47 with (go_at_call 27; go_loud (have hx := r_way (w := wc) hkk1 hkk2; rw [← HFK.out] at hx; refine hx.mono ?_; clear hx; rintro e w4 ⟨rfl, hb4⟩; have HQ4 := Aside0.mk (And.intro (HC4.out.1.below hb4) (below_step HC4.out.2 hb4)); clear hb4))
          clear HC4
          go_cut [6] (fun v6 wc => v6 = .string (S (putNum kk ++ px fk 1 p ++ px fk 2 (putNum n) ++ px fk 4 (putNum o) ++ px fk 8 (putNum b.length ++ b) ++ px fk 16 (putNum ids.length ++ ids.flatten))) ∧ Aside0 (RAt wc gb kk n o p (.string (S b)) (.slice Y ids.length yc) ∧ Below w.heap.size w wc))
          case first =>
            obtain ⟨a0, a1, a2, a3, a4, a5⟩ := HQ4.out.1.cells hp
            by_cases hc : fbit fk 16 = true
            · rw [hc]
              have hx := HS4.out
              obtain ⟨y, hy⟩ : ∃ y, y = S (putNum ids.length) := ⟨_, rfl⟩
              have hxs : s4.size ≤ 1048700 := by rw [hx, S_size]; simp only [List.length_append]; have := L0; have := L1; have := L2; have := L3; have := L4; omega
              have hys : y.size ≤ 10 := by rw [hy, S_size]; exact (putNum_len ids.length).1
              have hzz : (9223372036854775807 < s4.size + y.size) = False := eq_false (by omega)
              have hwy : IntKind.u64.wrap (ids.length : Int) = ids.length := wraps_u64 _ (by omega) (by omega)
              have HX := Aside0.mk hx
              have HY := Aside0.mk hy
              clear hx hy
              go_wp2_with (go_at_call 21; go_loud (have hx := ref_put (w := w4) (ids.length : Int) (by omega) (by omega); rw [← HY.out] at hx; refine hx.mono ?_; clear hx; rintro e w9 ⟨rfl, hb9⟩; have HN := Aside0.mk (And.intro (HQ4.out.1.below hb9) (below_step HQ4.out.2 hb9)); clear hb9))
              have hs0 : s4 ++ y = S ((putNum kk ++ px fk 1 p ++ px fk 2 (putNum n) ++ px fk 4 (putNum o) ++ px fk 8 (putNum b.length ++ b)) ++ putNum ids.length ++ (ids.take 0).flatten) := by rw [HX.out, HY.out, S_app, List.take_zero, List.flatten_nil, List.append_nil]
              rw [hs0]
              clear hs0 hzz hxs hys HX HY a0 a1 a2 a3 a4 a5
              go_loopg [6, 7] ids.length (fun q v6 v7 wr => ∃ i : Nat, v7 = .int .i64 i ∧ v6 = .string (S ((putNum kk ++ px fk 1 p ++ px fk 2 (putNum n) ++ px fk 4 (putNum o) ++ px fk 8 (putNum b.length ++ b)) ++ putNum ids.length ++ (ids.take i).flatten)) ∧ q + i = ids.length ∧ Aside0 (RAt wr gb kk n o p (.string (S b)) (.slice Y ids.length yc) ∧ Below w.heap.size w wr))
              case atStart => exact ⟨0, rfl, rfl, by omega, HN⟩
              case round =>
                clear HN
                obtain ⟨i, rfl, hv6, hq, hI⟩ := hrel
                obtain ⟨s5, hs5⟩ : ∃ x, x = S ((putNum kk ++ px fk 1 p ++ px fk 2 (putNum n) ++ px fk 4 (putNum o) ++ px fk 8 (putNum b.length ++ b)) ++ putNum ids.length ++ (ids.take i).flatten) := ⟨_, rfl⟩
                rw [← hs5] at hv6
                subst hv6
                obtain ⟨a0, a1, a2, a3, a4, a5⟩ := hI.out.1.cells hp
                by_cases hlt : i < ids.length
                · have d2 : decide ((i : Int) < (ids.length : Int)) = true := decide_eq_true (by omega)
                  have d2n : decide (i < ids.length) = true := decide_eq_true (by omega)
                  have hL := (flat_len (fun j hj => (HB.out.1 j hj).1) i (by omega))
                  obtain ⟨hl32, hbi, ad, hYe, hcell⟩ := HB.out.1 i hlt
                  subst hYe
                  obtain ⟨id, hid⟩ : ∃ id, id = ids.getD i [] := ⟨_, rfl⟩
                  rw [← hid] at hl32 hbi hcell
                  obtain ⟨y, hy⟩ : ∃ y, y = S id := ⟨_, rfl⟩
                  have hxs : s5.size ≤ 1060000 := by rw [hs5, S_size]; simp only [List.length_append]; have := L0; have := L1; have := L2; have := L3; have := L4; have := (putNum_len (ids.length : Int)).1; omega
                  have hys : y.size = 32 := by rw [hy, S_size]; exact hl32
                  have hzz : (9223372036854775807 < s5.size + y.size) = False := eq_false (by omega)
                  have hzz2 : (9223372036854775807 < s5.size + 32) = False := eq_false (by omega)
                  have hcv := conv_row (c := 32) (n := 32) hl32.symm (ids_row hcell hl32 hI.out.2) (Below.refl _ _)
                  rw [← hy] at hcv
                  have HH := Aside0.mk (And.intro hid (And.intro hy hs5))
                  clear hL hl32 hbi hcell hid hy hs5 hxs
                  go_wp2
                  go_roundg (ids.length - (i + 1))
                  case measure => omega
                  case rel =>
                    obtain ⟨hid, hy, hs5⟩ := HH.out
                    exact ⟨i + 1, by go_num, by rw [hs5, hy, hid, S_app, flat_snoc hlt, ← List.append_assoc], by omega, hI⟩
                · have d2 : decide ((i : Int) < (ids.length : Int)) = false := decide_eq_false (by omega)
                  have d2n : decide (i < ids.length) = false := decide_eq_false (by omega)
                  have HH := Aside0.mk hs5
                  clear hs5
                  go_wp2
                  go_meet
                  case rel => exact ⟨by rw [HH.out, px_on hc, List.take_of_length_le (by omega), ← List.append_assoc], hI⟩
            · have hc2 : fbit fk 16 = false := by simpa using hc
              rw [hc2]
              clear hc
              go_wp2
              go_meet
              case rel => exact ⟨by rw [px_off hc2, List.append_nil]; exact congrArg Value.string HS4.out, HQ4⟩
          case rest =>
            obtain ⟨hv6, HC5⟩ := hcut
            obtain ⟨s5, hs6⟩ : ∃ x, x = S (putNum kk ++ px fk 1 p ++ px fk 2 (putNum n) ++ px fk 4 (putNum o) ++ px fk 8 (putNum b.length ++ b) ++ px fk 16 (putNum ids.length ++ ids.flatten)) := ⟨_, rfl⟩
            rw [← hs6] at hv6
            subst hv6
            have HS5 := Aside0.mk hs6
            clear hs6 HQ4
            go_wp2
            go_ret2
            exact ⟨by rw [← HS5.out]; rfl, HC5.out.2⟩
end
end Go.Proofs.YtlcanfniphdelaaDoor.Not
