/- The law CodecMany. -/
import Derived.Test.YtlcanfniphdelaaCodP
namespace Go.Proofs.Ytlcanfniphdelaa.Cod
open Go.RowKit Go.Proofs.YtlcanfniphdelaaW.PrintWords Go.Proofs.YtlcanfniphdelaaW.PrintLast Go.Proofs.YtlcanfniphdelaaW.PrintMore Go.Proofs.Ytlcanfniphdelaa.Mem Go.Proofs.Ytlcanfniphdelaa.PCod Go.Proofs.Ytlcanfniphdelaa.Conv
set_option linter.unusedVariables false
set_option linter.unusedSimpArgs false
section
variable {w : World} {R : RM} {b r xs : List Int}
theorem info_int : (Try.prog.info? 3).map (fun i => (i.zero, i.size, i.bytes)) = some (some (.int .i64 0), 1, 8) := by kernel_rfl
def endsOf (l : List Int) (i : Nat) : List Int := (List.range i).map fun j => ((putAll (l.take (j + 1))).length : Int)
theorem endsOf_len (l : List Int) (i : Nat) : (endsOf l i).length = i := by simp [endsOf]
theorem endsOf_snoc (l : List Int) (i : Nat) : endsOf l (i + 1) = endsOf l i ++ [((putAll (l.take (i + 1))).length : Int)] := by simp [endsOf, List.range_succ]
theorem endsOf_at (l : List Int) (n i : Nat) (h : i < n) : rd (endsOf l n) i = ((putAll (l.take (i + 1))).length : Int) := by
  show (endsOf l n).getD ((i : Int)).toNat 0 = _
  rw [Int.toNat_natCast, List.getD_eq_getElem?_getD]
  unfold endsOf
  rw [List.getElem?_map, List.getElem?_range h]
  rfl
set_option maxHeartbeats 4000000 in
set_option maxRecDepth 100000 in
theorem many_law (A : Option Addr) (n c : Nat) (l : List Int) (at_ : Int) (ha0 : 0 ≤ at_) (ha1 : at_ ≤ 65535) (hn : n = l.length) (hr : Kd.C (Kd.int .u64) w A l.length l) (hc : n ≤ c) (hl : n < 140737488355328) (hb : ∀ y ∈ l, 0 ≤ y ∧ y < 18446744073709551616) :
    Calls Try.prog 5 #[.slice A n c, .int .u16 at_] w fun e w' => e = .returned (.bool true) ∧ Below w.heap.size w w' := by
  by_cases h40 : n > 40
  · have d1 : decide (40 < (n : Int)) = true := decide_eq_true (by omega)
    clear hr hc hl hb hn
    go_enter Try.func5, Try.ntmps5
    go_wp2_with (go_at_call 9; go_loud (refine awake_calls.mono ?_; rintro e w1 ⟨rfl, hb1⟩; have HB1 := Aside0.mk hb1; clear hb1))
    go_ret
    exact ⟨rfl, HB1.out⟩
  · have d1 : decide (40 < (n : Int)) = false := decide_eq_false (by omega)
    have n40 : n ≤ 40 := by omega
    have HX := Aside0.mk (And.intro hr (And.intro hc (And.intro hl (And.intro hb hn))))
    clear hr hc hl hb hn h40
    go_enter Try.func5, Try.ntmps5
    go_wp2_with (first
      | (go_at_call 9; go_loud (refine awake_calls.mono ?_; rintro e w1 ⟨rfl, hb1⟩; have H1 := Aside0.mk hb1; clear hb1))
      | (go_at_call 10; go_loud (refine (newWriter_calls (w := w1)).mono ?_; rintro e w2 ⟨rfl, hd2, hb2⟩; have H2 := Aside0.mk (And.intro hd2 (below_step H1.out hb2)); clear hd2 hb2)))
    go_loopg [7, 8] n (fun q v7 v8 wr => ∃ (i : Nat) (F E : Nat → Prop) (A7 : Option Addr) (c7 : Nat), v8 = .int .i64 i ∧ v7 = .slice A7 i c7 ∧ q + i = n ∧ Aside0 (WrAt wr w1.heap.size F w1.heap.size (putAll (l.take i)) ∧ (∀ k, F k → k < wr.heap.size) ∧ Kd.R (Kd.int .i64) 3 wr w1.heap.size E (.slice A7 i c7) (endsOf l i) ∧ (∀ k, E k → ¬ F k) ∧ Below w.heap.size w wr))
    case atStart => exact ⟨0, Span w1 w2, (fun _ => False), none, 0, rfl, rfl, by omega, ⟨H2.out.1, fun k h => h.2, Kd.R_nil _ _ _ _ _, fun _ h => h.elim, H2.out.2⟩⟩
    case round =>
      clear H2
      obtain ⟨i, F, E, A7, c7, rfl, rfl, hq, hI⟩ := hrel
      by_cases hlt : i < n
      · obtain ⟨hW, hFb, hR, hEF, hbw⟩ := hI.out
        obtain ⟨hr, hc, hl, hb, hn⟩ := HX.out
        have hil : i < l.length := by omega
        have hy : 0 ≤ l.getD i 0 ∧ l.getD i 0 < 18446744073709551616 := hb _ (by rw [List.getD_eq_getElem?_getD, List.getElem?_eq_getElem hil]; exact List.getElem_mem hil)
        obtain ⟨ad, rfl, hcell0⟩ := Kd.at_int (Kd.C_below hr hbw) (i : Int) (by omega) (by omega)
        have hcell : wr.cell? (ad.add i) = some (.int .u64 (l.getD i 0)) := hcell0
        have hs := take_snoc hil
        have hpl := putAll_len (l.take (i + 1))
        have hpl2 : (l.take (i + 1)).length ≤ 41 := by rw [List.length_take]; omega
        have hpl0 : (putAll (l.take i)).length ≤ 410 := by
          have h1 := putAll_len (l.take i)
          have h2 : (l.take i).length ≤ 41 := by rw [List.length_take]; omega
          omega
        have hwu := wuint_calls hbw (below_size H1.out) hW (l.getD i 0) hy.1 hy.2 (by omega)
        rw [← putAll_snoc, ← hs] at hwu
        have HU := Aside0.mk hwu
        have HI := Aside0.mk (And.intro hFb (And.intro hR (And.intro hEF hbw)))
        obtain ⟨m, hm⟩ : ∃ m : Nat, m = (putAll (l.take (i + 1))).length := ⟨_, rfl⟩
        have HM := Aside0.mk hm
        have hm410 : m ≤ 410 := by omega
        obtain ⟨y, hyy⟩ : ∃ y, y = l.getD i 0 := ⟨_, rfl⟩
        rw [← hyy] at HU hcell
        clear hI hW hFb hR hEF hbw hr hc hl hb hn hy hcell0 hs hpl hpl2 hpl0 hwu hm hyy hil
        go_wp2_with (first
          | (go_at_call 11; go_loud (refine HU.out.mono ?_; rintro e w3 ⟨rfl, hd3, hb3, hk3⟩; have H3 := Aside0.mk (And.intro hd3 (And.intro hb3 hk3)); clear hd3 hb3 hk3 HU))
          | (go_at_call 17; go_loud (refine (wout_calls H3.out.1).mono ?_; rintro e w4 ⟨v4, rfl, hv4, hb4⟩; obtain ⟨A4, c4, rfl, _, _⟩ := Kd.R_reads hv4; rw [← HM.out]; have H4 := Aside0.mk hb4; clear hv4 hb4))
          | ((with_reducible refine gate_builtin (b := .append) (xs := #[.tmp 33, .tmp 37]) rfl ?_); at_builtin; go_loud (obtain ⟨hFb, hR, hEF, hbw⟩ := HI.out; obtain ⟨hd3, hb3, hk3⟩ := H3.out; have hR4 := Kd.R_below (Kd.R_kept (Kd.R_bound hR) hk3 (fun k hk => hEF k hk.1)) H4.out; refine Kd.R_append (Kd.int .i64) (w0 := w4) w1.heap.size rfl (.tmp 33) (.tmp 37) 46 3 (.int .i64 0) 8 rfl Try.underlying46 info_int rfl (by decide) (by decide) (.slice A7 i c7) (endsOf l i) (m : Int) [.int .i64 (m : Int)] (fun k => (E k ∧ k < wr.heap.size) ∨ w4.heap.size ≤ k) (fun _ => False) rfl rfl rfl (fun _ hk => hk.elim) (fun _ hk => .inr hk) (Kd.R_mono hR4 (fun k hk => .inl ⟨hk.1, hk.2.2.1⟩)) (Below.refl _ _) ?aS (by rw [endsOf_len]; omega) ?_; (case aS => have h1 := below_size H1.out; have h2 := hk3.1; have h3 := H4.out.size; have h4 : w1.heap.size < w3.heap.size := (by obtain ⟨_, _, _, h, _⟩ := hd3; exact blk_lt h); omega); intro v5 w5 ho5 hb5 hg5 hat5; obtain ⟨A5, c5, rfl, _, _⟩ := Kd.R_reads ho5; have H5 := Aside0.mk (And.intro ho5 (And.intro hb5 hg5)); clear hat5 ho5 hb5 hg5 hR4 hFb hR hEF hbw hd3 hb3 hk3)))
        go_roundg (n - (i + 1))
        case measure => omega
        case rel =>
          obtain ⟨ho5, hb5, hg5⟩ := H5.out
          obtain ⟨hFb, hR, hEF, hbw⟩ := HI.out
          obtain ⟨hd3, hb3, hk3⟩ := H3.out
          have hle : wr.heap.size ≤ w4.heap.size := Nat.le_trans hk3.1 H4.out.size
          refine ⟨i + 1, fun k => Or F wr k ∧ k < w4.heap.size, fun k => (E k ∧ k < wr.heap.size) ∨ w4.heap.size ≤ k, A5, c5, by go_num, by rw [endsOf_len], by omega, ⟨?_, fun k hk => Nat.lt_of_lt_of_le hk.2 hg5.size, ?_, ?_, ?_⟩⟩
          · have hd4 : WrAt w4 w1.heap.size (fun k => Or F wr k ∧ k < w4.heap.size) w1.heap.size (putAll (l.take (i + 1))) := (hd3.below H4.out).cut.mono (fun k hk => ⟨hk.1, hk.2.2⟩)
            refine hd4.kept (S := fun k => (Value.slice A7 i c7).ownBlock = some k) (Kept.of_grown hg5 (Kept.refl w4 _) (fun k e => .inl e)) (fun k hk e => ?_)
            have h1 := (Kd.R_bound hR).1 k e
            rcases hk.1 with h2 | h2
            · exact hEF k h1.1 h2
            · have := h1.2.2.1; omega
          · rw [endsOf_snoc, ← HM.out]
            have h := ho5
            rw [List.length_append, endsOf_len] at h
            exact h
          · intro k hk hf
            rcases hk with ⟨h1, h2⟩ | h1
            · rcases hf.1 with h3 | h3
              · exact hEF k h1 h3
              · omega
            · have := hf.2; omega
          · exact (below_step hb3 H4.out).trans (hb5.mono (below_size H1.out))
      · obtain ⟨hW, hFb, hR, hEF, hbw⟩ := hI.out
        obtain ⟨hr, hc, hl, hb, hn⟩ := HX.out
        have hin : i = n := by omega
        have htk : l.take i = l := List.take_of_length_le (by omega)
        rw [htk] at hW
        have hbyt : Byt (putAll l) := putAll_byt hb
        have hpl := putAll_len l
        obtain ⟨m, hm⟩ : ∃ m : Nat, m = (putAll l).length := ⟨_, rfl⟩
        have hm400 : m ≤ 400 := by omega
        obtain ⟨k, hk⟩ : ∃ k : Nat, (k : Int) = at_ % ((m : Int) + 1) := ⟨(at_ % ((m : Int) + 1)).toNat, by have := Int.emod_nonneg at_ (b := (m : Int) + 1) (by omega); omega⟩
        have hkm : k ≤ m := by have := Int.emod_lt_of_pos at_ (b := (m : Int) + 1) (by omega); omega
        have hke : at_ % ((m : Int) + 1) = (k : Int) := hk.symm
        have hu16 : wrap64 at_ = at_ := w64_small (by omega) (by omega)
        have hnz : ((m : Int) + 1 = 0) = False := eq_false (by omega)
        have HI := Aside0.mk (And.intro hW (And.intro hR (And.intro hEF (And.intro hbw (And.intro hbyt hin)))))
        have HM := Aside0.mk hm
        clear hI hW hFb hR hEF hbw hr hc hl hb hn htk hbyt hpl hm hk hin
        go_wp2_with (first
          | (go_at_call 17; go_loud (refine (wout_calls HI.out.1).mono ?_; rintro e w4 ⟨v4, rfl, hv4, hb4⟩; obtain ⟨A4, c4, rfl, hc4, _⟩ := Kd.R_reads hv4; rw [← HM.out] at hc4 ⊢; have H4 := Aside0.mk (And.intro hv4 hb4); clear hv4 hb4))
          | (go_at_call 18; go_loud (have hC := Kd.C_take (m := k) (Kd.R_reads' H4.out.1).2.2 (by have := HM.out; omega); have hlk : ((putAll l).take k).length = k := (by rw [List.length_take]; have := HM.out; omega); have hx := newReader_calls (xs := (putAll l).take k) A4 c4 hC (by omega) (by omega) (fun x hx => HI.out.2.2.2.2.1 x (List.mem_of_mem_take hx)); rw [hlk, ← rest_0] at hx; refine hx.mono ?_; rintro e w5 ⟨g, rfl, hd5, hb5⟩; have H5 := Aside0.mk (And.intro hd5 hb5); clear hd5 hb5 hx hlk hC)))
        have HW4 := Aside0.mk (below_step HI.out.2.2.2.1 H4.out.2)
        have hn := HX.out.2.2.2.2
        have hin := HI.out.2.2.2.2.2
        have hR4 := Kd.R_below HI.out.2.1 H4.out.2
        rw [hin] at hR4
        have HE := Aside0.mk hR4
        have HB := Aside0.mk HX.out.2.2.2.1
        have hCl := Kd.C_below HX.out.1 HW4.out
        have HC := Aside0.mk hCl
        have HN := Aside0.mk hn
        clear hn hR4 hCl H4 HX HI hq hin
        go_loopg [12, 13] n (fun q v12 v13 wr => ∃ j : Nat, v12 = .int .i64 j ∧ q + j = n ∧ Aside0 ((putAll (l.take j)).length ≤ k ∧ RdAt wr (Span w4 w5) g ⟨restOf l k j, 0⟩ ∧ Below w4.heap.size w4 wr))
        case atStart => exact ⟨0, rfl, by omega, ⟨by simp [putAll], H5.out⟩⟩
        case round =>
          clear H5
          obtain ⟨j, rfl, hq, hI⟩ := hrel
          obtain ⟨hjk, hd, hbw⟩ := hI.out
          by_cases hlt : j < n
          · have hjl : j < l.length := by have := HN.out; omega
            have hux := uint_any hbw (fun k h => h.1) hd
            obtain ⟨ad, rfl, hcell0⟩ := Kd.at_int (Kd.C_below HC.out hbw) (j : Int) (by omega) (by omega)
            clear hcell0
            obtain ⟨b7, rfl, hcellE⟩ := Kd.at_int (Kd.R_reads' (Kd.R_below HE.out hbw)).2.2 (j : Int) (by omega) (by rw [endsOf_len]; omega)
            clear hcellE
            obtain ⟨m2, hm2⟩ : ∃ m2 : Nat, m2 = (putAll (l.take (j + 1))).length := ⟨_, rfl⟩
            obtain ⟨y, hyy⟩ : ∃ y, y = l.getD j 0 := ⟨_, rfl⟩
            have hcells : ∀ W, Below w4.heap.size w4 W → W.cell? (ad.add j) = some (.int .u64 y) ∧ W.cell? (b7.add j) = some (.int .i64 m2) := by
              intro W hW
              obtain ⟨_, e1, h1⟩ := Kd.at_int (Kd.C_below HC.out hW) (j : Int) (by omega) (by omega)
              cases e1
              obtain ⟨_, e2, h2⟩ := Kd.at_int (Kd.R_reads' (Kd.R_below HE.out hW)).2.2 (j : Int) (by omega) (by rw [endsOf_len]; omega)
              cases e2
              rw [endsOf_at l n j hlt, ← hm2] at h2
              rw [hyy]
              exact ⟨h1, h2⟩
            have HCE := Aside0.mk hcells
            by_cases hfit : m2 ≤ k
            · rw [rest_whole hjl HB.out (by omega), ← hyy] at hux
              have HU := Aside0.mk hux
              have HJ := Aside0.mk (show (putAll (l.take (j + 1))).length ≤ k by omega)
              have d5 : decide ((m2 : Int) ≤ (k : Int)) = true := decide_eq_true (by omega)
              have d6 : (y != y) = false := by simp
              clear hux hcells hI hjk hd hbw hm2 hyy hjl
              go_wp2_with (first
                | (go_at_call 19; go_loud (refine HU.out.mono ?_; rintro e w6 ⟨rfl, hd6, hb6, _⟩; have hc6 := HCE.out w6 hb6; have c61 := hc6.1; have c62 := hc6.2; have H6 := Aside0.mk (And.intro hd6 hb6); clear hd6 hb6 hc6))
                | (go_at_call 24; go_loud (have hx := err_calls H6.out.1; refine hx.mono ?_; clear hx; rintro e w7 ⟨rfl, rfl⟩)))
              go_roundg (n - (j + 1))
              case measure => omega
              case rel => exact ⟨j + 1, by go_num, by omega, ⟨HJ.out, H6.out⟩⟩
            · rw [rest_cut hjl HB.out hjk (by omega)] at hux
              have HU := Aside0.mk hux
              have d5 : decide ((m2 : Int) ≤ (k : Int)) = false := decide_eq_false (by omega)
              have he := RM.end_e (R := ⟨[], 10⟩) (by show (10 : Int) ≠ 0; omega)
              have HEE := Aside0.mk he
              clear hux hcells hI hjk hd hbw hm2 hyy hjl he
              go_wp2_with (first
                | (go_at_call 19; go_loud (refine HU.out.mono ?_; rintro e w6 ⟨rfl, hd6, hb6, _⟩; have hc6 := HCE.out w6 hb6; have c61 := hc6.1; have c62 := hc6.2; have H6 := Aside0.mk (And.intro hd6 hb6); clear hd6 hb6 hc6))
                | (go_at_call 24; go_loud (have hx := err_calls H6.out.1; refine hx.mono ?_; clear hx; rintro e w7 ⟨rfl, rfl⟩))
                | (go_at_call 23; go_loud (have hx := end_calls H6.out.1; rw [HEE.out] at hx; refine hx.mono ?_; clear hx; rintro e w8 ⟨rfl, rfl⟩)))
              go_ret
              exact ⟨rfl, HW4.out.trans (H6.out.2.mono (below_size HW4.out))⟩
          · have hend : (⟨restOf l k j, 0⟩ : RM).end_ = 0 := by rw [show j = l.length by have := HN.out; omega, rest_end, RM.end_0 rfl, if_pos rfl]
            have HQ := Aside0.mk (And.intro hd (And.intro hbw hend))
            clear hI hjk hd hbw hend
            go_wp2_with (go_at_call 23; go_loud (have hx := end_calls HQ.out.1; rw [HQ.out.2.2] at hx; refine hx.mono ?_; clear hx; rintro e w6 ⟨rfl, rfl⟩))
            go_ret
            exact ⟨rfl, HW4.out.trans (HQ.out.2.1.mono (below_size HW4.out))⟩
def InRow64 (w : World) (a : Option Addr) (len cap : Nat) (zs : List Int) : Prop :=
  (a = none ∧ len = 0 ∧ cap = 0 ∧ zs = []) ∨
  ∃ x, a = some x ∧ len ≤ cap ∧ cap ≤ maxLen ∧ zs.length = cap ∧ (∀ i, i < zs.length → w.cell? (x.add i) = some (.int .u64 (zs.getD i 0))) ∧ ∀ n ∈ zs, (Lit.int .u64 n).wf = true
theorem many_row {a : Option Addr} {len cap : Nat} {zs : List Int} (h : InRow64 w a len cap zs) (hl : len * 8 ≤ 140737488351232) {x : Int} (hx : (Lit.int .u16 x).wf = true) : Calls Try.prog 5 #[.slice a len cap, .int .u16 x] w fun e w' => e = .returned (.bool true) ∧ Below w.heap.size w w' := by
  obtain ⟨l0, rfl, hr0, hm0, hw0, hc0⟩ := ReadsInt.ofRowC h
  have h6 : 0 ≤ x ∧ x ≤ 65535 := by simpa [Lit.wf, IntKind.min, IntKind.max, IntKind.signed, IntKind.bits] using hx
  refine many_law a _ cap l0 x h6.1 h6.2 rfl (Kd.C_of_reads (d := (0 : Int)) (h1 := fun _ => rfl) hr0) hc0 (by omega) (fun y hy => ?_)
  have h7 : 0 ≤ y ∧ y ≤ 18446744073709551615 := by simpa [Lit.wf, IntKind.min, IntKind.max, IntKind.signed, IntKind.bits] using hw0 y hy
  omega
end
end Go.Proofs.Ytlcanfniphdelaa.Cod
