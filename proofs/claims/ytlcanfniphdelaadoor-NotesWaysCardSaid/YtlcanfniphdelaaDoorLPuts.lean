/- The walk of NotesPuts. -/
import Derived.Test.YtlcanfniphdelaaDoorLGets
namespace Go.Proofs.YtlcanfniphdelaaDoor.Not
open Go.RowKit Go.Maps Go.Proofs.YtlcanfniphdelaaDoorW.PrintWords Go.Proofs.YtlcanfniphdelaaDoorW.PrintLast Go.Proofs.YtlcanfniphdelaaDoorW.PrintMore Go.Proofs.YtlcanfniphdelaaDoor.Mem Go.Proofs.YtlcanfniphdelaaDoor.Cod Go.Proofs.YtlcanfniphdelaaDoor.Ins Go.Proofs.YtlcanfniphdelaaDoor.Open Go.Proofs.YtlcanfniphdelaaDoor.PCod
set_option linter.unusedVariables false
set_option linter.unusedSimpArgs false
set_option maxRecDepth 8000
set_option maxHeartbeats 8000000
theorem flat_byt {ids : List (List Int)} (h : ∀ i, i < ids.length → Byt (ids.getD i [])) : Byt ids.flatten := by
  intro x hx
  obtain ⟨l, hl, hx⟩ := List.mem_flatten.1 hx
  obtain ⟨i, hi, rfl⟩ := List.mem_iff_getElem.1 hl
  have h1 := h i hi
  rw [List.getD_eq_getElem?_getD, List.getElem?_eq_getElem hi] at h1
  exact h1 x hx
theorem px_byt {f m : Int} {xs : List Int} (h : Byt xs) : Byt (px f m xs) := by unfold px; split; exact h; intro x hx; cases hx
theorem byt_app {a b : List Int} (ha : Byt a) (hb : Byt b) : Byt (a ++ b) := fun x hx => by
  rcases List.mem_append.1 hx with h | h
  · exact ha x h
  · exact hb x h
theorem putM_byt {g : GM} (hk : 0 ≤ g.k ∧ g.k ≤ 14) (hn : 0 ≤ g.n ∧ g.n ≤ 18446744073709551615) (ho : 0 ≤ g.o ∧ g.o ≤ 18446744073709551615) (hp : Byt g.p) (hb : Byt g.b) (hbl : g.b.length ≤ 1048576) (hi : ∀ i, i < g.ids.length → (g.ids.getD i []).length = 32 ∧ Byt (g.ids.getD i [])) (hil : g.ids.length ≤ 64) : Byt (putM g) := by
  unfold putM
  refine byt_app (byt_app (byt_app (byt_app (byt_app (putNum_byt hk.1 (by omega)) (px_byt hp)) (px_byt (putNum_byt hn.1 (by omega)))) (px_byt (putNum_byt ho.1 (by omega)))) (px_byt (byt_app (putNum_byt (by omega) (by omega)) hb))) (px_byt (byt_app (putNum_byt (by omega) (by omega)) (flat_byt fun i h => (hi i h).2)))
theorem putM_len {g : GM} (hp : g.p.length = 32) (hbl : g.b.length ≤ 1048576) (hi : ∀ i, i < g.ids.length → (g.ids.getD i []).length = 32) (hil : g.ids.length ≤ 64) : (putM g).length < 2000000 := by
  have hf := flat_len hi g.ids.length (Nat.le_refl _)
  rw [List.take_of_length_le (Nat.le_refl _)] at hf
  have l0 := (putNum_len g.k).1
  have l1 := px_len (fld g.k) 1 g.p
  have l2 := px_len (fld g.k) 2 (putNum g.n)
  have l3 := px_len (fld g.k) 4 (putNum g.o)
  have l4 := px_len (fld g.k) 8 (putNum g.b.length ++ g.b)
  have l5 := px_len (fld g.k) 16 (putNum g.ids.length ++ g.ids.flatten)
  have m2 := (putNum_len g.n).1
  have m3 := (putNum_len g.o).1
  have m4 := (putNum_len (g.b.length : Int)).1
  have m5 := (putNum_len (g.ids.length : Int)).1
  unfold putM
  simp only [List.length_append] at *
  omega
section
variable {w : World}
/-- What came in: a note, its rows. -/
structure InN (w : World) (g : GM) (A : Option Addr) (Y : Option Addr) : Prop where
  hk : -9223372036854775808 ≤ g.k ∧ g.k ≤ 9223372036854775807
  hn : 0 ≤ g.n ∧ g.n ≤ 18446744073709551615
  ho : 0 ≤ g.o ∧ g.o ≤ 18446744073709551615
  hp : g.p.length = 32
  hpy : Byt g.p
  hb : Kd.C (Kd.int .u8) w A g.b.length g.b
  hby : Byt g.b
  hbl : g.b.length ≤ 9223372036854775807
  hY : IdsAt w Y g.ids
  hyl : g.ids.length ≤ 9223372036854775807
theorem InN.below {w w' : World} {g : GM} {A Y : Option Addr} (h : InN w g A Y) (hb : Below w.heap.size w w') : InN w' g A Y := ⟨h.hk, h.hn, h.ho, h.hp, h.hpy, Kd.C_below h.hb hb, h.hby, h.hbl, h.hY.below hb, h.hyl⟩
theorem puts_big (g : GM) (A Y : Option Addr) (bc yc : Nat) (hI : InN w g A Y) (hF : FAt w) (hbig : 300 < g.b.length ∨ 80 < g.ids.length) :
    Calls Tryd.prog 3 #[.agg (ncells g.k g.n g.o g.p (.slice A g.b.length bc) (.slice Y g.ids.length yc)).toArray] w fun e w' => e = .returned (.bool true) ∧ Below w.heap.size w w' := by
  obtain ⟨cs, hcs⟩ : ∃ cs, cs = (ncells g.k g.n g.o g.p (.slice A g.b.length bc) (.slice Y g.ids.length yc)).toArray := ⟨_, rfl⟩
  rw [← hcs]
  have hp := hI.hp
  obtain ⟨bl, hbl⟩ : ∃ bl, bl = g.b.length := ⟨_, rfl⟩
  obtain ⟨yl, hyl⟩ : ∃ yl, yl = g.ids.length := ⟨_, rfl⟩
  rw [← hbl, ← hyl] at hcs hbig
  obtain ⟨k, p, n, o, b, ids⟩ := g
  dsimp only at hcs hp
  have HCS := Aside0.mk (And.intro hcs hF)
  clear hcs hF hI hbl hyl
  by_cases h1 : 300 < bl
  · have d1 : decide ((300 : Int) < (bl : Int)) = true := decide_eq_true (by omega)
    have d1n : decide (300 < bl) = true := decide_eq_true h1
    clear hbig h1
    go_enter Tryd.func3, Tryd.ntmps3
    go_wp2_with (first
      | ((with_reducible refine gate_dst (N := 1) rfl ?_); refine box_event ?hg (N := 1) ?hd (cs := cs) (t := 28) ?hr ?_; (case hd => rfl); (case hg => rfl); (case hr => exact exec_box _ _ _ rfl cs rfl); intro gb hgb w1 hbox hb1; have H1 := Aside0.mk (And.intro (show NoteAt w1 gb k n o p (.slice A bl bc) (.slice Y yl yc) by rw [HCS.out.1] at hbox; exact hbox) hb1); clear hbox hb1 hgb)
      | (go_at_call 7; go_loud (refine (awake20_calls (HCS.out.2.below H1.out.2)).mono ?_; rintro e w2 ⟨rfl, hb2⟩; obtain ⟨a0, a1, a2, a3, a4, a5⟩ := NoteAt.cells (H1.out.1.below hb2) hp; have H2 := Aside0.mk (below_step H1.out.2 hb2); clear hb2)))
    go_ret
    exact ⟨rfl, H2.out⟩
  · have h2 : 80 < yl := by omega
    have d1 : decide ((300 : Int) < (bl : Int)) = false := decide_eq_false (by omega)
    have d1n : decide (300 < bl) = false := decide_eq_false h1
    have d2 : decide ((80 : Int) < (yl : Int)) = true := decide_eq_true (by omega)
    have d2n : decide (80 < yl) = true := decide_eq_true h2
    clear hbig h1 h2
    go_enter Tryd.func3, Tryd.ntmps3
    go_wp2_with (first
      | ((with_reducible refine gate_dst (N := 1) rfl ?_); refine box_event ?hg (N := 1) ?hd (cs := cs) (t := 28) ?hr ?_; (case hd => rfl); (case hg => rfl); (case hr => exact exec_box _ _ _ rfl cs rfl); intro gb hgb w1 hbox hb1; have H1 := Aside0.mk (And.intro (show NoteAt w1 gb k n o p (.slice A bl bc) (.slice Y yl yc) by rw [HCS.out.1] at hbox; exact hbox) hb1); clear hbox hb1 hgb)
      | (go_at_call 7; go_loud (refine (awake20_calls (HCS.out.2.below H1.out.2)).mono ?_; rintro e w2 ⟨rfl, hb2⟩; obtain ⟨a0, a1, a2, a3, a4, a5⟩ := NoteAt.cells (H1.out.1.below hb2) hp; have H2 := Aside0.mk (below_step H1.out.2 hb2); clear hb2)))
    go_ret
    exact ⟨rfl, H2.out⟩
def chkG (g : GM) : Int := chk g.k (accN g.n g.o g.p g.b.length g.ids.length) g.b.length g.ids.length
theorem chk_01 (g : GM) : chkG g = 0 ∨ chkG g = 1 := by unfold chkG chk; split <;> simp
def putB (g : GM) : List Int := if chkG g = 0 then putM g else []
theorem put_any (g : GM) (A Y : Option Addr) (bc yc : Nat) (hI : InN w g A Y) (hF : FAt w) : Calls Tryd.prog 8 #[.agg (ncells g.k g.n g.o g.p (.slice A g.b.length bc) (.slice Y g.ids.length yc)).toArray] w fun e w' => ∃ A' c, e = .returned (.tuple #[.slice A' (putB g).length c, .int .i64 (chkG g)]) ∧ (putB g).length ≤ c ∧ Kd.C (Kd.int .u8) w' A' (putB g).length (putB g) ∧ Below w.heap.size w w' := by
  have h1 := hI.hbl
  have h2 := hI.hyl
  rcases chk_01 g with h | h
  · have hx := put_ok (w := w) g.k g.n g.o g.p g.b g.ids hI.hk hI.hn hI.ho hI.hp hI.hpy A bc Y yc hI.hb hI.hby hI.hY hF (by omega) (by omega) h
    unfold putB
    rw [if_pos h, h]
    refine hx.mono ?_
    rintro e w' ⟨v, rfl, hv, hb⟩
    obtain ⟨A', c, rfl, hc, hC⟩ := Kd.R_reads hv
    exact ⟨A', c, rfl, hc, hC, hb⟩
  · have hx := put_no (w := w) g.k g.n g.o hI.hk g.p hI.hp A g.b.length bc Y g.ids.length yc hF (by omega) (by omega) h
    unfold putB
    rw [if_neg (by rw [h]; decide), h]
    refine hx.mono ?_
    rintro e w' ⟨rfl, hb⟩
    exact ⟨none, 0, rfl, Nat.le_refl _, Kd.C_nil _ _, hb⟩
theorem rput_any (g : GM) (A Y : Option Addr) (yc : Nat) (hI : InN w g A Y) : Calls Tryd.prog 9 #[.agg (ncells g.k g.n g.o g.p (.string (S g.b)) (.slice Y g.ids.length yc)).toArray] w fun e w' => e = .returned (.tuple #[.string (S (putB g)), .int .i64 (chkG g)]) ∧ Below w.heap.size w w' := by
  have h1 := hI.hbl
  have h2 := hI.hyl
  rcases chk_01 g with h | h
  · have hx := rput_ok (w := w) g.k g.n g.o g.p g.b g.ids hI.hk hI.hn hI.ho hI.hp Y yc hI.hY (by omega) (by omega) h
    unfold putB
    rw [if_pos h, h]
    exact hx
  · have hx := rput_no (w := w) g.k g.n g.o hI.hk g.p g.b hI.hp Y g.ids.length yc (by omega) (by omega) h
    unfold putB
    rw [if_neg (by rw [h]; decide), h]
    exact hx
theorem got_back {g : GM} {A Y : Option Addr} (hI : InN w g A Y) (h : chkG g = 0) : getM (putM g) = (0, g) ∧ g.b.length ≤ 1048576 ∧ g.ids.length ≤ 64 ∧ (0 ≤ g.k ∧ g.k ≤ 14) := by
  have hbad : ¬ chkBad g.k (accN g.n g.o g.p g.b.length g.ids.length) g.b.length g.ids.length := fun hb => by unfold chkG chk at h; rw [if_pos hb] at h; cases h
  have hkr : 1 ≤ g.k ∧ g.k ≤ 14 := by
    have h : kindOf g.k = true := by
      cases e : kindOf g.k
      · exact absurd (.inr (.inl e)) hbad
      · rfl
    unfold kindOf at h
    simpa using h
  have hm : (g.b.length : Int) ≤ mostOf g.k := by
    have h : ¬ mostOf g.k < (g.b.length : Int) := fun h => hbad (.inr (.inr (.inr (.inl h))))
    omega
  have hi64 : g.ids.length ≤ 64 := by
    have h : ¬ 64 < g.ids.length := fun h => hbad (.inr (.inr (.inr (.inr h))))
    omega
  have hz : bits .andNot .i64 (accN g.n g.o g.p g.b.length g.ids.length) (fld g.k) = 0 := by
    rcases Decidable.em (bits .andNot .i64 (accN g.n g.o g.p g.b.length g.ids.length) (fld g.k) = 0) with h | h
    · exact h
    · exact absurd (.inr (.inr (.inl h))) hbad
  have hb1 : g.b.length ≤ 1048576 := by unfold mostOf at hm; split at hm <;> omega
  refine ⟨?_, hb1, hi64, by omega, by omega⟩
  obtain ⟨kk, hkk⟩ : ∃ kk : Nat, g.k = kk := ⟨g.k.toNat, by omega⟩
  have hx := get_put (kk := kk) (by omega) (by omega) (n := g.n) (o := g.o) (p := g.p) (b := g.b) (ids := g.ids) hI.hp hI.hn hI.ho (by rw [← hkk]; exact hm) hi64 (fun i hi => (hI.hY i hi).1) (by rw [← hkk]; exact hz)
  rw [← hkk] at hx
  exact hx
theorem puts_law (g : GM) (A Y : Option Addr) (bc yc : Nat) (hI : InN w g A Y) (hF : FAt w) (hs1 : g.b.length ≤ 300) (hs2 : g.ids.length ≤ 80) :
    Calls Tryd.prog 3 #[.agg (ncells g.k g.n g.o g.p (.slice A g.b.length bc) (.slice Y g.ids.length yc)).toArray] w fun e w' => e = .returned (.bool true) ∧ Below w.heap.size w w' := by
  obtain ⟨bl, hbl⟩ : ∃ bl, bl = g.b.length := ⟨_, rfl⟩
  obtain ⟨yl, hyl⟩ : ∃ yl, yl = g.ids.length := ⟨_, rfl⟩
  have HI := Aside0.mk (And.intro hI hF)
  obtain ⟨cs, hcs⟩ : ∃ cs, cs = (ncells g.k g.n g.o g.p (.slice A g.b.length bc) (.slice Y g.ids.length yc)).toArray := ⟨_, rfl⟩
  obtain ⟨rs, hrs⟩ : ∃ rs, rs = (ncells g.k g.n g.o g.p (.string (S g.b)) (.slice Y g.ids.length yc)).toArray := ⟨_, rfl⟩
  obtain ⟨er, her⟩ : ∃ er, er = chkG g := ⟨_, rfl⟩
  obtain ⟨pb, hpb⟩ : ∃ pb, pb = putB g := ⟨_, rfl⟩
  obtain ⟨pl, hpl⟩ : ∃ pl, pl = pb.length := ⟨_, rfl⟩
  have HP : Aside0 (∀ W, Below w.heap.size w W → Calls Tryd.prog 8 #[.agg cs] W fun e w' => ∃ A' c, e = .returned (.tuple #[.slice A' pl c, .int .i64 er]) ∧ pl ≤ c ∧ Kd.C (Kd.int .u8) w' A' pb.length pb ∧ Below W.heap.size W w') := ⟨fun W hb => by
    rw [hcs, hpl, hpb, her]; exact put_any g A Y bc yc (hI.below hb) (hF.below hb)⟩
  have HRP : Aside0 (∀ W, Below w.heap.size w W → Calls Tryd.prog 9 #[.agg rs] W fun e w' => e = .returned (.tuple #[.string (S pb), .int .i64 er]) ∧ Below W.heap.size W w') := ⟨fun W hb => by
    rw [hrs, hpb, her]; exact rput_any g A Y yc (hI.below hb)⟩
  have HN : Aside0 (∀ W, Below w.heap.size w W → Calls Tryd.prog 10 #[.agg cs] W fun e w' => e = .returned (.agg rs) ∧ Below W.heap.size W w') := ⟨fun W hb => by
    rw [hcs, hrs]; exact noteOf_calls g.k g.n g.o g.p g.b hI.hp A bc Y g.ids.length yc (Kd.C_below hI.hb hb)⟩
  have HCk : Aside0 (∀ W, Below w.heap.size w W → Calls Tryd.prog 11 #[.agg cs] W fun e w' => e = .returned (.int .i64 er) ∧ Below W.heap.size W w') := ⟨fun W hb => by
    rw [hcs, her]; have := hI.hbl; have := hI.hyl; exact check_calls g.k g.n g.o hI.hk g.p hI.hp A g.b.length bc Y g.ids.length yc (hF.below hb) (by omega) (by omega)⟩
  have HRC : Aside0 (∀ W, Below w.heap.size w W → Calls Tryd.prog 12 #[.agg rs] W fun e w' => e = .returned (.int .i64 er) ∧ Below W.heap.size W w') := ⟨fun W hb => by
    rw [hrs, her]; have := hI.hbl; have := hI.hyl; exact rchk_calls g.k g.n g.o hI.hk g.p g.b hI.hp Y g.ids.length yc (by omega) (by omega)⟩
  have HG : Aside0 (er = 0 → (pb = putM g ∧ getM pb = (0, g) ∧ Byt pb ∧ pb.length < 2000000)) := ⟨fun h0 => by
    have h0' : chkG g = 0 := by rw [← her]; exact h0
    obtain ⟨q1, q2, q3, q4⟩ := got_back hI h0'
    have e : pb = putM g := by rw [hpb]; unfold putB; rw [if_pos h0']
    rw [e]
    exact ⟨rfl, q1, putM_byt q4 hI.hn hI.ho hI.hpy hI.hby q2 (fun i hi => ⟨(hI.hY i hi).1, (hI.hY i hi).2.1⟩) q3, putM_len hI.hp q2 (fun i hi => (hI.hY i hi).1) q3⟩⟩
  have hp := hI.hp
  have HCS := Aside0.mk (And.intro hcs (And.intro hrs hpl))
  have HBL := Aside0.mk (And.intro hbl hyl)
  rw [← hcs]
  rw [← hbl, ← hyl] at hcs
  have HCB := Aside0.mk hcs
  have d1 : decide ((300 : Int) < (bl : Int)) = false := decide_eq_false (by omega)
  have d1n : decide (300 < bl) = false := decide_eq_false (by omega)
  have d2 : decide ((80 : Int) < (yl : Int)) = false := decide_eq_false (by omega)
  have d2n : decide (80 < yl) = false := decide_eq_false (by omega)
  clear hcs hrs her hpb hpl hI hF hs1 hs2 hbl hyl
  obtain ⟨k, p, n, o, b, ids⟩ := g
  dsimp only at hp HCB
  go_enter Tryd.func3, Tryd.ntmps3
  go_upto_region 8 with (first
    | ((with_reducible refine gate_dst (N := 1) rfl ?_); refine box_event ?hg (N := 1) ?hd (cs := cs) (t := 28) ?hr ?_; (case hd => rfl); (case hg => rfl); (case hr => exact exec_box _ _ _ rfl cs rfl); intro gb hgb w1 hbox hb1; have H1 := Aside0.mk (And.intro (show NoteAt w1 gb k n o p (.slice A bl bc) (.slice Y yl yc) by rw [HCB.out] at hbox; exact hbox) hb1); clear hbox hb1 hgb)
    | (go_at_call 7; go_loud (refine (awake20_calls (HI.out.2.below H1.out.2)).mono ?_; rintro e w2 ⟨rfl, hb2⟩; obtain ⟨a0, a1, a2, a3, a4, a5⟩ := NoteAt.cells (H1.out.1.below hb2) hp; have H2 := Aside0.mk (And.intro (H1.out.1.below hb2) (below_step H1.out.2 hb2)); clear hb2))
    | ((with_reducible refine gate_dst (N := 24) rfl ?_); refine Kd.event_run rfl (v := .agg cs) (w1 := w2) ?hr ?_; (case hr => (rw [HCB.out]; exact load_note (P := Tryd.prog) H2.out.1 hp (.tmp 1) rfl rfl)))
    | (go_at_call 8; go_loud (clear a0 a1 a2 a3 a4 a5; refine (HP.out w2 H2.out.2).mono ?_; rintro e w3 ⟨A3, c3, rfl, hc3, hC3, hb3⟩; have H3 := Aside0.mk (And.intro (H2.out.1.below hb3) (And.intro (below_step H2.out.2 hb3) (And.intro hC3 hc3))); clear hb3 hC3 hc3))
    | ((with_reducible refine gate_dst (N := 29) rfl ?_); refine Kd.event_run rfl (v := .agg cs) (w1 := w3) ?hr ?_; (case hr => (rw [HCB.out]; exact load_note (P := Tryd.prog) H3.out.1 hp (.tmp 1) rfl rfl)))
    | (go_at_call 10; go_loud (refine (HN.out w3 H3.out.2.1).mono ?_; rintro e w4 ⟨rfl, hb4⟩; have H4 := Aside0.mk (And.intro (H3.out.1.below hb4) (And.intro (below_step H3.out.2.1 hb4) (And.intro (Kd.C_below H3.out.2.2.1 hb4) H3.out.2.2.2))); clear hb4))
    | (go_at_call 9; go_loud (refine (HRP.out w4 H4.out.2.1).mono ?_; rintro e w5 ⟨rfl, hb5⟩; have H5 := Aside0.mk (And.intro (H4.out.1.below hb5) (And.intro (below_step H4.out.2.1 hb5) (And.intro (Kd.C_below H4.out.2.2.1 hb5) H4.out.2.2.2))); clear hb5)))
  clear H1 H2 H3 H4
  obtain ⟨wd, hwd⟩ : ∃ wd, wd = w5.drew := ⟨_, rfl⟩
  have hbd : Below w5.heap.size w5 wd := by rw [hwd]; exact below_drew1 (Below.refl _ _)
  have HD := Aside0.mk (And.intro (H5.out.1.below hbd) (And.intro (below_step H5.out.2.1 hbd) (And.intro (Kd.C_below H5.out.2.2.1 hbd) H5.out.2.2.2)))
  clear hbd H5
  obtain ⟨s, hs⟩ : ∃ s, s = S pb := ⟨_, rfl⟩
  have hcv : (convert 25 9 (.slice A3 pl c3)).run Tryd.prog wd = .ok (.string s) wd := by rw [hs]; exact conv_row HCS.out.2.2 HD.out.2.2.1 (Below.refl _ _)
  rw [← hs]
  clear hs
  refine start_ (n := 17) (S := fun w' => NoteAt w' gb k n o p (.slice A bl bc) (.slice Y yl yc)) (ds := []) (bm 17 0) (by kernel_rfl) rfl (by kernel_rfl) (by rw [← hwd]; exact HD.out.1) (fun hHeld => ?_)
  rw [← hwd] at hHeld ⊢
  clear hwd
  refine pure_ (i := 0) (N := some 34) (v := ?_) (a' := ?_) (bm 17 1) rfl rfl (by kernel_rfl) (fun _ _ _ h => h) (Or.inl ⟨by rfl, ?_⟩) ?_ ?_
  rotate_left
  · intro w'
    go_simp
    with_reducible rfl
  rotate_left
  · simp only [Act.put, List.setIfInBounds_toArray, List.set_cons_zero, List.set_cons_succ, i64_w, i32_w]
    rfl
  refine pure_ (i := 2) (N := some 36) (v := ?_) (a' := ?_) (bm 17 5) rfl rfl (by kernel_rfl) (fun _ _ _ h => h) (Or.inl ⟨by rfl, ?_⟩) ?_ ?_
  rotate_left
  · intro w'
    go_simp
    with_reducible rfl
  rotate_left
  · simp only [Act.put, List.setIfInBounds_toArray, List.set_cons_zero, List.set_cons_succ, i64_w, i32_w]
    rfl
  refine one_ (i := 1) (N := some 35) (bm 17 7) rfl rfl (by kernel_rfl) (by decide) (fun K hK => ?_)
  refine value_ (w1 := ?_) (v := ?_) (by rfl) rfl ?_ ?_
  rotate_left 2
  · go_simp
    constructor
    · rfl
    · rfl
  refine hK.out _ _ (hHeld) (fun hHeld => ?_)
  clear hK K
  refine norm_ (a' := ?_) ?_ ?_
  rotate_left
  · show Act.put _ (some 35) _ = _
    simp only [Act.put, List.setIfInBounds_toArray, List.set_cons_zero, List.set_cons_succ, i64_w, i32_w]
    rfl
  clear hcv
  refine pure_ (i := 3) (N := some 37) (v := ?_) (a' := ?_) (bm 17 15) rfl rfl (by kernel_rfl) (fun _ _ _ h => h) (Or.inl ⟨by rfl, ?_⟩) ?_ ?_
  rotate_left
  · intro w'
    go_simp
    with_reducible rfl
  rotate_left
  · simp only [Act.put, List.setIfInBounds_toArray, List.set_cons_zero, List.set_cons_succ, i64_w, i32_w]
    rfl
  refine pure_ (i := 4) (N := some 38) (v := ?_) (a' := ?_) (bm 17 31) rfl rfl (by kernel_rfl) (fun _ _ _ h => h) (Or.inl ⟨by rfl, ?_⟩) ?_ ?_
  rotate_left
  · intro w'
    go_simp
    with_reducible rfl
  rotate_left
  · simp only [Act.put, List.setIfInBounds_toArray, List.set_cons_zero, List.set_cons_succ, i64_w, i32_w]
    rfl
  refine pure_ (i := 5) (N := some 39) (v := ?_) (a' := ?_) (bm 17 63) rfl rfl (by kernel_rfl) (fun _ _ _ h => h) (Or.inl ⟨by rfl, ?_⟩) ?_ ?_
  rotate_left
  · intro w'
    go_simp
    with_reducible rfl
  rotate_left
  · simp only [Act.put, List.setIfInBounds_toArray, List.set_cons_zero, List.set_cons_succ, i64_w, i32_w]
    rfl
  refine pure_ (i := 6) (N := some 40) (v := ?_) (a' := ?_) (bm 17 127) rfl rfl (by kernel_rfl) (fun _ _ _ h => h) (Or.inl ⟨by rfl, ?_⟩) ?_ ?_
  rotate_left
  · intro w'
    go_simp
    with_reducible rfl
  rotate_left
  · simp only [Act.put, List.setIfInBounds_toArray, List.set_cons_zero, List.set_cons_succ, i64_w, i32_w]
    rfl
  refine pure_ (i := 7) (N := some 41) (v := ?_) (a' := ?_) (bm 17 255) rfl rfl (by kernel_rfl) (fun _ _ _ h => h) (Or.inl ⟨by rfl, ?_⟩) ?_ ?_
  rotate_left
  · intro w'
    go_simp
    with_reducible rfl
  rotate_left
  · simp only [Act.put, List.setIfInBounds_toArray, List.set_cons_zero, List.set_cons_succ, i64_w, i32_w]
    rfl
  refine pure_ (i := 8) (N := some 42) (v := ?_) (a' := ?_) (bm 17 511) rfl rfl (by kernel_rfl) (fun _ _ _ h => h) (Or.inl ⟨by rfl, ?_⟩) ?_ ?_
  rotate_left
  · intro w'
    go_simp
    with_reducible rfl
  rotate_left
  · simp only [Act.put, List.setIfInBounds_toArray, List.set_cons_zero, List.set_cons_succ, i64_w, i32_w]
    rfl
  refine pure_ (i := 9) (N := some 43) (v := ?_) (a' := ?_) (bm 17 1023) rfl rfl (by kernel_rfl) (fun _ _ _ h => h) (Or.inl ⟨by rfl, ?_⟩) ?_ ?_
  rotate_left
  · intro w'
    go_simp
    with_reducible rfl
  rotate_left
  · simp only [Act.put, List.setIfInBounds_toArray, List.set_cons_zero, List.set_cons_succ, i64_w, i32_w]
    rfl
  refine take_ (i := 10) (N := some 44) (v := .agg cs) (a' := ?_) (bm 17 2047) rfl rfl (by kernel_rfl) (fun _ _ _ h => h) (Or.inl ⟨by rfl, fun w' s0 => ?ld⟩) hHeld ?_ ?_
  case ld => exact (by rw [HCB.out]; exact load_note (P := Tryd.prog) s0 hp (.tmp 1) rfl rfl)
  rotate_left
  · simp only [Act.put, List.setIfInBounds_toArray, List.set_cons_zero, List.set_cons_succ, i64_w, i32_w]
    rfl
  refine take_ (i := 12) (N := some 46) (v := .agg cs) (a' := ?_) (bm 17 6143) rfl rfl (by kernel_rfl) (fun _ _ _ h => h) (Or.inl ⟨by rfl, fun w' s0 => ?ld⟩) hHeld ?_ ?_
  case ld => exact (by rw [HCB.out]; exact load_note (P := Tryd.prog) s0 hp (.tmp 1) rfl rfl)
  rotate_left
  · simp only [Act.put, List.setIfInBounds_toArray, List.set_cons_zero, List.set_cons_succ, i64_w, i32_w]
    rfl
  refine one_ (i := 11) (N := some 45) (bm 17 8191) rfl rfl (by kernel_rfl) (by decide) (fun K hK => ?_)
  refine goes_ Tryd.func11 (by kernel_rfl) rfl #[.agg cs] (by rfl) rfl rfl (by (try simp only [List.map_toArray, List.map_cons, List.map_nil]); first | rfl | (go_simp; done)) ?_
  refine (HCk.out wd HD.out.2.1).mono ?_
  rintro e w6 ⟨rfl, hb6⟩
  refine ⟨_, rfl, ?_⟩
  have H6 := Aside0.mk (And.intro (HD.out.1.below hb6) (And.intro (below_step HD.out.2.1 hb6) (Kd.C_below HD.out.2.2.1 hb6)))
  clear hb6
  refine hK.out _ _ (H6.out.1) (fun hHeld => ?_)
  clear hK K
  refine norm_ (a' := ?_) ?_ ?_
  rotate_left
  · show Act.put _ (some 45) _ = _
    simp only [Act.put, List.setIfInBounds_toArray, List.set_cons_zero, List.set_cons_succ, i64_w, i32_w]
    rfl
  refine one_ (i := 13) (N := some 47) (bm 17 16383) rfl rfl (by kernel_rfl) (by decide) (fun K hK => ?_)
  refine goes_ Tryd.func10 (by kernel_rfl) rfl #[.agg cs] (by rfl) rfl rfl (by (try simp only [List.map_toArray, List.map_cons, List.map_nil]); first | rfl | (go_simp; done)) ?_
  refine (HN.out w6 H6.out.2.1).mono ?_
  rintro e w7 ⟨rfl, hb7⟩
  refine ⟨_, rfl, ?_⟩
  have H7 := Aside0.mk (And.intro (H6.out.1.below hb7) (And.intro (below_step H6.out.2.1 hb7) (Kd.C_below H6.out.2.2 hb7)))
  clear hb7
  refine hK.out _ _ (H7.out.1) (fun hHeld => ?_)
  clear hK K
  refine norm_ (a' := ?_) ?_ ?_
  rotate_left
  · show Act.put _ (some 47) _ = _
    simp only [Act.put, List.setIfInBounds_toArray, List.set_cons_zero, List.set_cons_succ, i64_w, i32_w]
    rfl
  refine one_ (i := 14) (N := some 48) (bm 17 32767) rfl rfl (by kernel_rfl) (by decide) (fun K hK => ?_)
  refine goes_ Tryd.func12 (by kernel_rfl) rfl #[.agg rs] (by rfl) rfl rfl (by (try simp only [List.map_toArray, List.map_cons, List.map_nil]); first | rfl | (go_simp; done)) ?_
  refine (HRC.out w7 H7.out.2.1).mono ?_
  rintro e w8 ⟨rfl, hb8⟩
  refine ⟨_, rfl, ?_⟩
  have H8 := Aside0.mk (And.intro (H7.out.1.below hb8) (And.intro (below_step H7.out.2.1 hb8) (Kd.C_below H7.out.2.2 hb8)))
  clear hb8
  refine hK.out _ _ (H8.out.1) (fun hHeld => ?_)
  clear hK K
  refine norm_ (a' := ?_) ?_ ?_
  rotate_left
  · show Act.put _ (some 48) _ = _
    simp only [Act.put, List.setIfInBounds_toArray, List.set_cons_zero, List.set_cons_succ, i64_w, i32_w]
    rfl
  refine pure_ (i := 15) (N := some 49) (v := ?_) (a' := ?_) (bm 17 65535) rfl rfl (by kernel_rfl) (fun _ _ _ h => h) (Or.inl ⟨by rfl, ?_⟩) ?_ ?_
  rotate_left
  · intro w'
    go_simp
    with_reducible rfl
  rotate_left
  · simp only [Act.put, List.setIfInBounds_toArray, List.set_cons_zero, List.set_cons_succ, i64_w, i32_w]
    rfl
  refine pure_ (i := 16) (N := some 50) (v := ?_) (a' := ?_) (bm 17 131071) rfl rfl (by kernel_rfl) (fun _ _ _ h => h) (Or.inl ⟨by rfl, ?_⟩) ?_ ?_
  rotate_left
  · intro w'
    go_simp
    with_reducible rfl
  rotate_left
  · simp only [Act.put, List.setIfInBounds_toArray, List.set_cons_zero, List.set_cons_succ, i64_w, i32_w]
    rfl
  refine done_ (by kernel_rfl) ?_
  clear hHeld H6 H7
  by_cases hz : er = 0
  · subst hz
    have hg := HG.out rfl
    have HGG := Aside0.mk hg
    clear hg
    go_upto_region 13 with (first
      | (go_at_call 13; go_loud (have hx := get_calls (w := w8) A3 c3 H8.out.2.2 (by have := HD.out.2.2.2; have := HCS.out.2.2; omega) (by have := HGG.out.2.2.2; omega) HGG.out.2.2.1 (HI.out.2.below H8.out.2.1); rw [HGG.out.2.1, ← HCS.out.2.2] at hx; refine hx.mono ?_; clear hx; rintro e w9 ⟨cs9, rfl, hn9, hb9⟩; have H9 := Aside0.mk (And.intro hn9 (And.intro (H8.out.1.below hb9) (And.intro (below_step H8.out.2.1 hb9) (hn9.fit hp)))); clear hn9 hb9))
      | ((with_reducible refine gate_dst (N := 8) rfl ?_); refine Kd.event_run rfl (v := .pointer (some ⟨w9.heap.size, 0, none⟩)) (w1 := w9.alloc (.cells nz28.toArray 28)) ?hr ?_; (case hr => first | kernel_rfl | (go_simp; done) | (go_simp; rfl)); go_loud (refine wpName (fun wA hwA => ?_); obtain ⟨g8, hg8⟩ : ∃ g, g = w9.heap.size := ⟨_, rfl⟩; have HA := Aside0.mk (And.intro (show wA.heap[g8]? = some (.cells nz28.toArray 28 (0, 0)) by rw [hwA, hg8]; exact blk_new w9 _) (And.intro (show Below w9.heap.size w9 wA by rw [hwA]; exact below_alloc (Below.refl _ _) _) hg8)); rw [← hg8]; clear hwA hg8))
      | ((with_reducible refine gate_store (ty := 28) (x := .tmp 8) (y := .tmp 56) rfl ?_); go_loud (refine wpList_store_row rfl 28 (.tmp 8) (.tmp 56) rfl g8 cs9 rfl rfl 28 nz28.toArray HA.out.1 H9.out.2.2.2.1 H9.out.2.2.2.2.1 H9.out.2.2.2.2.2 ?_; refine wpName (fun wB hwB => ?_); have hbB : Below w9.heap.size w9 wB := (by rw [hwB]; exact below_setRow HA.out.2.1 (by rw [HA.out.2.2]; exact Nat.le_refl _) _); have HB := Aside0.mk (And.intro (show wB.heap[g8]? = some (.cells cs9 28 (0, 0)) by rw [hwB]; exact setRow_heap _ _ _ _ _ _ HA.out.1) (And.intro (H9.out.2.1.below hbB) (And.intro (below_step H9.out.2.2.1 hbB) (H9.out.1.below hbB)))); clear hwB hbB)))
    obtain ⟨wd2, hwd2⟩ : ∃ wd2, wd2 = wB.drew := ⟨_, rfl⟩
    have hbd2 : Below wB.heap.size wB wd2 := by rw [hwd2]; exact below_drew1 (Below.refl _ _)
    have HE := Aside0.mk (And.intro ((hbd2.block _ (blk_lt HB.out.1)).trans HB.out.1) (And.intro (HB.out.2.1.below hbd2) (And.intro (below_step HB.out.2.2.1 hbd2) (HB.out.2.2.2.below hbd2))))
    clear hbd2 HA HB
    refine start_ (n := 10) (S := fun w' => w'.heap[g8]? = some (.cells cs9 28 (0, 0)) ∧ NoteAt w' gb k n o p (.slice A bl bc) (.slice Y yl yc)) (ds := []) (bm 10 0) (by kernel_rfl) rfl (by kernel_rfl) (by rw [← hwd2]; exact ⟨HE.out.1, HE.out.2.1⟩) (fun hHeld => ?_)
    rw [← hwd2] at hHeld ⊢
    clear hwd2
    refine pure_ (i := 0) (N := some 58) (v := ?_) (a' := ?_) (bm 10 1) rfl rfl (by kernel_rfl) (fun _ _ _ h => h) (Or.inl ⟨by rfl, ?_⟩) ?_ ?_
    rotate_left
    · intro w'
      go_simp
      with_reducible rfl
    rotate_left
    · simp only [Act.put, List.setIfInBounds_toArray, List.set_cons_zero, List.set_cons_succ, i64_w, i32_w]
      rfl
    refine pure_ (i := 1) (N := some 59) (v := ?_) (a' := ?_) (bm 10 3) rfl rfl (by kernel_rfl) (fun _ _ _ h => h) (Or.inl ⟨by rfl, ?_⟩) ?_ ?_
    rotate_left
    · intro w'
      go_simp
      with_reducible rfl
    rotate_left
    · simp only [Act.put, List.setIfInBounds_toArray, List.set_cons_zero, List.set_cons_succ, i64_w, i32_w]
      rfl
    refine pure_ (i := 2) (N := some 60) (v := ?_) (a' := ?_) (bm 10 7) rfl rfl (by kernel_rfl) (fun _ _ _ h => h) (Or.inl ⟨by rfl, ?_⟩) ?_ ?_
    rotate_left
    · intro w'
      go_simp
      with_reducible rfl
    rotate_left
    · simp only [Act.put, List.setIfInBounds_toArray, List.set_cons_zero, List.set_cons_succ, i64_w, i32_w]
      rfl
    refine take_ (i := 3) (N := some 61) (v := .agg cs9) (a' := ?_) (bm 10 15) rfl rfl (by kernel_rfl) (fun _ _ _ h => h) (Or.inl ⟨by rfl, fun w' s0 => ?ld⟩) hHeld ?_ ?_
    case ld => exact exec_load_row w' 28 (.tmp 8) rfl g8 rfl 28 _ (0, 0) _ s0.1 Tryd.underlying28 rfl H9.out.2.2.2.1
    rotate_left
    · simp only [Act.put, List.setIfInBounds_toArray, List.set_cons_zero, List.set_cons_succ, i64_w, i32_w]
      rfl
    refine take_ (i := 5) (N := some 63) (v := .agg cs) (a' := ?_) (bm 10 47) rfl rfl (by kernel_rfl) (fun _ _ _ h => h) (Or.inl ⟨by rfl, fun w' s0 => ?ld⟩) hHeld ?_ ?_
    case ld => exact (by rw [HCB.out]; exact load_note (P := Tryd.prog) s0.2 hp (.tmp 1) rfl rfl)
    rotate_left
    · simp only [Act.put, List.setIfInBounds_toArray, List.set_cons_zero, List.set_cons_succ, i64_w, i32_w]
      rfl
    obtain ⟨A9, bc9, Y9, yc9, hcs9, hC9, hI9⟩ := HE.out.2.2.2
    obtain ⟨rs9, hrs9⟩ : ∃ rs9, rs9 = (ncells k n o p (.string (S b)) (.slice Y9 ids.length yc9)).toArray := ⟨_, rfl⟩
    have HN9 : Aside0 (Calls Tryd.prog 10 #[.agg cs9] wd2 fun e w' => e = .returned (.agg rs9) ∧ Below wd2.heap.size wd2 w') := ⟨by
      rw [hcs9, hrs9]
      exact noteOf_calls k n o p b hp A9 bc9 Y9 ids.length yc9 hC9⟩
    have HS : Aside0 (∀ W, Below wd2.heap.size wd2 W → Calls Tryd.prog 14 #[.agg rs9, .agg rs] W fun e w' => e = .returned (.bool true) ∧ Below W.heap.size W w') := ⟨fun W hb => by
      rw [hrs9, HCS.out.2.1]
      exact same_calls k n o p b ids hp Y9 Y yc9 yc (hI9.below hb) (HI.out.1.hY.below (below_step HE.out.2.2.1 hb)) (by have := HI.out.1.hyl; exact this)⟩
    clear hcs9 hC9 hI9 hrs9
    refine one_ (i := 4) (N := some 62) (bm 10 63) rfl rfl (by kernel_rfl) (by decide) (fun K hK => ?_)
    refine goes_ Tryd.func10 (by kernel_rfl) rfl #[.agg cs9] (by rfl) rfl rfl (by (try simp only [List.map_toArray, List.map_cons, List.map_nil]); first | rfl | (go_simp; done)) ?_
    refine HN9.out.mono ?_
    rintro e wE ⟨rfl, hbE⟩
    refine ⟨_, rfl, ?_⟩
    have HF1 := Aside0.mk hbE
    clear hbE
    refine hK.out _ _ (⟨(HF1.out.block _ (blk_lt HE.out.1)).trans HE.out.1, HE.out.2.1.below HF1.out⟩) (fun hHeld => ?_)
    clear hK K
    refine norm_ (a' := ?_) ?_ ?_
    rotate_left
    · show Act.put _ (some 62) _ = _
      simp only [Act.put, List.setIfInBounds_toArray, List.set_cons_zero, List.set_cons_succ, i64_w, i32_w]
      rfl
    refine one_ (i := 6) (N := some 64) (bm 10 127) rfl rfl (by kernel_rfl) (by decide) (fun K hK => ?_)
    refine goes_ Tryd.func10 (by kernel_rfl) rfl #[.agg cs] (by rfl) rfl rfl (by (try simp only [List.map_toArray, List.map_cons, List.map_nil]); first | rfl | (go_simp; done)) ?_
    refine (HN.out wE (below_step HE.out.2.2.1 HF1.out)).mono ?_
    rintro e wF ⟨rfl, hbF⟩
    refine ⟨_, rfl, ?_⟩
    have HF2 := Aside0.mk (below_step HF1.out hbF)
    clear hbF
    refine hK.out _ _ (⟨(HF2.out.block _ (blk_lt HE.out.1)).trans HE.out.1, HE.out.2.1.below HF2.out⟩) (fun hHeld => ?_)
    clear hK K
    refine norm_ (a' := ?_) ?_ ?_
    rotate_left
    · show Act.put _ (some 64) _ = _
      simp only [Act.put, List.setIfInBounds_toArray, List.set_cons_zero, List.set_cons_succ, i64_w, i32_w]
      rfl
    refine one_ (i := 7) (N := some 65) (bm 10 255) rfl rfl (by kernel_rfl) (by decide) (fun K hK => ?_)
    refine goes_ Tryd.func14 (by kernel_rfl) rfl #[.agg rs9, .agg rs] (by rfl) rfl rfl (by (try simp only [List.map_toArray, List.map_cons, List.map_nil]); first | rfl | (go_simp; done)) ?_
    refine (HS.out wF HF2.out).mono ?_
    rintro e wG ⟨rfl, hbG⟩
    refine ⟨_, rfl, ?_⟩
    have HF3 := Aside0.mk (below_step HF2.out hbG)
    clear hbG
    refine hK.out _ _ (⟨(HF3.out.block _ (blk_lt HE.out.1)).trans HE.out.1, HE.out.2.1.below HF3.out⟩) (fun hHeld => ?_)
    clear hK K
    refine norm_ (a' := ?_) ?_ ?_
    rotate_left
    · show Act.put _ (some 65) _ = _
      simp only [Act.put, List.setIfInBounds_toArray, List.set_cons_zero, List.set_cons_succ, i64_w, i32_w]
      rfl
    refine pure_ (i := 8) (N := some 66) (v := ?_) (a' := ?_) (bm 10 511) rfl rfl (by kernel_rfl) (fun _ _ _ h => h) (Or.inl ⟨by rfl, ?_⟩) ?_ ?_
    rotate_left
    · intro w'
      go_simp
      with_reducible rfl
    rotate_left
    · simp only [Act.put, List.setIfInBounds_toArray, List.set_cons_zero, List.set_cons_succ, i64_w, i32_w]
      rfl
    refine pure_ (i := 9) (N := some 2) (v := ?_) (a' := ?_) (bm 10 1023) rfl rfl (by kernel_rfl) (fun _ _ _ h => h) (Or.inl ⟨by rfl, ?_⟩) ?_ ?_
    rotate_left
    · intro w'
      go_simp
      with_reducible rfl
    rotate_left
    · simp only [Act.put, List.setIfInBounds_toArray, List.set_cons_zero, List.set_cons_succ, i64_w, i32_w]
      rfl
    refine done_ (by kernel_rfl) ?_
    go_wp2
    go_ret
    exact ⟨rfl, below_step HE.out.2.2.1 HF3.out⟩
  · have d5 : (er != 0) = true := bne_iff_ne.2 hz
    clear hz
    go_wp2
    go_ret
    exact ⟨rfl, H8.out.2.1⟩
end
end Go.Proofs.YtlcanfniphdelaaDoor.Not
