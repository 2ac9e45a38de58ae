/- The contract of notes.Put. -/
import Derived.Test.YtlcanfniphdelaaDoorCheck
import Derived.Test.YtlcanfniphdelaaDoorCodP
namespace Go.Proofs.YtlcanfniphdelaaDoor.Not
open Go.RowKit Go.Maps Go.Proofs.YtlcanfniphdelaaDoorW.PrintWords Go.Proofs.YtlcanfniphdelaaDoorW.PrintLast Go.Proofs.YtlcanfniphdelaaDoorW.PrintMore Go.Proofs.YtlcanfniphdelaaDoor.Mem Go.Proofs.YtlcanfniphdelaaDoor.Cod Go.Proofs.YtlcanfniphdelaaDoor.Ins Go.Proofs.YtlcanfniphdelaaDoor.Open Go.Proofs.YtlcanfniphdelaaDoor.PCod
set_option linter.unusedVariables false
set_option linter.unusedSimpArgs false
set_option maxRecDepth 8000
set_option maxHeartbeats 4000000
section
variable {w : World}
theorem load_note {P : Program} {gb : Nat} {k n o : Int} {p : List Int} {vB vY : Value} {oi : Oper} {ev : Operand → Value} {W : World} (hs : NoteAt W gb k n o p vB vY) (hp : p.length = 32) (x : Operand) (ho : oi.op = .load 28 x) (hx : ev x = .pointer (some ⟨gb, 0, none⟩)) : (execOp ev oi).run Tryd.prog W = .ok (.value (.agg (ncells k n o p vB vY).toArray)) W :=
  exec_load_any W 28 x ho ⟨gb, 0, none⟩ hx (ncells k n o p vB vY) _ (fun j v hj => by rw [add_p, Nat.zero_add, blk_cell hs j]; simpa using hj) Tryd.underlying28 rfl (by simp only [ncells, List.length_cons, List.length_append, nums_length, hp, List.length_nil]; kernel_rfl)
theorem put_no (k n o : Int) (hk : -9223372036854775808 ≤ k ∧ k ≤ 9223372036854775807) (p : List Int) (hp : p.length = 32) (A : Option Addr) (bl bc : Nat) (Y : Option Addr) (yl yc : Nat) (hF : FAt w) (hbl : bl ≤ 9223372036854775807) (hyl : yl ≤ 9223372036854775807) (hc : chk k (accN n o p bl yl) bl yl = 1) :
    Calls Tryd.prog 8 #[.agg (ncells k n o p (.slice A bl bc) (.slice Y yl yc)).toArray] w fun e w' => e = .returned (.tuple #[.slice none 0 0, .int .i64 1]) ∧ Below w.heap.size w w' := by
  obtain ⟨cs, hcs⟩ : ∃ cs, cs = (ncells k n o p (.slice A bl bc) (.slice Y yl yc)).toArray := ⟨_, rfl⟩
  rw [← hcs]
  have HCS := Aside0.mk hcs
  have HF := Aside0.mk (And.intro hF (And.intro hk (And.intro hbl (And.intro hyl hc))))
  clear hcs hF hk hbl hyl hc
  go_enter Tryd.func8, Tryd.ntmps8
  go_wp2_with (first
    | ((with_reducible refine gate_dst (N := 1) rfl ?_); refine box_event ?hg (N := 1) ?hd (cs := cs) (t := 28) ?hr ?_; (case hd => rfl); (case hg => rfl); (case hr => exact exec_box _ _ _ rfl cs rfl); intro gb hgb w1 hbox hb1; have H1 := Aside0.mk (And.intro (show NoteAt w1 gb k n o p (.slice A bl bc) (.slice Y yl yc) by rw [HCS.out] at hbox; exact hbox) hb1); clear hbox hb1 hgb)
    | ((with_reducible refine gate_dst (N := 9) rfl ?_); refine Kd.event_run rfl (v := .agg cs) (w1 := w1) ?hr ?_; (case hr => (rw [HCS.out]; exact load_note (P := Tryd.prog) H1.out.1 hp (.tmp 1) rfl rfl)))
    | (go_at_call 11; go_loud (obtain ⟨hF, hk, hbl, hyl, hc⟩ := HF.out; have hx := check_calls (w := w1) k n o hk p hp A bl bc Y yl yc (hF.below H1.out.2) hbl hyl; rw [← HCS.out, hc] at hx; refine hx.mono ?_; clear hx; rintro e w2 ⟨rfl, hb2⟩; have H2 := Aside0.mk (below_step H1.out.2 hb2); clear hb2 hF hk hbl hyl hc)))
  go_ret2
  exact ⟨rfl, H2.out⟩
/-- The writer, the note, side by side. -/
structure PI (w W : World) (gb gw : Nat) (k n o : Int) (p : List Int) (vB vY : Value) (xs : List Int) : Prop where
  wr : ∃ F : Nat → Prop, WrAt W gw F gw xs ∧ ∀ k, F k → gw ≤ k
  nt : NoteAt W gb k n o p vB vY
  w0 : Below w.heap.size w W
  lt : gb < gw
  ge : w.heap.size ≤ gw
theorem PI.step {w W W' : World} {gb gw : Nat} {k n o : Int} {p : List Int} {vB vY : Value} {xs zs : List Int} {F : Nat → Prop} {e : Ending} (h : PI w W gb gw k n o p vB vY xs) (hd : WrAt W gw F gw xs) (hF : ∀ k, F k → gw ≤ k) (hw : Wrote w W gw F gw zs e W') : PI w W' gb gw k n o p vB vY zs := by
  obtain ⟨_, h1, h2, h3⟩ := hw
  have hlt := h.lt
  have hgw : gw < W.heap.size := by obtain ⟨_, _, _, h, _⟩ := hd; exact blk_lt h
  exact ⟨⟨_, h1, fun j hj => by rcases hj with e | e; exact hF j e; omega⟩, blk_kept h.nt h3 (fun e => by have := hF gb e; omega), h2, h.lt, h.ge⟩
def fbit (f m : Int) : Bool := decide (0 < bits .and .i64 f m)
def px (f : Int) (m : Int) (xs : List Int) : List Int := if fbit f m = true then xs else []
theorem px_len (f m : Int) (xs : List Int) : (px f m xs).length ≤ xs.length := by unfold px; split <;> simp
/-- Bytes of the note, in the note's own row. -/
theorem note_row {w : World} {gb : Nat} {k n o : Int} {p : List Int} {vB vY : Value} (h : NoteAt w gb k n o p vB vY) (hp : p.length = 32) : Kd.C (Kd.int .u8) w (some ⟨gb, 1, none⟩) p.length p := by
  refine Kd.C_of_reads (d := (0 : Int)) (h1 := fun _ => rfl) ⟨rfl, by omega, fun _ => ⟨_, rfl, fun j hj => ?_⟩⟩
  rw [add_p]
  exact (h.cells hp).2.2.2.2.2 j _ (by unfold nums; rw [List.getElem?_map, List.getElem?_eq_getElem hj]; simp [List.getD_eq_getElem?_getD, List.getElem?_eq_getElem hj])
theorem px_on {f m : Int} {xs : List Int} (h : fbit f m = true) : px f m xs = xs := if_pos h
theorem px_off {f m : Int} {xs : List Int} (h : fbit f m = false) : px f m xs = [] := if_neg (by rw [h]; decide)
theorem c_far {w wr V : World} {F : Nat → Prop} {A : Option Addr} {n : Nat} {xs : List Int} (h : Kd.C (Kd.int .u8) w A n xs) (hb : Below w.heap.size w wr) (hk : Kept wr V F) (hF : ∀ k, F k → w.heap.size ≤ k) : Kd.C (Kd.int .u8) V A n xs :=
  C_kept (S := fun _ => False) h ((Kept.of_below hb (fun _ => False)).then_ hk (fun k hk => .inr (hF k hk))) (fun _ _ h => h)
section
variable {w : World}
theorem wbytes_calls0 {base g : Nat} {F : Nat → Prop} {xs ys : List Int} {w0 : World} (hB : Below w0.heap.size w0 w) (hb0 : w0.heap.size ≤ base) (hd : WrAt w base F g xs) (A : Option Addr) (n c : Nat) (hn : n = ys.length) (hr : ∀ W, Kept w W F → Kd.C (Kd.int .u8) W A ys.length ys) (hl : xs.length + ys.length + 10 < 140737488355328) (hy : Byt ys) :
    Calls Tryd.prog 19 #[.pointer (some ⟨g, 0, none⟩), .slice A n c] w (Wrote w0 w base F g (xs ++ putNum ys.length ++ ys)) := by
  have hw : IntKind.u64.wrap (n : Int) = n := wraps_u64 _ (by omega) (by omega)
  have h1 := Aside0.mk (wuint_calls hB hb0 hd (n : Int) (by omega) (by omega) (by omega))
  have HX := Aside0.mk (And.intro hn (And.intro hr (And.intro hl (And.intro hy hb0))))
  clear hB hb0 hd hn hr hl hy
  go_enter Tryd.func19, Tryd.ntmps19
  go_wp2_with (first | (go_at_call 17; go_loud (refine h1.out.mono ?_; rintro e w1 ⟨rfl, hd1, hb1, hk1⟩; have HX1 := Aside0.mk (And.intro hd1 (And.intro hb1 hk1)); clear hd1 hb1 hk1)) | (go_at_call 18; go_loud (obtain ⟨hn, hr, hl, hy, hb0⟩ := HX.out; refine (wfixed_calls HX1.out.2.1 hb0 HX1.out.1 A n c hn (hr _ HX1.out.2.2) (by rw [List.length_append]; have := (putNum_len (n : Int)).1; omega) hy).mono ?_; rintro e w2 ⟨rfl, hd2, hb2, hk2⟩; have HX2 := Aside0.mk (And.intro hd2 (And.intro hb2 hk2)); clear hd2 hb2 hk2 hn hr hl hy hb0)))
  go_end0
  obtain ⟨h2, h3, h4⟩ := HX2.out
  have hs := HX1.out.2.2.1
  rw [show (n : Int) = (ys.length : Int) by rw [HX.out.1]] at h2
  exact ⟨rfl, h2.mono (Or.twice hs), h3, HX1.out.2.2.then_ h4 (fun k hk => by rcases hk with h | h; exact .inl h; exact .inr h)⟩
end
theorem PI.below {w W W' : World} {gb gw : Nat} {k n o : Int} {p : List Int} {vB vY : Value} {xs : List Int} (h : PI w W gb gw k n o p vB vY xs) (hb : Below W.heap.size W W') : PI w W' gb gw k n o p vB vY xs := by
  obtain ⟨F, hW, hF⟩ := h.wr
  exact ⟨⟨F, hW.below hb, hF⟩, h.nt.below hb, below_step h.w0 hb, h.lt, h.ge⟩
theorem arr_row {w : World} {b : Nat} {t : TypeId} {xs : List Int} (h : w.heap[b]? = some (.cells (nums .u8 xs).toArray t (0, 0))) (hl : xs.length ≤ 9223372036854775807) : Kd.C (Kd.int .u8) w (some ⟨b, 0, none⟩) xs.length xs := by
  refine Kd.C_of_reads (d := (0 : Int)) (h1 := fun _ => rfl) ⟨rfl, by omega, fun _ => ⟨_, rfl, fun j hj => ?_⟩⟩
  rw [add_p, Nat.zero_add, blk_cell h]
  unfold nums
  rw [List.getElem?_toArray, List.getElem?_map, List.getElem?_eq_getElem hj]
  simp [List.getD_eq_getElem?_getD, List.getElem?_eq_getElem hj]
theorem gate_store {P : Program} {ops : Array Oper} {Q : Exit → Act → World → Prop} {rest : List Oper} {o : Oper} {a : Act} {w : World} {ty : TypeId} {x y : Operand} (hs : o.op = .store ty x y) (h : wpList P ops Q (o :: rest) a w) : wpList P ops Q (o :: rest) a w := h
theorem wpName {P : Program} {ops : Array Oper} {Q : Exit → Act → World → Prop} {rest : List Oper} {a : Act} {w : World} (h : ∀ W, W = w → wpList P ops Q rest a W) : wpList P ops Q rest a w := h w rfl
theorem flat_snoc {ids : List (List Int)} {i : Nat} (hi : i < ids.length) : (ids.take (i + 1)).flatten = (ids.take i).flatten ++ ids.getD i [] := by
  have h : ids.take (i + 1) = ids.take i ++ [ids[i]] := by rw [List.take_add_one, List.getElem?_eq_getElem hi]; rfl
  rw [h, List.flatten_append, List.getD_eq_getElem?_getD, List.getElem?_eq_getElem hi]
  simp
theorem flat_len {ids : List (List Int)} (h : ∀ i, i < ids.length → (ids.getD i []).length = 32) : ∀ i, i ≤ ids.length → (ids.take i).flatten.length = i * 32 := by
  intro i
  induction i with
  | zero => intro _; simp
  | succ i ih =>
    intro hi
    rw [flat_snoc (by omega), List.length_append, ih (by omega), h i (by omega)]
    omega
def IdsAt (w : World) (Y : Option Addr) (ids : List (List Int)) : Prop := ∀ i, i < ids.length → (ids.getD i []).length = 32 ∧ Byt (ids.getD i []) ∧ ∃ ad, Y = some ad ∧ ∀ (j : Nat) (v : Value), (nums .u8 (ids.getD i []))[j]? = some v → w.cell? (ad.add (i * 32 + j)) = some v
theorem put_ok (k n o : Int) (p b : List Int) (ids : List (List Int)) (hk : -9223372036854775808 ≤ k ∧ k ≤ 9223372036854775807) (hn : 0 ≤ n ∧ n ≤ 18446744073709551615) (ho : 0 ≤ o ∧ o ≤ 18446744073709551615) (hp : p.length = 32) (hpy : Byt p) (A : Option Addr) (bc : Nat) (Y : Option Addr) (yc : Nat) (hb : Kd.C (Kd.int .u8) w A b.length b) (hby : Byt b) (hY : IdsAt w Y ids) (hF : FAt w)
    (hbl : b.length ≤ 9223372036854775807) (hyl : ids.length ≤ 9223372036854775807) (hc : chk k (accN n o p b.length ids.length) b.length ids.length = 0) :
    Calls Tryd.prog 8 #[.agg (ncells k n o p (.slice A b.length bc) (.slice Y ids.length yc)).toArray] w fun e w' => ∃ v, e = .returned (.tuple #[v, .int .i64 0]) ∧ Kd.R (Kd.int .u8) 5 w' w.heap.size (fun _ => True) v (putNum k ++ px (fld k) 1 p ++ px (fld k) 2 (putNum n) ++ px (fld k) 4 (putNum o) ++ px (fld k) 8 (putNum b.length ++ b) ++ px (fld k) 16 (putNum ids.length ++ ids.flatten)) ∧ Below w.heap.size w w' := by
  have hbad : ¬ chkBad k (accN n o p b.length ids.length) b.length ids.length := fun h => by unfold chk at hc; rw [if_pos h] at hc; cases hc
  have hkr : 1 ≤ k ∧ k ≤ 14 := by
    have h : kindOf k = true := by
      cases e : kindOf k
      · exact absurd (.inr (.inl e)) hbad
      · rfl
    unfold kindOf at h
    simpa using h
  have hb1m : (b.length : Int) ≤ 1048576 := by
    have h : ¬ mostOf k < (b.length : Int) := fun h => hbad (.inr (.inr (.inr (.inl h))))
    unfold mostOf at h
    split at h <;> omega
  have hi64 : ids.length ≤ 64 := by
    have h : ¬ 64 < ids.length := fun h => hbad (.inr (.inr (.inr (.inr h))))
    omega
  obtain ⟨cs, hcs⟩ : ∃ cs, cs = (ncells k n o p (.slice A b.length bc) (.slice Y ids.length yc)).toArray := ⟨_, rfl⟩
  rw [← hcs]
  have HCS := Aside0.mk hcs
  have HF := Aside0.mk (And.intro hF (And.intro hk (And.intro hbl (And.intro hyl hc))))
  have HB := Aside0.mk (And.intro hb (And.intro hby (And.intro hY (And.intro hpy (And.intro hn ho)))))
  obtain ⟨kk, rfl⟩ : ∃ kk : Nat, k = kk := ⟨k.toNat, by omega⟩
  have hkk1 : 1 ≤ kk := by omega
  have hkk2 : kk ≤ 14 := by omega
  have hwu : IntKind.u64.wrap (kk : Int) = kk := wraps_u64 _ (by omega) (by omega)
  have i15 : ((kk : Int) < 15) = True := eq_true (by omega)
  have i15d : decide ((kk : Int) < 15) = true := decide_eq_true (by omega)
  have i15n : decide (kk < 15) = true := decide_eq_true (by omega)
  obtain ⟨fk, hfk⟩ : ∃ fk, fk = fld kk := ⟨_, rfl⟩
  rw [← hfk]
  have HFK := Aside0.mk hfk
  clear hcs hF hk hbl hyl hc hb hby hY hpy hn ho hbad hkr hfk
  go_enter Tryd.func8, Tryd.ntmps8
  go_upto_region 4 with (first
    | ((with_reducible refine gate_dst (N := 1) rfl ?_); refine box_event ?hg (N := 1) ?hd (cs := cs) (t := 28) ?hr ?_; (case hd => rfl); (case hg => rfl); (case hr => exact exec_box _ _ _ rfl cs rfl); intro gb hgb w1 hbox hb1; have H1 := Aside0.mk (And.intro (show NoteAt w1 gb kk n o p (.slice A b.length bc) (.slice Y ids.length yc) by rw [HCS.out] at hbox; exact hbox) (And.intro hb1 hgb)); clear hbox hb1 hgb)
    | ((with_reducible refine gate_dst (N := 9) rfl ?_); refine Kd.event_run rfl (v := .agg cs) (w1 := w1) ?hr ?_; (case hr => (rw [HCS.out]; exact load_note (P := Tryd.prog) H1.out.1 hp (.tmp 1) rfl rfl)))
    | (go_at_call 11; go_loud (obtain ⟨hF, hk, hbl, hyl, hc⟩ := HF.out; have hx := check_calls (w := w1) kk n o hk p hp A b.length bc Y ids.length yc (hF.below H1.out.2.1) hbl hyl; rw [← HCS.out, hc] at hx; refine hx.mono ?_; clear hx; rintro e w2 ⟨rfl, hb2⟩; have H2 := Aside0.mk (And.intro (H1.out.1.below hb2) (And.intro (below_step H1.out.2.1 hb2) (show gb < w2.heap.size by have := blk_lt (H1.out.1.below hb2); omega))); clear hb2 hF hk hbl hyl hc)))
  obtain ⟨wd, hwd⟩ : ∃ wd, wd = w2.drew := ⟨_, rfl⟩
  have hbd : Below w2.heap.size w2 wd := by rw [hwd]; exact below_drew1 (Below.refl _ _)
  have HD := Aside0.mk (And.intro (And.intro (H2.out.1.below hbd) (HF.out.1.below (below_step H2.out.2.1 hbd))) (below_step H2.out.2.1 hbd))
  clear hbd H2 H1
  refine start_ (n := 7) (S := fun w' => NoteAt w' gb kk n o p (.slice A b.length bc) (.slice Y ids.length yc) ∧ FAt w') (ds := []) #[false, false, false, false, false, false, false] (by kernel_rfl) rfl rfl (by rw [← hwd]; exact HD.out.1) (fun hHeld => ?_)
  rw [← hwd] at hHeld ⊢
  clear hwd
  refine pure_ (i := 1) (N := some 15) (v := ?_) (a' := ?_) #[false, true, false, false, false, false, false] rfl rfl (by kernel_rfl) (fun _ _ _ h => h) (Or.inl ⟨by rfl, ?_⟩) ?_ ?_
  rotate_left
  · intro w'
    go_simp
    with_reducible rfl
  rotate_left
  · simp only [Act.put, List.setIfInBounds_toArray, List.set_cons_zero, List.set_cons_succ, i64_w, i32_w]
    rfl
  refine take_ (i := 2) (N := some 16) (v := ?_) (a' := ?_) #[false, true, true, false, false, false, false] rfl rfl (by kernel_rfl) (fun _ _ _ h => h) (Or.inl ⟨by rfl, ?_⟩) hHeld ?_ ?_
  rotate_left
  · rintro w' s0
    obtain ⟨a0, a1, a2, a3, a4, a5⟩ := NoteAt.cells s0.1 hp
    go_simp
    with_reducible rfl
  rotate_left
  · simp only [Act.put, List.setIfInBounds_toArray, List.set_cons_zero, List.set_cons_succ, i64_w, i32_w]
    rfl
  refine pure_ (i := 3) (N := some 17) (v := ?_) (a' := ?_) #[false, true, true, true, false, false, false] rfl rfl (by kernel_rfl) (fun _ _ _ h => h) (Or.inl ⟨by rfl, ?_⟩) ?_ ?_
  rotate_left
  · intro w'
    go_simp
    with_reducible rfl
  rotate_left
  · simp only [Act.put, List.setIfInBounds_toArray, List.set_cons_zero, List.set_cons_succ, i64_w, i32_w]
    rfl
  refine take_ (i := 4) (N := some 18) (v := ?_) (a' := ?_) #[false, true, true, true, true, false, false] rfl rfl (by kernel_rfl) (fun _ _ _ h => h) (Or.inl ⟨by rfl, ?_⟩) hHeld ?_ ?_
  rotate_left
  · rintro w' s0
    have hf0 := s0.2 kk (by omega); rw [← HFK.out] at hf0
    go_simp
    with_reducible rfl
  rotate_left
  · simp only [Act.put, List.setIfInBounds_toArray, List.set_cons_zero, List.set_cons_succ, i64_w, i32_w]
    rfl
  refine one_ (i := 0) (N := some 14) #[true, true, true, true, true, false, false] rfl rfl (by kernel_rfl) (by decide) (fun K hK => ?_)
  refine goes_ Tryd.func16 (by kernel_rfl) rfl #[] (by rfl) rfl rfl (by simp) ?_
  refine (newWriter_calls (w := wd)).mono ?_
  rintro e w3 ⟨rfl, hd3, hb3⟩
  refine ⟨_, rfl, ?_⟩
  obtain ⟨gw, hgw⟩ : ∃ gw, gw = wd.heap.size := ⟨_, rfl⟩
  have HP3 : Aside0 (PI w w3 gb gw kk n o p (.slice A b.length bc) (.slice Y ids.length yc) []) := ⟨⟨⟨Span wd w3, by rw [hgw]; exact hd3, fun j hj => by have := hj.1; omega⟩, HD.out.1.1.below hb3, below_step HD.out.2 hb3, by rw [hgw]; exact blk_lt HD.out.1.1, by rw [hgw]; exact HD.out.2.size⟩⟩
  have HF3 := Aside0.mk (HD.out.1.2.below hb3)
  rw [← hgw]
  clear hd3 hb3 hgw
  refine hK.out _ _ (⟨HP3.out.nt, HF3.out⟩) (fun hHeld => ?_)
  clear hK K
  refine norm_ (a' := ?_) ?_ ?_
  rotate_left
  · show Act.put _ (some 14) _ = _
    simp only [Act.put, List.setIfInBounds_toArray, List.set_cons_zero, List.set_cons_succ, i64_w, i32_w]
    rfl
  refine pure_ (i := 5) (N := some 5) (v := ?_) (a' := ?_) #[true, true, true, true, true, true, false] rfl rfl (by kernel_rfl) (fun _ _ _ h => h) (Or.inl ⟨by rfl, ?_⟩) ?_ ?_
  rotate_left
  · intro w'
    go_simp
    with_reducible rfl
  rotate_left
  · simp only [Act.put, List.setIfInBounds_toArray, List.set_cons_zero, List.set_cons_succ, i64_w, i32_w]
    rfl
  refine pure_ (i := 6) (N := some 6) (v := ?_) (a' := ?_) #[true, true, true, true, true, true, true] rfl rfl (by kernel_rfl) (fun _ _ _ h => h) (Or.inl ⟨by rfl, ?_⟩) ?_ ?_
  rotate_left
  · intro w'
    go_simp
    with_reducible rfl
  rotate_left
  · simp only [Act.put, List.setIfInBounds_toArray, List.set_cons_zero, List.set_cons_succ, i64_w, i32_w]
    rfl
  refine done_ (by kernel_rfl) ?_
  clear hHeld HD HF3
  obtain ⟨a0, a1, a2, a3, a4, a5⟩ := NoteAt.cells HP3.out.nt hp
  go_upto_if 26 with (go_at_call 17; go_loud (obtain ⟨F, hW, hF⟩ := HP3.out.wr; have hx := wuint_calls HP3.out.w0 HP3.out.ge hW (kk : Int) (by omega) (by omega) (by simp); refine hx.mono ?_; clear hx; rintro e w4 hw4; have h4 := HP3.out.step hW hF hw4; obtain ⟨rfl, _⟩ := hw4; rw [List.nil_append] at h4; have HP4 := Aside0.mk h4; clear h4 hW hF))
  clear a0 a1 a2 a3 a4 a5
  have L0 := (putNum_len kk).1
  have L1 : (px fk 1 p).length ≤ 32 := by have := px_len fk 1 p; omega
  have L2 : (px fk 2 (putNum n)).length ≤ 10 := by have := px_len fk 2 (putNum n); have := (putNum_len n).1; omega
  have L3 : (px fk 4 (putNum o)).length ≤ 10 := by have := px_len fk 4 (putNum o); have := (putNum_len o).1; omega
  have L4 : (px fk 8 (putNum b.length ++ b)).length ≤ 1048586 := by have h1 := px_len fk 8 (putNum b.length ++ b); rw [List.length_append] at h1; have h2 := (putNum_len (b.length : Int)).1; omega
  go_cut [] (fun wc => Aside0 (PI w wc gb gw kk n o p (.slice A b.length bc) (.slice Y ids.length yc) (putNum kk ++ px fk 1 p)))
  case first =>
    obtain ⟨a0, a1, a2, a3, a4, a5⟩ := NoteAt.cells HP4.out.nt hp
    by_cases hc : 0 < bits .and .i64 fk 1
    · have hd : decide (0 < bits .and .i64 fk 1) = true := decide_eq_true hc
      go_wp2_with ((go_at_call 18; go_loud (obtain ⟨F, hW, hF⟩ := HP4.out.wr; have hr := note_row HP4.out.nt hp; have hx := wfixed_calls HP4.out.w0 HP4.out.ge hW (some ⟨gb, 1, none⟩) 32 32 hp.symm hr (by (try simp only [List.length_append]); have := L0; have := L1; have := L2; have := L3; have := L4; omega) HB.out.2.2.2.1; refine hx.mono ?_; clear hx; rintro e w9 hw9; have h9 := HP4.out.step hW hF hw9; obtain ⟨rfl, _⟩ := hw9; have HQ := Aside0.mk h9; clear h9 hW hF)))
      go_meet
      case rel => exact ⟨by rw [px_on (show fbit fk 1 = true from hd)]; exact HQ.out⟩
    · have hd : decide (0 < bits .and .i64 fk 1) = false := decide_eq_false hc
      go_wp2
      go_meet
      case rel => exact ⟨by rw [px_off (show fbit fk 1 = false from hd), List.append_nil]; exact HP4.out⟩
  case rest =>
    have HPC1 := hcut
    clear hcut HP4
    obtain ⟨a0, a1, a2, a3, a4, a5⟩ := NoteAt.cells HPC1.out.nt hp
    go_upto_if 33 with (fail)
    clear a0 a1 a2 a3 a4 a5
    go_cut [] (fun wc => Aside0 (PI w wc gb gw kk n o p (.slice A b.length bc) (.slice Y ids.length yc) (putNum kk ++ px fk 1 p ++ px fk 2 (putNum n))))
    case first =>
      obtain ⟨a0, a1, a2, a3, a4, a5⟩ := NoteAt.cells HPC1.out.nt hp
      by_cases hc : 0 < bits .and .i64 fk 2
      · have hd : decide (0 < bits .and .i64 fk 2) = true := decide_eq_true hc
        go_wp2_with ((go_at_call 17; go_loud (obtain ⟨F, hW, hF⟩ := HPC1.out.wr; have hx := wuint_calls HPC1.out.w0 HPC1.out.ge hW n HB.out.2.2.2.2.1.1 (by have := HB.out.2.2.2.2.1.2; omega) (by (try simp only [List.length_append]); have := L0; have := L1; have := L2; have := L3; have := L4; omega); refine hx.mono ?_; clear hx; rintro e w9 hw9; have h9 := HPC1.out.step hW hF hw9; obtain ⟨rfl, _⟩ := hw9; have HQ := Aside0.mk h9; clear h9 hW hF)))
        go_meet
        case rel => exact ⟨by rw [px_on (show fbit fk 2 = true from hd)]; exact HQ.out⟩
      · have hd : decide (0 < bits .and .i64 fk 2) = false := decide_eq_false hc
        go_wp2
        go_meet
        case rel => exact ⟨by rw [px_off (show fbit fk 2 = false from hd), List.append_nil]; exact HPC1.out⟩
    case rest =>
      have HPC2 := hcut
      clear hcut HPC1
      obtain ⟨a0, a1, a2, a3, a4, a5⟩ := NoteAt.cells HPC2.out.nt hp
      go_upto_if 40 with (fail)
      clear a0 a1 a2 a3 a4 a5
      go_cut [] (fun wc => Aside0 (PI w wc gb gw kk n o p (.slice A b.length bc) (.slice Y ids.length yc) (putNum kk ++ px fk 1 p ++ px fk 2 (putNum n) ++ px fk 4 (putNum o))))
      case first =>
        obtain ⟨a0, a1, a2, a3, a4, a5⟩ := NoteAt.cells HPC2.out.nt hp
        by_cases hc : 0 < bits .and .i64 fk 4
        · have hd : decide (0 < bits .and .i64 fk 4) = true := decide_eq_true hc
          go_wp2_with ((go_at_call 17; go_loud (obtain ⟨F, hW, hF⟩ := HPC2.out.wr; have hx := wuint_calls HPC2.out.w0 HPC2.out.ge hW o HB.out.2.2.2.2.2.1 (by have := HB.out.2.2.2.2.2.2; omega) (by (try simp only [List.length_append]); have := L0; have := L1; have := L2; have := L3; have := L4; omega); refine hx.mono ?_; clear hx; rintro e w9 hw9; have h9 := HPC2.out.step hW hF hw9; obtain ⟨rfl, _⟩ := hw9; have HQ := Aside0.mk h9; clear h9 hW hF)))
          go_meet
          case rel => exact ⟨by rw [px_on (show fbit fk 4 = true from hd)]; exact HQ.out⟩
        · have hd : decide (0 < bits .and .i64 fk 4) = false := decide_eq_false hc
          go_wp2
          go_meet
          case rel => exact ⟨by rw [px_off (show fbit fk 4 = false from hd), List.append_nil]; exact HPC2.out⟩
      case rest =>
        have HPC3 := hcut
        clear hcut HPC2
        obtain ⟨a0, a1, a2, a3, a4, a5⟩ := NoteAt.cells HPC3.out.nt hp
        go_upto_if 47 with (fail)
        clear a0 a1 a2 a3 a4 a5
        go_cut [] (fun wc => Aside0 (PI w wc gb gw kk n o p (.slice A b.length bc) (.slice Y ids.length yc) (putNum kk ++ px fk 1 p ++ px fk 2 (putNum n) ++ px fk 4 (putNum o) ++ px fk 8 (putNum b.length ++ b))))
        case first =>
          obtain ⟨a0, a1, a2, a3, a4, a5⟩ := NoteAt.cells HPC3.out.nt hp
          by_cases hc : 0 < bits .and .i64 fk 8
          · have hd : decide (0 < bits .and .i64 fk 8) = true := decide_eq_true hc
            go_wp2_with ((go_at_call 19; go_loud (obtain ⟨F, hW, hF⟩ := HPC3.out.wr; have hx := wbytes_calls0 HPC3.out.w0 HPC3.out.ge hW A b.length bc rfl (fun V hV => c_far HB.out.1 HPC3.out.w0 hV (fun k h => Nat.le_trans HPC3.out.ge (hF k h))) (by (try simp only [List.length_append]); have := L0; have := L1; have := L2; have := L3; have := L4; omega) HB.out.2.1; refine hx.mono ?_; clear hx; rintro e w9 hw9; have h9 := HPC3.out.step hW hF hw9; obtain ⟨rfl, _⟩ := hw9; have HQ := Aside0.mk h9; clear h9 hW hF)))
            go_meet
            case rel => exact ⟨by rw [px_on (show fbit fk 8 = true from hd)]; rw [← List.append_assoc]; exact HQ.out⟩
          · have hd : decide (0 < bits .and .i64 fk 8) = false := decide_eq_false hc
            go_wp2
            go_meet
            case rel => exact ⟨by rw [px_off (show fbit fk 8 = false from hd), List.append_nil]; exact HPC3.out⟩
        case rest =>
          have HPC4 := hcut
          clear hcut HPC3
          obtain ⟨a0, a1, a2, a3, a4, a5⟩ := NoteAt.cells HPC4.out.nt hp
          go_upto_if 54 with (fail)
          clear a0 a1 a2 a3 a4 a5
          go_cut [] (fun wc => Aside0 (PI w wc gb gw kk n o p (.slice A b.length bc) (.slice Y ids.length yc) (putNum kk ++ px fk 1 p ++ px fk 2 (putNum n) ++ px fk 4 (putNum o) ++ px fk 8 (putNum b.length ++ b) ++ px fk 16 (putNum ids.length ++ ids.flatten))))
          case first =>
            obtain ⟨a0, a1, a2, a3, a4, a5⟩ := NoteAt.cells HPC4.out.nt hp
            by_cases hc : 0 < bits .and .i64 fk 16
            · have hd : decide (0 < bits .and .i64 fk 16) = true := decide_eq_true hc
              have hwy : IntKind.u64.wrap (ids.length : Int) = ids.length := wraps_u64 _ (by omega) (by omega)
              go_wp2_with (go_at_call 17; go_loud (obtain ⟨F, hW, hF⟩ := HPC4.out.wr; have hx := wuint_calls HPC4.out.w0 HPC4.out.ge hW (ids.length : Int) (by omega) (by omega) (by (try simp only [List.length_append]); have := L0; have := L1; have := L2; have := L3; have := L4; omega); refine hx.mono ?_; clear hx; rintro e w9 hw9; have h9 := HPC4.out.step hW hF hw9; obtain ⟨rfl, _⟩ := hw9; obtain ⟨b0, b1, b2, b3, b4, b5⟩ := NoteAt.cells h9.nt hp; have HQ := Aside0.mk h9; clear h9 hW hF))
              have HQ0 : Aside0 (PI w w9 gb gw kk n o p (.slice A b.length bc) (.slice Y ids.length yc) ((putNum kk ++ px fk 1 p ++ px fk 2 (putNum n) ++ px fk 4 (putNum o) ++ px fk 8 (putNum b.length ++ b)) ++ putNum ids.length ++ (ids.take 0).flatten)) := ⟨by rw [List.take_zero, List.flatten_nil, List.append_nil]; exact HQ.out⟩
              clear HQ a0 a1 a2 a3 a4 a5
              go_loopg [64] ids.length (fun q v64 wr => ∃ i : Nat, v64 = .int .i64 i ∧ q + i = ids.length ∧ Aside0 (PI w wr gb gw kk n o p (.slice A b.length bc) (.slice Y ids.length yc) ((putNum kk ++ px fk 1 p ++ px fk 2 (putNum n) ++ px fk 4 (putNum o) ++ px fk 8 (putNum b.length ++ b)) ++ putNum ids.length ++ (ids.take i).flatten)))
              case atStart => exact ⟨0, rfl, by omega, HQ0⟩
              case round =>
                clear HQ0
                obtain ⟨i, rfl, hq, hI⟩ := hrel
                by_cases hlt : i < ids.length
                · have d2 : decide ((i : Int) < (ids.length : Int)) = true := decide_eq_true (by omega)
                  have d2n : decide (i < ids.length) = true := decide_eq_true (by omega)
                  have hL := (flat_len (fun j hj => (HB.out.2.2.1 j hj).1) i (by omega))
                  obtain ⟨hl32, hbi, ad, hYe, hcell⟩ := HB.out.2.2.1 i hlt
                  subst hYe
                  obtain ⟨id, hid⟩ : ∃ id, id = ids.getD i [] := ⟨_, rfl⟩
                  rw [← hid] at hl32 hbi hcell
                  have hcw : ∀ (j : Nat) (v : Value), (nums .u8 id)[j]? = some v → wr.cell? ((ad.add (i * 32)).add j) = some v := fun j v hv => by
                    have h := hcell j v hv
                    rw [Go.Deep.add_add]
                    exact (hI.out.w0.cell (World.block_lt_of_cell? w _ h)).trans h
                  have hone : (nums .u8 id).toArray.all (·.oneCell') = true := by unfold nums; simp [Value.oneCell']
                  have hsz : (Tryd.prog.info? 23).map (·.size) = some (nums .u8 id).toArray.size := by rw [List.size_toArray, nums_length, hl32]; kernel_rfl
                  have hsz2 : zidL.toArray.size = (nums .u8 id).toArray.size := by show zidL.toArray.size = (nums .u8 id).length; rw [nums_length, hl32]; rfl
                  have HZ := Aside0.mk (And.intro hcw (And.intro hone (And.intro hsz (And.intro hsz2 (And.intro hl32 (And.intro hbi (And.intro hid hL)))))))
                  clear hcw hone hsz hsz2 hl32 hbi hid hcell hL
                  go_wp2_with (first
                    | ((with_reducible refine gate_dst (N := 67) rfl ?_); refine Kd.event_run rfl (v := .agg (nums .u8 id).toArray) (w1 := wr) ?hr ?_; (case hr => exact exec_load_any wr 23 (.tmp 66) rfl (ad.add (i * 32)) rfl (nums .u8 id) _ HZ.out.1 Tryd.underlying23 rfl (by have h := HZ.out.2.2.1; rw [List.size_toArray] at h; exact h)))
                    | ((with_reducible refine gate_dst (N := 8) rfl ?_); go_loud (refine Kd.event_run (v := .pointer (some ⟨wr.heap.size, 0, none⟩)) (w1 := wr.alloc (.cells zidL.toArray 23)) rfl ?hr ?_; (case hr => first | (go_simp; done) | (go_simp; rfl))))
                    | ((with_reducible refine gate_store (ty := 23) (x := .tmp 8) (y := .tmp 67) rfl ?_); refine wpList_store_row rfl 23 (.tmp 8) (.tmp 67) rfl wr.heap.size (nums .u8 id).toArray rfl rfl 23 zidL.toArray (blk_new wr _) HZ.out.2.2.1 HZ.out.2.2.2.1 HZ.out.2.1 ?_; go_loud (refine wpName (fun W5 hW5 => ?_); have hb5 : Below wr.heap.size wr W5 := (by rw [hW5]; exact below_setRow (below_alloc (Below.refl _ _) _) (Nat.le_refl _) _); have hr5 : W5.heap[wr.heap.size]? = some (.cells (nums .u8 id).toArray 23 (0, 0)) := (by rw [hW5]; exact setRow_heap _ _ _ _ _ _ (blk_new wr _)); have H5 := Aside0.mk (And.intro (hI.out.below hb5) hr5); clear hW5 hb5 hr5))
                    | (go_at_call 18; go_loud (obtain ⟨F, hW, hF⟩ := H5.out.1.wr; have hr := arr_row H5.out.2 (by have := HZ.out.2.2.2.2.1; omega); have hx := wfixed_calls H5.out.1.w0 H5.out.1.ge hW (some ⟨wr.heap.size, 0, none⟩) 32 32 HZ.out.2.2.2.2.1.symm hr (by simp only [List.length_append]; have := L0; have := L1; have := L2; have := L3; have := L4; have := HZ.out.2.2.2.2.2.2.2; have := HZ.out.2.2.2.2.1; have := (putNum_len (ids.length : Int)).1; omega) HZ.out.2.2.2.2.2.1; refine hx.mono ?_; clear hx; rintro e w10 hw10; have h10 := H5.out.1.step hW hF hw10; obtain ⟨rfl, _⟩ := hw10; have HQ := Aside0.mk h10; clear h10 hW hF hr)))
                  go_roundg (ids.length - (i + 1))
                  case measure => omega
                  case rel => exact ⟨i + 1, by go_num, by omega, ⟨by rw [flat_snoc hlt, ← HZ.out.2.2.2.2.2.2.1, ← List.append_assoc]; exact HQ.out⟩⟩
                · have d2 : decide ((i : Int) < (ids.length : Int)) = false := decide_eq_false (by omega)
                  have d2n : decide (i < ids.length) = false := decide_eq_false (by omega)
                  go_wp2
                  go_meet
                  case rel => exact ⟨by rw [px_on (show fbit fk 16 = true from hd), ← List.append_assoc]; have h := hI.out; rw [List.take_of_length_le (by omega)] at h; exact h⟩
            · have hd : decide (0 < bits .and .i64 fk 16) = false := decide_eq_false hc
              go_wp2
              go_meet
              case rel => exact ⟨by rw [px_off (show fbit fk 16 = false from hd), List.append_nil]; exact HPC4.out⟩
          case rest =>
            have HPC5 := hcut
            clear hcut HPC4
            go_wp2_with (go_at_call 20; go_loud (obtain ⟨F, hW, hF⟩ := HPC5.out.wr; have hx := wout_calls hW; refine hx.mono ?_; clear hx; rintro e w9 ⟨v9, rfl, hv9, hb9⟩; have H9 := Aside0.mk (And.intro (Kd.R_lower hv9 HPC5.out.w0.size) (below_step HPC5.out.w0 hb9)); clear hv9 hb9 hW hF))
            go_ret2
            exact ⟨_, rfl, H9.out.1, H9.out.2⟩
end
end Go.Proofs.YtlcanfniphdelaaDoor.Not
