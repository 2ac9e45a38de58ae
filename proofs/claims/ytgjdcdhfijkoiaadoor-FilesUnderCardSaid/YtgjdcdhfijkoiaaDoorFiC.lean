/- files.Get: the tree of bytes. -/
import Derived.Test.YtgjdcdhfijkoiaaDoorFiB
import Derived.Test.YtgjdcdhfijkoiaaDoorCoB
section
namespace Go.Proofs.YtgjdcdhfijkoiaaDoor.Str
open Go.RowKit Go.Proofs.YtgjdcdhfijkoiaaDoorW.PrintWords Go.Proofs.YtgjdcdhfijkoiaaDoorW.PrintLast Go.Proofs.YtgjdcdhfijkoiaaDoorW.PrintMore Go.Proofs.YtgjdcdhfijkoiaaDoor.Mem Go.Proofs.YtgjdcdhfijkoiaaDoor.PCod Go.Proofs.YtgjdcdhfijkoiaaDoor.Cod
set_option linter.unusedVariables false
set_option linter.unusedSimpArgs false
/-- What is held may become more, behind some operations of a drawn region. -/
theorem hold_ {P : Program} {md : Region.Mode} {ops : Array Oper} {Q : Exit → Act → World → Prop} {S' : World → Prop} {ds : List Nat} : ∀ (fuel : Nat) (l : Array Bool) (a : Act) (w : World), wpAnyLast P md ops Q S' ds fuel l a w → wpAnyLast P md ops Q (fun _ => True) ds fuel l a w
  | 0, _, _, _, h => h
  | fuel + 1, _, _, _, h => ⟨h.1, fun i hi => wpOp_mono (fun a' w' h' => ⟨fun _ _ => trivial, hold_ fuel _ a' w' h'.2⟩) (h.2 i hi)⟩
theorem info50 : (Tryd.prog.info? 50).map (fun i => (i.zero, i.size, i.bytes)) = some (some (.agg #[(.string ⟨#[]⟩), .slice none 0 0]), 2, 40) := by kernel_rfl
def oneF (R : RM) : FS := ⟨strOfNums (R.bytes 255).2, ((R.bytes 255).1.bytes 1048576).2⟩
def stepF (R : RM) : RM := ((R.bytes 255).1.bytes 1048576).1
def getGo : Nat → RM → List FS → RM × List FS
  | 0, R, o => (R, o)
  | n + 1, R, o => if R.e ≠ 0 then (R, o) else getGo n (stepF R) (o ++ [oneF R])
def getM (b : List Int) : List FS × Int :=
  if 65536 < (⟨b, 0⟩ : RM).uint.2 then ([], 13) else
  if (getGo (⟨b, 0⟩ : RM).uint.2.toNat (⟨b, 0⟩ : RM).uint.1 []).1.end_ ≠ 0 then ([], (getGo (⟨b, 0⟩ : RM).uint.2.toNat (⟨b, 0⟩ : RM).uint.1 []).1.end_) else
  if checkM (getGo (⟨b, 0⟩ : RM).uint.2.toNat (⟨b, 0⟩ : RM).uint.1 []).2 ≠ 0 then ([], 11) else ((getGo (⟨b, 0⟩ : RM).uint.2.toNat (⟨b, 0⟩ : RM).uint.1 []).2, 0)
/-- The reader, and what has come out of it. -/
structure GS (w W : World) (b2 g : Nat) (R : RM) (v : Value) (o : List FS) : Prop where
  bl : Below w.heap.size w W
  b0 : w.heap.size ≤ b2
  bs : b2 ≤ W.heap.size
  rd : ∃ F : Nat → Prop, RdAt W F g R ∧ (∀ k, F k → w.heap.size ≤ k ∧ k < b2) ∧ F g
  out : Kd.R k50 50 W w.heap.size (fun k => b2 ≤ k) v o
section
variable {w W W' : World} {b2 g : Nat} {R R' : RM} {v : Value} {o : List FS}
theorem GS.below (h : GS w W b2 g R v o) (hb : Below W.heap.size W W') : GS w W' b2 g R v o := by
  obtain ⟨F, h1, h2, h3⟩ := h.rd
  exact ⟨below_step h.bl hb, h.b0, Nat.le_trans h.bs hb.size, ⟨F, h1.below hb, h2, h3⟩, Kd.R_below h.out hb⟩
theorem GS.lt (h : GS w W b2 g R v o) : g < b2 := by
  obtain ⟨F, h1, h2, h3⟩ := h.rd
  exact (h2 g h3).2
theorem GS.step (h : GS w W b2 g R v o) (hb : Below w.heap.size w W') (hk : Kept W W' (fun k => k = g)) (hd : ∀ F : Nat → Prop, RdAt W F g R → (∀ k, F k → w.heap.size ≤ k ∧ k < b2) → RdAt W' F g R') : GS w W' b2 g R' v o := by
  have hlt := h.lt
  obtain ⟨F, h1, h2, h3⟩ := h.rd
  exact ⟨hb, h.b0, Nat.le_trans h.bs hk.1, ⟨F, hd F h1 h2, h2, h3⟩, Kd.R_kept h.out hk (fun k hk e => by have : k = g := e; omega)⟩
theorem GS.uint (h : GS w W b2 g R v o) : Calls Tryd.prog 50 #[.pointer (some ⟨g, 0, none⟩)] W fun e w' => e = .returned (.int .u64 R.uint.2) ∧ GS w w' b2 g R.uint.1 v o := by
  have hlt := h.lt
  obtain ⟨F, h1, h2, h3⟩ := h.rd
  refine (uint_any h.bl (fun k hk => (h2 k hk).1) h1).mono ?_
  rintro e w' ⟨rfl, q1, q2, q3⟩
  exact ⟨rfl, q2, h.b0, Nat.le_trans h.bs q3.1, ⟨F, q1, h2, h3⟩, Kd.R_kept h.out q3 (fun k hk e => by have : k = g := e; omega)⟩
theorem GS.err (h : GS w W b2 g R v o) : Calls Tryd.prog 51 #[.pointer (some ⟨g, 0, none⟩)] W fun e w' => e = .returned (.int .i64 R.e) ∧ W = w' := by
  obtain ⟨F, h1, h2, h3⟩ := h.rd
  exact err_calls h1
theorem GS.end_ (h : GS w W b2 g R v o) : Calls Tryd.prog 53 #[.pointer (some ⟨g, 0, none⟩)] W fun e w' => e = .returned (.int .i64 R.end_) ∧ W = w' := by
  obtain ⟨F, h1, h2, h3⟩ := h.rd
  exact end_calls h1
theorem GS.byt (h : GS w W b2 g R v o) : Byt R.b := by
  obtain ⟨F, h1, h2, h3⟩ := h.rd
  exact h1.byt
theorem GS.bytes (h : GS w W b2 g R v o) (m : Int) (hm : m ≤ 9223372036854775807) : Calls Tryd.prog 52 #[.pointer (some ⟨g, 0, none⟩), .int .i64 m] W fun e w' => ∃ u, e = .returned u ∧ Kd.R (Kd.int .u8) 5 w' W.heap.size (fun k => some k = u.ownBlock) u (R.bytes m).2 ∧ GS w w' b2 g (R.bytes m).1 v o ∧ Kept W w' (fun k => k = g) := by
  have hlt := h.lt
  obtain ⟨F, h1, h2, h3⟩ := h.rd
  refine (bytes_calls h.bl (fun k hk => (h2 k hk).1) h1 m hm).mono ?_
  rintro e w' ⟨u, rfl, q0, q1, q2, q3⟩
  exact ⟨u, rfl, Kd.R_tight rfl q0, ⟨q2, h.b0, Nat.le_trans h.bs q3.1, ⟨F, q1, h2, h3⟩, Kd.R_kept h.out q3 (fun k hk e => by have : k = g := e; omega)⟩, q3⟩
/-- A row of bytes in its own block stays, where its block stays. -/
theorem row_stays {e N : Nat} {u : Value} {p : List Int} {S : Nat → Prop} (h : Kd.R (Kd.int .u8) e W N (fun k => some k = u.ownBlock) u p) (hk : Kept W W' S) (hs : ∀ k, N ≤ k → ¬ S k) : Kd.R (Kd.int .u8) e W' N (fun k => some k = u.ownBlock) u p :=
  Kd.R_mono (Kd.R_kept (Kd.R_bound h) hk (fun k hk => hs k hk.2.1)) (fun k hk => hk.1)
theorem row_conv {N : Nat} {u : Value} {p : List Int} {ok : Nat → Prop} (hy : Byt p) (h : Kd.R (Kd.int .u8) 5 W N ok u p) : (convert 27 9 u).run Tryd.prog W = .ok (.string (S p)) W := by
  obtain ⟨A, c, rfl, _, hC⟩ := Kd.R_reads h
  exact conv_row rfl hC (Below.refl _ _)
end
section
variable {w : World}
set_option maxRecDepth 100000 in
set_option maxHeartbeats 4000000 in
theorem get_calls {b : List Int} {A : Option Addr} {c : Nat} (hr : Kd.C (Kd.int .u8) w A b.length b) (hc : b.length ≤ c) (hl : b.length < 140737488355328) (hy : Byt b) :
    Calls Tryd.prog 22 #[.slice A b.length c] w fun e w' => ∃ v, e = .returned (.tuple #[v, .int .i64 (getM b).2]) ∧ Kd.R k50 50 w' w.heap.size (fun _ => True) v (getM b).1 ∧ Below w.heap.size w w' := by
  have hx := Aside0.mk (newReader_calls A c hr hc hl hy)
  obtain ⟨bl, hbl⟩ : ∃ k, k = b.length := ⟨_, rfl⟩
  rw [← hbl] at hx ⊢
  obtain ⟨R1, hR1⟩ : ∃ x, x = (⟨b, 0⟩ : RM).uint.1 := ⟨_, rfl⟩
  obtain ⟨n, hn⟩ : ∃ x, x = (⟨b, 0⟩ : RM).uint.2 := ⟨_, rfl⟩
  have hn0 : 0 ≤ n ∧ n ≤ 18446744073709551615 := by
    have h := RM.uint_bd (R := ⟨b, 0⟩) hy
    rw [← hn] at h
    omega
  have hg : getM b = if 65536 < n then ([], 13) else if (getGo n.toNat R1 []).1.end_ ≠ 0 then ([], (getGo n.toNat R1 []).1.end_) else if checkM (getGo n.toNat R1 []).2 ≠ 0 then ([], 11) else ((getGo n.toNat R1 []).2, 0) := by
    unfold getM
    rw [← hn, ← hR1]
  have HG := Aside0.mk (And.intro hg (And.intro hR1 hn))
  clear hr hc hl hy hbl hg hR1 hn
  by_cases hbig : 65536 < n
  · have hgm : getM b = ([], 13) := by rw [HG.out.1, if_pos hbig]
    rw [hgm]
    have d1 : decide (n > 65536) = true := decide_eq_true hbig
    have HM := Aside0.mk hgm
    clear hgm
    go_enter Tryd.func22, Tryd.ntmps22
    go_wp2_with (first
      | (go_at_call 49; go_loud (refine hx.out.mono ?_; rintro e w1 ⟨g, rfl, h1, h2⟩; have H1 := Aside0.mk (show GS w w1 w1.heap.size g ⟨b, 0⟩ (.slice none 0 0) [] from ⟨h2, h2.size, Nat.le_refl _, ⟨_, h1, fun k hk => hk, by obtain ⟨_, _, q, _⟩ := h1; exact q⟩, Kd.R_nil _ _ _ _ _⟩); clear h1 h2))
      | (go_at_call 50; go_loud (have hu := H1.out.uint; rw [← HG.out.2.2, ← HG.out.2.1] at hu; refine hu.mono ?_; clear hu; rintro e w2 ⟨rfl, h2⟩; have H2 := Aside0.mk h2; clear h2)))
    go_ret2
    exact ⟨_, rfl, Kd.R_nil _ _ _ _ _, H2.out.bl⟩
  · have d1 : decide (n > 65536) = false := decide_eq_false hbig
    obtain ⟨m, rfl⟩ : ∃ m : Nat, n = m := ⟨n.toNat, by omega⟩
    have hm : m ≤ 65536 := by omega
    clear hbig hn0
    go_enter Tryd.func22, Tryd.ntmps22
    go_wp2_with (first
      | (go_at_call 49; go_loud (refine hx.out.mono ?_; rintro e w1 ⟨g, rfl, h1, h2⟩; obtain ⟨b2, hb2⟩ : ∃ x, x = w1.heap.size := ⟨_, rfl⟩; have H1 := Aside0.mk (show GS w w1 b2 g ⟨b, 0⟩ (.slice none 0 0) [] from ⟨h2, by rw [hb2]; exact h2.size, by rw [hb2]; exact Nat.le_refl _, ⟨_, h1, fun k hk => by rw [hb2]; exact hk, by obtain ⟨_, _, q, _⟩ := h1; exact q⟩, Kd.R_nil _ _ _ _ _⟩); clear h1 h2 hb2))
      | (go_at_call 50; go_loud (have hu := H1.out.uint; rw [← HG.out.2.2, ← HG.out.2.1] at hu; refine hu.mono ?_; clear hu; rintro e w2 ⟨rfl, h2⟩; have H2 := Aside0.mk h2; clear h2)))
    go_loopg [6, 15] m (fun q v6 v15 wr => ∃ (i : Nat) (R : RM) (o : List FS), v15 = .int .u64 i ∧ q + i = m ∧ Aside0 (GS w wr b2 g R v6 o ∧ getGo m R1 [] = getGo q R o ∧ o.length ≤ i))
    case atStart => exact ⟨0, R1, [], rfl, rfl, ⟨H2.out, rfl, Nat.le_refl _⟩⟩
    case round =>
      clear H1 H2
      obtain ⟨i, R, o, rfl, hq, hI⟩ := hrel
      by_cases hgo : i < m ∧ R.e = 0
      · obtain ⟨hlt, he⟩ := hgo
        have d2 : decide ((i : Int) < (m : Int)) = true := decide_eq_true (by omega)
        obtain ⟨q', rfl⟩ : ∃ q', gk = q' + 1 := ⟨gk - 1, by omega⟩
        have hst : getGo m R1 [] = getGo q' (stepF R) (o ++ [oneF R]) := by rw [hI.out.2.1, getGo, if_neg (by simpa using he)]
        have HST := Aside0.mk hst
        have HO := Aside0.mk (show (o.length + 1) * 40 ≤ 140737488355328 from by have := hI.out.2.2; omega)
        have HO2 := Aside0.mk hI.out.2.2
        have hie := hI.out.1.err
        rw [he] at hie
        have HE := Aside0.mk hie
        clear hst hie
        go_upto_region 9 with (go_at_call 51; go_loud (refine HE.out.mono ?_; rintro e w7 ⟨rfl, rfl⟩; dsimp only))
        obtain ⟨wd, hwd⟩ : ∃ x, x = wr.drew := ⟨_, rfl⟩
        have HD := Aside0.mk (show GS w wd b2 g R u6 o from by rw [hwd]; exact hI.out.1.below (below_drew1 (Below.refl _ _)))
        clear hI HE he
        refine start_ (n := 10) (S := fun _ => True) (ds := []) #[false, false, false, false, false, false, false, false, false, false] (by kernel_rfl) rfl (by kernel_rfl) (trivial) (fun hHeld => ?_)
        rw [← hwd]
        clear hHeld
        have hHeld : True := trivial
        clear hwd
        refine pure_ (i := 0) (N := some 20) (v := ?_) (a' := ?_) #[true, false, false, false, false, false, false, false, false, false] rfl rfl (by kernel_rfl) (fun _ _ _ h => h) (Or.inl ⟨by rfl, ?_⟩) ?_ ?_
        rotate_left
        · intro w'
          go_simp
          with_reducible rfl
        rotate_left
        · simp only [Act.put, List.setIfInBounds_toArray, List.set_cons_zero, List.set_cons_succ, i64_w, i32_w]
          rfl
        refine pure_ (i := 1) (N := some 21) (v := ?_) (a' := ?_) #[true, true, false, false, false, false, false, false, false, false] rfl rfl (by kernel_rfl) (fun _ _ _ h => h) (Or.inl ⟨by rfl, ?_⟩) ?_ ?_
        rotate_left
        · intro w'
          go_simp
          with_reducible rfl
        rotate_left
        · simp only [Act.put, List.setIfInBounds_toArray, List.set_cons_zero, List.set_cons_succ, i64_w, i32_w]
          rfl
        refine pure_ (i := 4) (N := some 24) (v := ?_) (a' := ?_) #[true, true, false, false, true, false, false, false, false, false] rfl rfl (by kernel_rfl) (fun _ _ _ h => h) (Or.inl ⟨by rfl, ?_⟩) ?_ ?_
        rotate_left
        · intro w'
          go_simp
          with_reducible rfl
        rotate_left
        · simp only [Act.put, List.setIfInBounds_toArray, List.set_cons_zero, List.set_cons_succ, i64_w, i32_w]
          rfl
        refine one_ (i := 2) (N := some 22) #[true, true, true, false, true, false, false, false, false, false] rfl rfl (by kernel_rfl) (by decide) (fun K hK => ?_)
        refine goes_ Tryd.func52 (by kernel_rfl) rfl #[.pointer (some ⟨g, 0, none⟩), .int .i64 255] (by rfl) rfl rfl (by (try simp only [List.map_toArray, List.map_cons, List.map_nil]); rfl) ?_
        refine (HD.out.bytes 255 (by omega)).mono ?_
        rintro e w8 ⟨u8, rfl, hr8, h8, hk8⟩
        refine ⟨_, rfl, ?_⟩
        have H8 := Aside0.mk (And.intro hr8 (And.intro h8 hk8))
        clear hr8 h8 hk8
        refine hK.out _ _ (trivial) (fun hHeld => ?_)
        clear hK K
        refine norm_ (a' := ?_) ?_ ?_
        rotate_left
        · show Act.put _ (some 22) _ = _
          simp only [Act.put, List.setIfInBounds_toArray, List.set_cons_zero, List.set_cons_succ, i64_w, i32_w]
          rfl
        refine hold_ (S' := fun W => Kd.R (Kd.int .u8) 5 W wd.heap.size (fun k => some k = u8.ownBlock) u8 (R.bytes 255).2) _ _ _ _ ?_
        have hHeld2 := H8.out.1
        clear hHeld
        have hHeld := hHeld2
        clear hHeld2
        have hyp : Byt (R.bytes 255).2 := (RM.bytes_byt HD.out.byt 255).2
        have HYP := Aside0.mk hyp
        refine take_ (i := 3) (N := some 23) (v := ?_) (a' := ?_) #[true, true, true, true, true, false, false, false, false, false] rfl rfl (by kernel_rfl) (fun _ _ _ h => h) (Or.inl ⟨by rfl, ?_⟩) hHeld ?_ ?_
        rotate_left
        · rintro w' s0
          have hcv := row_conv hyp s0
          go_simp
          with_reducible rfl
        rotate_left
        · simp only [Act.put, List.setIfInBounds_toArray, List.set_cons_zero, List.set_cons_succ, i64_w, i32_w]
          rfl
        clear hyp
        refine one_ (i := 5) (N := some 25) #[true, true, true, true, true, true, false, false, false, false] rfl rfl (by kernel_rfl) (by decide) (fun K hK => ?_)
        refine goes_ Tryd.func52 (by kernel_rfl) rfl #[.pointer (some ⟨g, 0, none⟩), .int .i64 1048576] (by rfl) rfl rfl (by (try simp only [List.map_toArray, List.map_cons, List.map_nil]); rfl) ?_
        refine (H8.out.2.1.bytes 1048576 (by omega)).mono ?_
        rintro e w9 ⟨u9, rfl, hr9, h9, hk9⟩
        obtain ⟨A9, c9, rfl, _, _⟩ := Kd.R_reads hr9
        obtain ⟨n9, hn9⟩ : ∃ k, k = ((R.bytes 255).1.bytes 1048576).2.length := ⟨_, rfl⟩
        rw [← hn9] at hr9 ⊢
        clear hn9
        refine ⟨_, rfl, ?_⟩
        have hp9 := row_stays H8.out.1 hk9 (fun k hk e => by have h1 := HD.out.lt; have h2 := HD.out.bs; have : k = g := e; omega)
        have H9 := Aside0.mk (And.intro hr9 (And.intro h9 hp9))
        clear hr9 h9 hk9 hp9
        refine hK.out _ _ (H9.out.2.2) (fun hHeld => ?_)
        clear hK K
        refine norm_ (a' := ?_) ?_ ?_
        rotate_left
        · show Act.put _ (some 25) _ = _
          simp only [Act.put, List.setIfInBounds_toArray, List.set_cons_zero, List.set_cons_succ, i64_w, i32_w]
          rfl
        refine pure_ (i := 6) (N := some 26) (v := ?_) (a' := ?_) #[true, true, true, true, true, true, true, false, false, false] rfl rfl (by kernel_rfl) (fun _ _ _ h => h) (Or.inl ⟨by rfl, ?_⟩) ?_ ?_
        rotate_left
        · intro w'
          go_simp
          with_reducible rfl
        rotate_left
        · simp only [Act.put, List.setIfInBounds_toArray, List.set_cons_zero, List.set_cons_succ, i64_w, i32_w]
          rfl
        refine one_ (i := 7) (N := some 27) #[true, true, true, true, true, true, true, true, false, false] rfl rfl (by kernel_rfl) (by decide) (fun K hK => ?_)
        refine value_ (w1 := ?_) (v := ?_) (by rfl) rfl ?_ ?_
        rotate_left 2
        · go_simp
          constructor
          · rfl
          · rfl
        refine hK.out _ _ (row_stays H9.out.2.2 (Kept.of_below (below_alloc (Below.refl _ _) _) (fun _ => False)) (fun _ _ h => h)) (fun hHeld => ?_)
        clear hK K
        refine norm_ (a' := ?_) ?_ ?_
        rotate_left
        · show Act.put _ (some 27) _ = _
          simp only [Act.put, List.setIfInBounds_toArray, List.set_cons_zero, List.set_cons_succ, i64_w, i32_w]
          rfl
        refine one_ (i := 8) (N := some 28) #[true, true, true, true, true, true, true, true, true, false] rfl rfl (by kernel_rfl) (by decide) (fun K hK => ?_)
        refine Kd.R_append_step k50 (w0 := w) w.heap.size ?aW (.tmp 20) (.tmp 27) 22 50 (.agg #[(.string ⟨#[]⟩), .slice none 0 0]) 40 ?as0 Tryd.underlying22 info50 rfl (by decide) (by omega) u6 o (oneF R) [.string (S (R.bytes 255).2), .slice A9 n9 c9] (fun k => b2 ≤ k) (fun k => some k = (Value.slice A9 n9 c9).ownBlock ∧ w8.heap.size ≤ k) ?as1 ?as2 ?aP ?aK ?aF ?aO ?aB ?aS ?aL ?_
        case aW => rfl
        case as0 => rfl
        case as1 => rfl
        case as2 => rfl
        case aP => exact k50_mkM _ _ _ (oneF R) (Kd.R_lower (Kd.R_mono (Kd.R_bound H9.out.1) (fun k hk => ⟨hk.1, hk.2.1⟩)) H8.out.2.1.bl.size)
        case aK => exact fun k hk => ⟨Nat.le_trans H8.out.2.1.bs hk.2, fun e => by have h := (Kd.R_bound H8.out.2.1.out).1 k e.symm; have h2 := h.2.2.1; omega⟩
        case aF => exact fun k hk => Nat.le_trans H9.out.2.1.bs hk
        case aO => exact H9.out.2.1.out
        case aB => exact H9.out.2.1.bl
        case aS => exact H9.out.2.1.bl.size
        case aL => have := HO.out; omega
        intro v1 wb ho1 hb1 hg1 hat1
        have hkp : Kept w9 wb (fun k => some k = u6.ownBlock) := Kept.of_grown hg1 (Kept.refl _ _) (fun k e => .inl e.symm)
        have hv6 : ∀ k, some k = u6.ownBlock → b2 ≤ k ∧ k < wd.heap.size := fun k e => by
          have h := (Kd.R_bound HD.out.out).1 k e.symm
          exact ⟨h.1, h.2.2.1⟩
        have Hb := Aside0.mk (show GS w wb b2 g (stepF R) v1 (o ++ [oneF R]) from by
          obtain ⟨F, q1, q2, q3⟩ := H9.out.2.1.rd
          exact ⟨hb1, H9.out.2.1.b0, Nat.le_trans H9.out.2.1.bs hkp.1, ⟨F, q1.kept hkp (fun k hf e => by have h1 := q2 k hf; have h2 := hv6 k e; omega), q2, q3⟩, ho1⟩)
        have hp10 := row_stays H9.out.2.2 hkp (fun k hk e => by have h2 := hv6 k e; omega)
        have HP10 := Aside0.mk hp10
        clear ho1 hb1 hg1 hat1 hkp hp10 hv6
        refine hK.out _ _ (HP10.out) (fun hHeld => ?_)
        clear hK K
        refine norm_ (a' := ?_) ?_ ?_
        rotate_left
        · show Act.put _ (some 28) _ = _
          simp only [Act.put, List.setIfInBounds_toArray, List.set_cons_zero, List.set_cons_succ, i64_w, i32_w]
          rfl
        refine pure_ (i := 9) (N := some 6) (v := ?_) (a' := ?_) #[true, true, true, true, true, true, true, true, true, true] rfl rfl (by kernel_rfl) (fun _ _ _ h => h) (Or.inl ⟨by rfl, ?_⟩) ?_ ?_
        rotate_left
        · intro w'
          go_simp
          with_reducible rfl
        rotate_left
        · simp only [Act.put, List.setIfInBounds_toArray, List.set_cons_zero, List.set_cons_succ, i64_w, i32_w]
          rfl
        refine done_ (by kernel_rfl) ?_
        go_wp2
        go_roundg q'
        case measure => omega
        case rel => exact ⟨i + 1, stepF R, o ++ [oneF R], by go_num, by omega, ⟨Hb.out, HST.out, by rw [List.length_append]; have := HO2.out; simp; omega⟩⟩
      · have hend : getGo m R1 [] = (R, o) := by
          rw [hI.out.2.1]
          cases hk : gk with
          | zero => rfl
          | succ q' => rw [getGo, if_pos (fun h => hgo ⟨by omega, h⟩)]
        have hg2 : getM b = if R.end_ ≠ 0 then ([], R.end_) else if checkM o ≠ 0 then ([], 11) else (o, 0) := by
          rw [HG.out.1, if_neg (by omega), Int.toNat_natCast, hend]
        have hol : o.length ≤ 100000 := by have := hI.out.2.2; omega
        have hcase : (¬ i < m ∧ decide ((i : Int) < (m : Int)) = false) ∨ (i < m ∧ decide ((i : Int) < (m : Int)) = true ∧ (R.e != 0) = true) := by
          by_cases h : i < m
          · exact .inr ⟨h, decide_eq_true (by omega), bne_iff_ne.2 (fun he => hgo ⟨h, he⟩)⟩
          · exact .inl ⟨h, decide_eq_false (by omega)⟩
        obtain ⟨ee, hee⟩ : ∃ x, x = R.end_ := ⟨_, rfl⟩
        obtain ⟨ck, hck⟩ : ∃ x, x = checkM o := ⟨_, rfl⟩
        rw [← hee, ← hck] at hg2
        have HG2 := Aside0.mk hg2
        have HE := Aside0.mk (And.intro hee hck)
        have HI := Aside0.mk (And.intro hI.out.1 hol)
        clear hend hg2 hgo hI hol hee hck hq HG
        obtain ⟨A6, c6, rfl, hc6, hC6⟩ := Kd.R_reads HI.out.1.out
        have hck2 := check_calls (c := c6) hC6 HI.out.2
        obtain ⟨ol, hol2⟩ : ∃ k, k = o.length := ⟨_, rfl⟩
        rw [← hol2, ← HE.out.2] at hck2
        rw [← hol2] at HI ⊢
        have HCK := Aside0.mk hck2
        clear hck2 hol2 hc6 hC6
        rcases hcase with ⟨k1, d2⟩ | ⟨k1, d2, d3⟩
        all_goals
          by_cases he0 : ee = 0
          · subst he0
            by_cases hc0 : ck = 0
            · subst hc0
              have hg3 : getM b = (o, 0) := by rw [HG2.out, if_neg (by simp), if_neg (by simp)]
              have HG3 := Aside0.mk hg3
              clear hg3
              go_wp2_with (first
                | (go_at_call 51; go_loud (refine HI.out.1.err.mono ?_; rintro e w7 ⟨rfl, rfl⟩; dsimp only))
                | (go_at_call 53; go_loud (have hx := HI.out.1.end_; rw [← HE.out.1] at hx; refine hx.mono ?_; clear hx; rintro e w7 ⟨rfl, rfl⟩; dsimp only))
                | (go_at_call 20; go_loud (refine HCK.out.mono ?_; rintro e w8 ⟨rfl, hb8⟩; dsimp only; have H8 := Aside0.mk hb8; clear hb8)))
              go_ret2
              exact ⟨_, by rw [HG3.out]; rfl, by rw [HG3.out]; exact Kd.R_mono (Kd.R_below HI.out.1.out H8.out) (fun _ _ => trivial), below_step HI.out.1.bl H8.out⟩
            · have hg3 : getM b = ([], 11) := by rw [HG2.out, if_neg (by simp), if_pos hc0]
              have HG3 := Aside0.mk hg3
              have d4 : (ck != 0) = true := bne_iff_ne.2 hc0
              clear hg3 hc0
              go_wp2_with (first
                | (go_at_call 51; go_loud (refine HI.out.1.err.mono ?_; rintro e w7 ⟨rfl, rfl⟩; dsimp only))
                | (go_at_call 53; go_loud (have hx := HI.out.1.end_; rw [← HE.out.1] at hx; refine hx.mono ?_; clear hx; rintro e w7 ⟨rfl, rfl⟩; dsimp only))
                | (go_at_call 20; go_loud (refine HCK.out.mono ?_; rintro e w8 ⟨rfl, hb8⟩; dsimp only; have H8 := Aside0.mk hb8; clear hb8)))
              go_ret2
              exact ⟨_, by rw [HG3.out]; rfl, by rw [HG3.out]; exact Kd.R_nil _ _ _ _ _, below_step HI.out.1.bl H8.out⟩
          · have hg3 : getM b = ([], ee) := by rw [HG2.out, if_pos he0]
            have HG3 := Aside0.mk hg3
            have d4 : (ee != 0) = true := bne_iff_ne.2 he0
            clear hg3 he0
            go_wp2_with (first
              | (go_at_call 51; go_loud (refine HI.out.1.err.mono ?_; rintro e w7 ⟨rfl, rfl⟩; dsimp only))
              | (go_at_call 53; go_loud (have hx := HI.out.1.end_; rw [← HE.out.1] at hx; refine hx.mono ?_; clear hx; rintro e w7 ⟨rfl, rfl⟩; dsimp only; have H7 := Aside0.mk trivial)))
            go_ret2
            exact ⟨_, by rw [HG3.out]; rfl, by rw [HG3.out]; exact Kd.R_nil _ _ _ _ _, HI.out.1.bl⟩
end
end Go.Proofs.YtgjdcdhfijkoiaaDoor.Str
end
section
namespace Go.Proofs.YtgjdcdhfijkoiaaDoor.Str
open Go.RowKit Go.Proofs.YtgjdcdhfijkoiaaDoorW.PrintWords Go.Proofs.YtgjdcdhfijkoiaaDoorW.PrintLast Go.Proofs.YtgjdcdhfijkoiaaDoorW.PrintMore Go.Proofs.YtgjdcdhfijkoiaaDoor.Mem Go.Proofs.YtgjdcdhfijkoiaaDoor.PCod Go.Proofs.YtgjdcdhfijkoiaaDoor.Cod
set_option linter.unusedVariables false
set_option linter.unusedSimpArgs false
def cutB (s : ByteArray) : ByteArray := if slashAt s < 0 then s else s.extract 0 (slashAt s).toNat
def cutA (s : ByteArray) : ByteArray := if slashAt s < 0 then ⟨#[]⟩ else s.extract ((slashAt s).toNat + 1) s.size
def cutQ (s : ByteArray) : Bool := decide (0 ≤ slashAt s)
section
variable {w : World}
set_option maxRecDepth 100000 in
set_option maxHeartbeats 4000000 in
theorem cut_calls (s : ByteArray) (hs : s.size ≤ 1000000000) : Calls Tryd.prog 59 #[.string s, .string ⟨#[47]⟩] w fun e w' => e = .returned (.tuple #[.string (cutB s), .string (cutA s), .bool (cutQ s)]) ∧ Below w.heap.size w w' := by
  have h : Calls Tryd.prog 79 #[.string s, .string ⟨#[47]⟩] w fun e w' => e = .returned (.tuple #[.string (cutB s), .string (cutA s), .bool (cutQ s)]) ∧ Below w.heap.size w w' := by
    obtain ⟨i, hi⟩ : ∃ i, i = slashAt s := ⟨_, rfl⟩
    have hidx : Calls Tryd.prog 87 #[.string s, .string ⟨#[47]⟩] w fun e w' => e = .returned (.int .i64 i) ∧ w' = w := by rw [hi]; exact slIndex_calls s 47 w
    have HI := Aside0.mk hidx
    clear hidx
    by_cases hn : i < 0
    · have d1 : decide (i ≥ 0) = false := decide_eq_false (by omega)
      have d1b : decide (0 ≤ i) = false := decide_eq_false (by omega)
      have e1 : cutB s = s := by unfold cutB; rw [if_pos (by rw [← hi]; exact hn)]
      have e2 : cutA s = ⟨#[]⟩ := by unfold cutA; rw [if_pos (by rw [← hi]; exact hn)]
      have e3 : cutQ s = false := by unfold cutQ; rw [← hi]; exact d1b
      have HE := Aside0.mk (And.intro e1 (And.intro e2 e3))
      clear e1 e2 e3 hi hn
      go_enter Tryd.func79, Tryd.ntmps79
      go_wp2_with (go_at_call 87; go_loud (refine HI.out.mono ?_; rintro e w' ⟨rfl, rfl⟩; dsimp only))
      go_ret3
      exact ⟨by rw [HE.out.1, HE.out.2.1, HE.out.2.2]; rfl, Below.refl _ _⟩
    · obtain ⟨o, rfl⟩ : ∃ o : Nat, i = o := ⟨i.toNat, by omega⟩
      have hol := slash_lt hi.symm
      have d1 : decide ((o : Int) ≥ 0) = true := decide_eq_true (by omega)
      have hle : o ≤ s.size := by omega
      have hle1 : o + 1 ≤ s.size := by omega
      have hw1 : wrap64 ((o : Int) + 1) = ((o + 1 : Nat) : Int) := (IntWalk.wrap64_in _ ⟨by omega, by omega⟩).trans (by omega)
      have e1 : cutB s = s.extract 0 o := by unfold cutB; rw [if_neg (by rw [← hi]; exact hn), ← hi, Int.toNat_natCast]
      have e2 : cutA s = s.extract (o + 1) s.size := by unfold cutA; rw [if_neg (by rw [← hi]; exact hn), ← hi, Int.toNat_natCast]
      have e3 : cutQ s = true := by unfold cutQ; rw [← hi]; exact decide_eq_true (by clear hw1; omega)
      have HE := Aside0.mk (And.intro e1 (And.intro e2 e3))
      clear e1 e2 e3 hi hn hol
      go_enter Tryd.func79, Tryd.ntmps79
      go_wp2_with (go_at_call 87; go_loud (refine HI.out.mono ?_; rintro e w' ⟨rfl, rfl⟩; dsimp only))
      repeat (go_quiet (fail); try go_wp2)
      go_ret3
      exact ⟨by rw [HE.out.1, HE.out.2.1, HE.out.2.2]; rfl, pw_below_drewN (Below.refl _ _) _⟩
  go_enter Tryd.func59, Tryd.ntmps59
  go_wp2_with (go_at_call 79; go_loud (refine h.mono ?_; rintro e w' ⟨rfl, hb⟩; dsimp only; have HB := Aside0.mk hb; clear hb))
  go_ret3
  exact ⟨rfl, HB.out⟩
/-- What stands behind a front, and whether it does. -/
def pre (s p : ByteArray) : Bool := decide (p.size ≤ s.size) && ((s.extract 0 p.size).toList == p.toList)
theorem cutPrefix_calls (s p : ByteArray) : Calls Tryd.prog 58 #[.string s, .string p] w fun e w' => e = .returned (.tuple #[.string (if pre s p = true then s.extract p.size s.size else s), .bool (pre s p)]) ∧ Below w.heap.size w w' := by
  have hf : strings_CutPrefix.f s p = some (if pre s p = true then s.extract p.size s.size else s, pre s p) := by
    unfold strings_CutPrefix.f stringslite_CutPrefix.f stringslite_HasPrefix.f pre
    by_cases h : p.size ≤ s.size
    · rw [if_pos (by omega), if_pos (by omega), if_pos (by omega), Int.toNat_natCast, decide_eq_true h, Bool.true_and]
      cases hq : ((s.extract 0 p.size).toList == p.toList)
      · simp
      · simp only [Option.bind_some, if_pos]
        rw [if_pos (by omega), if_pos (by omega)]
        rfl
    · rw [if_neg (by omega), decide_eq_false h]
      simp
  refine (strings_CutPrefix.calls s p _ _ w hf).mono ?_
  rintro e w' ⟨rfl, hd⟩
  exact ⟨rfl, hd.below⟩
end
end Go.Proofs.YtgjdcdhfijkoiaaDoor.Str
end
section
namespace Go.Proofs.YtgjdcdhfijkoiaaDoor.Str
open Go.RowKit Go.Proofs.YtgjdcdhfijkoiaaDoorW.PrintWords Go.Proofs.YtgjdcdhfijkoiaaDoorW.PrintLast Go.Proofs.YtgjdcdhfijkoiaaDoorW.PrintMore Go.Proofs.YtgjdcdhfijkoiaaDoor.Mem Go.Proofs.YtgjdcdhfijkoiaaDoor.PCod Go.Proofs.YtgjdcdhfijkoiaaDoor.Cod
set_option linter.unusedVariables false
set_option linter.unusedSimpArgs false
def slashB : ByteArray := ⟨#[47]⟩
def dirP (d : ByteArray) : ByteArray := if d.toList = [] then d else d ++ slashB
def restP (p s : ByteArray) : ByteArray := s.extract p.size s.size
/-- One file more: the names, whether they are directories, what was seen. -/
def undStep (p : ByteArray) (f : FS) (z : List ByteArray × List Bool) : List ByteArray × List Bool :=
  if pre f.f0 p = true then (if (cutB (restP p f.f0)).data.toList ∈ z.1.map (fun n => n.data.toList) then z else (z.1 ++ [cutB (restP p f.f0)], z.2 ++ [cutQ (restP p f.f0)])) else z
def undM (l : List FS) (d : ByteArray) : List ByteArray × List Bool := l.foldl (fun z f => undStep (dirP d) f z) ([], [])
/-- What has been found, in the worlds' rows. -/
structure US (w W : World) (bm : Nat) (i : Nat) (v u : Value) (z : List ByteArray × List Bool) : Prop where
  bl : Below w.heap.size w W
  sn : Seen W bm i (z.1.map (fun n => n.data.toList)).reverse
  b0 : w.heap.size ≤ bm
  ns : Kd.R Kd.string 9 W w.heap.size (fun k => bm < k) v z.1
  ds : Kd.R Kd.bool 4 W w.heap.size (fun k => bm < k) u z.2
section
variable {w W W' : World} {bm i : Nat} {v u : Value} {z : List ByteArray × List Bool}
theorem US.below (h : US w W bm i v u z) (hb : Below W.heap.size W W') : US w W' bm i v u z :=
  ⟨below_step h.bl hb, h.sn.blk (hb.block _ h.sn.lt), h.b0, Kd.R_below h.ns hb, Kd.R_below h.ds hb⟩
end
theorem rows_ne {α β : Type} {d1 : Kd α} {d2 : Kd β} {W : World} {N N' : Nat} {ok ok' : Nat → Prop} {v u : Value} {xs : List α} {ys : List β} {e e' : TypeId} (h : Kd.R d1 e W N ok v xs) (h' : Kd.R d2 e' W N' ok' u ys) (hE : d1.E = []) (hE' : d2.E = []) (hne : e ≠ e') : ∀ k, some k = v.ownBlock → some k = u.ownBlock → False := by
  intro k h1 h2
  obtain ⟨_, _, _, q, hq, cs, hc⟩ := (Kd.R_bound h).1 k h1.symm
  obtain ⟨_, _, _, q', hq', cs', hc'⟩ := (Kd.R_bound h').1 k h2.symm
  rw [hE] at hq
  rw [hE'] at hq'
  rw [List.mem_singleton.1 hq] at hc
  rw [List.mem_singleton.1 hq', hc] at hc'
  injection hc' with hc'
  injection hc' with _ hc' _
  exact hne hc'
theorem row_apart {α β : Type} {d1 : Kd α} {d2 : Kd β} {W W1 : World} {N N' : Nat} {ok ok' : Nat → Prop} {v u : Value} {xs : List α} {ys : List β} {e e' : TypeId} (h : Kd.R d1 e W N ok v xs) (h' : Kd.R d2 e' W N' ok' u ys) (hE : d1.E = []) (hE' : d2.E = []) (hne : e ≠ e') (hg : W.grownBy W1 v.ownBlock) : Kd.R d2 e' W1 N' ok' u ys :=
  Kd.R_mono (Kd.R_kept (Kd.R_tight2 hE' h') (Kept.of_grown hg (Kept.refl W (fun k => some k = v.ownBlock)) (fun k e => .inl e.symm)) (fun k hk e => rows_ne h h' hE hE' hne k e hk.1)) (fun k hk => hk.2)
theorem info_str : (Tryd.prog.info? 9).map (fun i => (i.zero, i.size, i.bytes)) = some (some (.string ⟨#[]⟩), 1, 16) := by kernel_rfl
theorem info_bool : (Tryd.prog.info? 4).map (fun i => (i.zero, i.size, i.bytes)) = some (some (.bool false), 1, 1) := by kernel_rfl
section
variable {w : World}
set_option maxRecDepth 100000 in
set_option maxHeartbeats 4000000 in
theorem under_calls {l : List FS} {A : Option Addr} {c : Nat} (hr : Kd.C k50 w A l.length l) (hl : l.length ≤ 100000) (d : ByteArray) (hd : d.size ≤ 1000000) (hps : ∀ f ∈ l, f.f0.size ≤ 1000000) :
    Calls Tryd.prog 26 #[.slice A l.length c, .string d] w fun e w' => ∃ v u, e = .returned (.tuple #[v, u]) ∧ Kd.R Kd.string 9 w' w.heap.size (fun _ => True) v (undM l d).1 ∧ Kd.R Kd.bool 4 w' w.heap.size (fun _ => True) u (undM l d).2 ∧ Below w.heap.size w w' := by
  obtain ⟨m, hm⟩ : ∃ m, m = l.length := ⟨_, rfl⟩
  have HX := Aside0.mk (And.intro hr (And.intro hm hps))
  rw [← hm] at hl ⊢
  obtain ⟨p, hp⟩ : ∃ p, p = dirP d := ⟨_, rfl⟩
  have hps2 : p.size ≤ 1000001 := by
    rw [hp]; unfold dirP slashB; split
    · omega
    · rw [ByteArray.size_append]; show d.size + 1 ≤ _; omega
  have HP := Aside0.mk (And.intro hp hps2)
  clear hr hm hps hps2
  have hcase : (d.toList.isEmpty = true ∧ d = p) ∨ (d.toList.isEmpty = false ∧ d ++ ⟨#[47]⟩ = p) := by
    cases hq : d.toList.isEmpty
    · exact .inr ⟨rfl, by rw [hp]; unfold dirP slashB; rw [if_neg (fun h => by rw [h] at hq; cases hq)]⟩
    · exact .inl ⟨rfl, by rw [hp]; unfold dirP; rw [if_pos (List.isEmpty_iff.1 hq)]⟩
  clear hp
  have hmm := @run_makeMap Tryd.prog
  rcases hcase with ⟨q0, hdp⟩ | ⟨q0, hdp⟩
  all_goals
    have hc1 : (9223372036854775807 < d.size + 1) = False := eq_false (by omega)
    have hc2 : (9223372036854775807 < d.size + (⟨#[47]⟩ : ByteArray).size) = False := hc1
    have HDP := Aside0.mk hdp
    clear hdp
    go_enter Tryd.func26, Tryd.ntmps26
    go_upto_region 7 with (fail)
    rw [HDP.out]
    clear HDP q0 hc1 hc2
    obtain ⟨w1, hw1⟩ : ∃ x, x = w.alloc (.map #[] 0) := ⟨_, rfl⟩
    have H1 := Aside0.mk (show US w w1 w.heap.size 0 (.slice none 0 0) (.slice none 0 0) ([], []) from by
      rw [hw1]
      exact ⟨below_alloc (Below.refl _ _) _, seen_made w, Nat.le_refl _, Kd.R_nil _ _ _ _ _, Kd.R_nil _ _ _ _ _⟩)
    rw [← hw1]
    clear hw1 hmm
    go_loopg [6, 7, 23] m (fun q v6 v7 v23 wr => ∃ (i j : Nat) (z : List ByteArray × List Bool), v23 = .int .i64 i ∧ q + i = m ∧ Aside0 (US w wr w.heap.size j v6 v7 z ∧ z = (l.take i).foldl (fun z f => undStep p f z) ([], []) ∧ j ≤ i ∧ z.1.length = j ∧ z.2.length = j))
    case atStart => exact ⟨0, 0, ([], []), rfl, by omega, ⟨H1.out, rfl, Nat.le_refl _, rfl, rfl⟩⟩
    case round =>
      clear H1
      obtain ⟨i, j, z, rfl, hq, hI⟩ := hrel
      by_cases hlt : i < m
      · have d1 : decide ((i : Int) < (m : Int)) = true := decide_eq_true (by omega)
        have hil : i < l.length := by rw [← HX.out.2.1]; exact hlt
        obtain ⟨ad, B, bc, rfl, c0, c1, hbc, hbC⟩ := at_T50 HX.out.1 (i : Int) (by omega) (by omega)
        obtain ⟨f, hf⟩ : ∃ f, f = l.getD i z50 := ⟨_, rfl⟩
        have hfs := HX.out.2.2 f (by rw [hf, List.getD_eq_getElem?_getD, List.getElem?_eq_getElem hil]; exact List.getElem_mem _)
        rw [show rd_T50 l (i : Int) = f by rw [hf]; rfl, Int.toNat_natCast] at c0 c1
        rw [show rd_T50 l (i : Int) = f by rw [hf]; rfl] at hbc hbC
        obtain ⟨s, b⟩ := f
        dsimp only at c0 c1 hbc hbC hfs
        obtain ⟨bl, hbl⟩ : ∃ k, k = b.length := ⟨_, rfl⟩
        rw [← hbl] at c1
        replace c0 := (hI.out.1.bl.cell (World.block_lt_of_cell? w _ c0)).trans c0
        replace c1 := (hI.out.1.bl.cell (World.block_lt_of_cell? w _ c1)).trans c1
        have hz1 : (l.take (i + 1)).foldl (fun z f => undStep p f z) ([], []) = undStep p ⟨s, b⟩ z := by
          rw [take_getD hil, List.foldl_append, ← hI.out.2.1, ← hf]
          rfl
        have HF := Aside0.mk (And.intro hz1 hfs)
        clear hf hil hbl hbc hbC hz1 hfs
        cases hpre : pre s p
        · have hu : undStep p ⟨s, b⟩ z = z := by unfold undStep; rw [if_neg (by rw [hpre]; decide)]
          have HU := Aside0.mk hu
          clear hu
          go_wp2_with (first
            | ((with_reducible refine gate_dst (N := 10) rfl ?_); refine file_new ?hg ?hr ?_; (case hg => rfl); (case hr => first | kernel_rfl | (go_simp; done) | (go_simp; rfl)); go_loud (intro w6 hx6 hb6 hs6; have H6 := Aside0.mk (And.intro hx6 hb6); clear hx6 hb6 hs6))
            | ((with_reducible refine gate_store (ty := 50) (x := .tmp 10) (y := .tmp 26) rfl ?_); refine file_put (s := s) (B := B) (bl := bl) (bc := bc) rfl (.tmp 10) (.tmp 26) rfl rfl rfl H6.out.1 ?_; go_loud (intro w7 hx7 hk7 hb7 hs7; have a0 : w7.cell? ⟨wr.heap.size, 0, none⟩ = some (.string s) := (blk_cell hx7 0).trans rfl; have H7 := Aside0.mk (hI.out.1.below (hb7 _ _ (Nat.le_refl _) H6.out.2)); clear hx7 hk7 hb7 hs7))
            | (go_at_call 58; go_loud (have hx := cutPrefix_calls (w := w7) s p; rw [hpre] at hx; refine hx.mono ?_; clear hx a0; rintro e w8 ⟨rfl, hb8⟩; have H8 := Aside0.mk (H7.out.below hb8); clear hb8)))
          go_roundg (m - (i + 1))
          case measure => omega
          case rel => exact ⟨i + 1, j, z, by go_num, by omega, ⟨H8.out, by rw [HF.out.1, HU.out], by have := hI.out.2.2.1; omega, hI.out.2.2.2⟩⟩
        · obtain ⟨nm, hnm⟩ : ∃ x, x = cutB (restP p s) := ⟨_, rfl⟩
          obtain ⟨dr, hdr⟩ : ∃ x, x = cutQ (restP p s) := ⟨_, rfl⟩
          have hnz : nm.size ≤ maxLen := by
            have h1 := HF.out.2
            rw [hnm]
            unfold cutB restP maxLen
            split
            · rw [ByteArray.size_extract]; omega
            · rw [ByteArray.size_extract, ByteArray.size_extract]; omega
          have hu : undStep p ⟨s, b⟩ z = if nm.data.toList ∈ z.1.map (fun n => n.data.toList) then z else (z.1 ++ [nm], z.2 ++ [dr]) := by
            unfold undStep
            rw [if_pos hpre, ← hnm, ← hdr]
          have HN := Aside0.mk (show nm = cutB (restP p s) ∧ dr = cutQ (restP p s) ∧ nm.size ≤ maxLen from ⟨hnm, hdr, hnz⟩)
          have HU := Aside0.mk hu
          obtain ⟨cA, hcA⟩ : ∃ x, x = cutA (restP p s) := ⟨_, rfl⟩
          clear hu hnm hdr hnz
          by_cases hse : nm.data.toList ∈ z.1.map (fun n => n.data.toList)
          · have hds : decide (nm.data.toList ∈ (z.1.map (fun n => n.data.toList)).reverse) = true := decide_eq_true (List.mem_reverse.2 hse)
            have HSE := Aside0.mk (And.intro hse hds)
            clear hse hds
            go_wp2_with (first
              | ((with_reducible refine gate_dst (N := 10) rfl ?_); refine file_new ?hg ?hr ?_; (case hg => rfl); (case hr => first | kernel_rfl | (go_simp; done) | (go_simp; rfl)); go_loud (intro w6 hx6 hb6 hs6; have H6 := Aside0.mk (And.intro hx6 hb6); clear hx6 hb6 hs6))
              | ((with_reducible refine gate_store (ty := 50) (x := .tmp 10) (y := .tmp 26) rfl ?_); refine file_put (s := s) (B := B) (bl := bl) (bc := bc) rfl (.tmp 10) (.tmp 26) rfl rfl rfl H6.out.1 ?_; go_loud (intro w7 hx7 hk7 hb7 hs7; have a0 : w7.cell? ⟨wr.heap.size, 0, none⟩ = some (.string s) := (blk_cell hx7 0).trans rfl; have H7 := Aside0.mk (hI.out.1.below (hb7 _ _ (Nat.le_refl _) H6.out.2)); clear hx7 hk7 hb7 hs7))
              | (go_at_call 58; go_loud (have hx := cutPrefix_calls (w := w7) s p; rw [hpre] at hx; refine hx.mono ?_; clear hx a0; rintro e w8 ⟨rfl, hb8⟩; have H8 := Aside0.mk (H7.out.below hb8); clear hb8))
              | (go_at_call 59; go_loud (have hx := cut_calls (w := w8) (restP p s) (by have h1 := HF.out.2; unfold restP; rw [ByteArray.size_extract]; omega); rw [← HN.out.1, ← HN.out.2.1] at hx; refine hx.mono ?_; clear hx; rintro e w9 ⟨rfl, hb9⟩; have h9 := H8.out.below hb9; have hlk := h9.sn.look (s := nm) HN.out.2.2; rw [HSE.out.2] at hlk; have H9 := Aside0.mk h9; clear hb9 h9)))
            go_roundg (m - (i + 1))
            case measure => omega
            case rel => exact ⟨i + 1, j, z, by go_num, by omega, ⟨H9.out, by rw [HF.out.1, HU.out, if_pos HSE.out.1], by have := hI.out.2.2.1; omega, hI.out.2.2.2⟩⟩
          · have hds : decide (nm.data.toList ∈ (z.1.map (fun n => n.data.toList)).reverse) = false := decide_eq_false (fun h => hse (List.mem_reverse.1 h))
            have HSE := Aside0.mk (And.intro hse (And.intro hds (show j ≤ 100000 by have := hI.out.2.2.1; omega)))
            have HSE2 := Aside0.mk (show z.1.length = j ∧ z.2.length = j from hI.out.2.2.2)
            clear hse hds
            go_wp2_with (first
              | ((with_reducible refine gate_dst (N := 10) rfl ?_); refine file_new ?hg ?hr ?_; (case hg => rfl); (case hr => first | kernel_rfl | (go_simp; done) | (go_simp; rfl)); go_loud (intro w6 hx6 hb6 hs6; have H6 := Aside0.mk (And.intro hx6 hb6); clear hx6 hb6 hs6))
              | ((with_reducible refine gate_store (ty := 50) (x := .tmp 10) (y := .tmp 26) rfl ?_); refine file_put (s := s) (B := B) (bl := bl) (bc := bc) rfl (.tmp 10) (.tmp 26) rfl rfl rfl H6.out.1 ?_; go_loud (intro w7 hx7 hk7 hb7 hs7; have a0 : w7.cell? ⟨wr.heap.size, 0, none⟩ = some (.string s) := (blk_cell hx7 0).trans rfl; have H7 := Aside0.mk (hI.out.1.below (hb7 _ _ (Nat.le_refl _) H6.out.2)); clear hx7 hk7 hb7 hs7))
              | (go_at_call 58; go_loud (have hx := cutPrefix_calls (w := w7) s p; rw [hpre] at hx; refine hx.mono ?_; clear hx a0; rintro e w8 ⟨rfl, hb8⟩; have H8 := Aside0.mk (H7.out.below hb8); clear hb8))
              | (go_at_call 59; go_loud (have hx := cut_calls (w := w8) (restP p s) (by have h1 := HF.out.2; unfold restP; rw [ByteArray.size_extract]; omega); rw [← HN.out.1, ← HN.out.2.1] at hx; refine hx.mono ?_; clear hx; rintro e w9 ⟨rfl, hb9⟩; have h9 := H8.out.below hb9; have hlk := h9.sn.look (s := nm) HN.out.2.2; rw [HSE.out.2.1] at hlk; obtain ⟨w10, hr10, hs10, hg10⟩ := h9.sn.put (s := nm) (by have := HSE.out.2.2; unfold maxLen; omega) HN.out.2.2; have hk10 : Kept w9 w10 (fun k => k = w.heap.size) := Kept.of_grown hg10 (Kept.refl _ _) (fun k e => by cases e; exact .inl rfl); have H10 := Aside0.mk (show Seen w10 w.heap.size (j + 1) ((z.1 ++ [nm]).map (fun n => n.data.toList)).reverse ∧ Below w.heap.size w w10 ∧ Kd.R Kd.string 9 w10 w.heap.size (fun k => w.heap.size < k) u6 z.1 ∧ Kd.R Kd.bool 4 w10 w.heap.size (fun k => w.heap.size < k) u7 z.2 from ⟨by rw [List.map_append, List.reverse_append]; exact hs10, h9.bl.grown hg10 h9.bl.size (fun k e => by cases e; exact Nat.le_refl _), Kd.R_kept h9.ns hk10 (fun k hk e => by have : k = w.heap.size := e; omega), Kd.R_kept h9.ds hk10 (fun k hk e => by have : k = w.heap.size := e; omega)⟩); clear hs10 hg10 hk10; have H9 := Aside0.mk h9; clear hb9 h9))
              | ((with_reducible refine gate_builtin (b := .append) (xs := #[.tmp 47, .tmp 49]) rfl ?_); at_builtin; go_loud ( refine Kd.R_append Kd.string (w0 := w) (W := w10) w.heap.size ?q1 (.tmp 47) (.tmp 49) 44 9 (.string ⟨#[]⟩) 16 ?q2 Tryd.underlying44 ?q3 ?q4 (by decide) (by decide) u6 z.1 nm [.string nm] (fun k => w.heap.size < k) (fun _ => False) ?q5 ?q6 ?aM (fun _ hk => hk.elim) ?aF ?aH ?aB ?aS ?aL ?_; (case q1 => rfl); (case q2 => rfl); (case q3 => exact info_str); (case q4 => rfl); (case q5 => rfl); (case q6 => rfl); (case aH => exact H10.out.2.2.1); (case aM => exact (show Kd.M Kd.string _ _ _ nm [.string nm] from rfl)); (case aF => exact fun k hk => Nat.lt_of_lt_of_le H10.out.1.lt hk); (case aB => exact H10.out.2.1); (case aS => exact H10.out.2.1.size); (case aL => have h := HSE.out.2.2; have h2 := HSE2.out; omega); intro v11 w11 ho11 hb11 hg11 _; have H11 := Aside0.mk (show Seen w11 w.heap.size (j + 1) ((z.1 ++ [nm]).map (fun n => n.data.toList)).reverse ∧ Below w.heap.size w w11 ∧ Kd.R Kd.string 9 w11 w.heap.size (fun k => w.heap.size < k) v11 (z.1 ++ [nm]) ∧ Kd.R Kd.bool 4 w11 w.heap.size (fun k => w.heap.size < k) u7 z.2 from ⟨H10.out.1.kept hg11 (fun e => by have h := (Kd.R_bound H10.out.2.2.1).1 _ e.symm; have h2 := h.1; omega), hb11, ho11, row_apart H10.out.2.2.1 H10.out.2.2.2 rfl rfl (by decide) hg11⟩); clear ho11 hb11 hg11))
              | ((with_reducible refine gate_builtin (b := .append) (xs := #[.tmp 51, .tmp 53]) rfl ?_); at_builtin; go_loud ( refine Kd.R_append Kd.bool (w0 := w) (W := w11) w.heap.size ?q1 (.tmp 51) (.tmp 53) 45 4 (.bool false) 1 ?q2 Tryd.underlying45 ?q3 ?q4 (by decide) (by decide) u7 z.2 dr [.bool dr] (fun k => w.heap.size < k) (fun _ => False) ?q5 ?q6 ?aM (fun _ hk => hk.elim) ?aF ?aH ?aB ?aS ?aL ?_; (case q1 => rfl); (case q2 => rfl); (case q3 => exact info_bool); (case q4 => rfl); (case q5 => rfl); (case q6 => rfl); (case aH => exact H11.out.2.2.2); (case aM => exact (show Kd.M Kd.bool _ _ _ dr [.bool dr] from rfl)); (case aF => exact fun k hk => Nat.lt_of_lt_of_le H11.out.1.lt hk); (case aB => exact H11.out.2.1); (case aS => exact H11.out.2.1.size); (case aL => have h := HSE.out.2.2; have h2 := HSE2.out; omega); intro v12 w12 ho12 hb12 hg12 _; have H12 := Aside0.mk (show US w w12 w.heap.size (j + 1) v11 v12 (z.1 ++ [nm], z.2 ++ [dr]) from ⟨hb12, H11.out.1.kept hg12 (fun e => by have h := (Kd.R_bound H11.out.2.2.2).1 _ e.symm; have h2 := h.1; omega), Nat.le_refl _, row_apart H11.out.2.2.2 H11.out.2.2.1 rfl rfl (by decide) hg12, ho12⟩); clear ho12 hb12 hg12)))
            go_roundg (m - (i + 1))
            case measure => omega
            case rel => exact ⟨i + 1, j + 1, (z.1 ++ [nm], z.2 ++ [dr]), by go_num, by omega, ⟨H12.out, by rw [HF.out.1, HU.out, if_neg HSE.out.1], by have := hI.out.2.2.1; omega, by have h := HSE2.out.1; simp [h], by have h := HSE2.out.2; simp [h]⟩⟩
      · have d1 : decide ((i : Int) < (m : Int)) = false := decide_eq_false (by omega)
        have hz : undM l d = z := by
          have h := hI.out.2.1
          rw [List.take_of_length_le (by have := HX.out.2.1; omega), HP.out.1] at h
          exact h.symm
        have HZ := Aside0.mk hz
        clear hz
        go_wp2
        go_ret2
        refine ⟨_, _, rfl, ?_, ?_, hI.out.1.bl⟩
        · rw [HZ.out]; exact Kd.R_mono hI.out.1.ns (fun _ _ => trivial)
        · rw [HZ.out]; exact Kd.R_mono hI.out.1.ds (fun _ _ => trivial)
end
end Go.Proofs.YtgjdcdhfijkoiaaDoor.Str
end
section
namespace Go.Proofs.YtgjdcdhfijkoiaaDoor.Str
open Go.RowKit Go.Proofs.YtgjdcdhfijkoiaaDoorW.PrintWords Go.Proofs.YtgjdcdhfijkoiaaDoorW.PrintLast Go.Proofs.YtgjdcdhfijkoiaaDoorW.PrintMore Go.Proofs.YtgjdcdhfijkoiaaDoor.Mem Go.Proofs.YtgjdcdhfijkoiaaDoor.PCod Go.Proofs.YtgjdcdhfijkoiaaDoor.Cod
set_option linter.unusedVariables false
set_option linter.unusedSimpArgs false
theorem w64n (i : Nat) (h : i < 9223372036854775807) : wrap64 ((i : Int) + 1) = ((i + 1 : Nat) : Int) := by rw [w64_small (by omega) (by omega)]; rfl
/-! ### few -/
theorem few_go (l : List FS) (hl : l.length ≤ 9223372036854775807) : ∀ (k i : Nat) (x : Int), k + i = l.length → ∃ b, baileelaw11_few.l0 (k + 1) l x i = some b ∧ (b = true → l.length ≤ 20)
  | 0, i, x, h => by
    unfold baileelaw11_few.l0
    rw [if_neg (by omega)]
    by_cases h20 : (l.length : Int) ≤ 20
    · rw [if_pos h20]; exact ⟨_, rfl, fun _ => by omega⟩
    · rw [if_neg h20]; exact ⟨_, rfl, fun h => by cases h⟩
  | k + 1, i, x, h => by
    unfold baileelaw11_few.l0
    rw [if_pos (by omega), if_pos (by omega), w64n i (by omega)]
    exact few_go l hl k (i + 1) _ (by omega)
/-! ### filesOf -/
def toF (f : FS) : S80 := ⟨f.f0, strOfNums f.f1⟩
theorem filesOf_go (l : List FS) (hl : l.length ≤ 100000) : ∀ (k i : Nat), k + i = l.length → baileelaw11_filesOf.l0 (k + 1) l ((l.take i).map toF) i = some (l.map toF)
  | 0, i, h => by
    unfold baileelaw11_filesOf.l0
    rw [if_neg (by omega), List.take_of_length_le (by omega)]
  | k + 1, i, h => by
    have e : (l.take i).map toF ++ [(⟨(rd_T50 l i).f0, strOfNums ((rd_T50 l i).f1)⟩ : S80)] = (l.take (i + 1)).map toF := by
      rw [take_getD (by omega), List.map_append]; rfl
    unfold baileelaw11_filesOf.l0
    rw [if_pos (by omega), if_pos (by omega), if_pos (by rw [List.length_map, List.length_take]; omega), w64n i (by omega), e]
    exact filesOf_go l hl k (i + 1) (by omega)
theorem filesOf_calls {w : World} {A : Option Addr} {c : Nat} {l : List FS} (hr : Kd.C k50 w A l.length l) (hc : l.length ≤ c) (hl : l.length ≤ 100000) :
    Calls Tryd.prog 15 #[.slice A l.length c] w fun e w' => ∃ v, e = .returned v ∧ Kd.R k80 80 w' w.heap.size (fun _ => True) v (l.map toF) ∧ Below w.heap.size w w' :=
  baileelaw11_filesOf.calls (l.length + 1) A c l _ w hr hc (filesOf_go l hl l.length 0 (by omega))
/-! ### Same -/
def kf (f : FS) : List UInt8 × List UInt8 := (f.f0.toList, (strOfNums f.f1).toList)
def sameM (a b : List FS) : Bool := decide (a.map kf = b.map kf)
theorem same_go (a b : List FS) (hn : a.length = b.length) (hl : a.length ≤ 9223372036854775807) : ∀ (k i : Nat), k + i = a.length → files_Same.l0 (k + 1) a b a.length i = some (sameM (a.drop i) (b.drop i))
  | 0, i, h => by
    unfold files_Same.l0 sameM
    rw [if_neg (by omega), List.drop_of_length_le (by omega), List.drop_of_length_le (by omega)]
    rfl
  | k + 1, i, h => by
    have e : sameM (a.drop i) (b.drop i) = (decide ((a.getD i z50).f0.toList = (b.getD i z50).f0.toList) && ((strOfNums (a.getD i z50).f1).toList == (strOfNums (b.getD i z50).f1).toList) && sameM (a.drop (i + 1)) (b.drop (i + 1))) := by
      unfold sameM
      rw [drop_getD (l := a) (by omega), drop_getD (l := b) (by omega), List.map_cons, List.map_cons, Bool.eq_iff_iff, decide_eq_true_eq, List.cons.injEq, Bool.and_eq_true, Bool.and_eq_true, decide_eq_true_eq, decide_eq_true_eq, beq_iff_eq]
      unfold kf
      rw [Prod.mk.injEq]
    have ih := same_go a b hn hl k (i + 1) (by omega)
    unfold files_Same.l0
    rw [if_pos (by omega), if_pos (by omega), if_pos (by omega), if_pos (by omega), w64n i (by omega), ih, e]
    show (if (a.getD i z50).f0.toList = (b.getD i z50).f0.toList then _ else _) = _
    by_cases h1 : (a.getD i z50).f0.toList = (b.getD i z50).f0.toList
    · rw [if_pos h1]
      unfold bytes_Equal.f
      rw [Option.bind_some]
      show (if ((strOfNums (a.getD i z50).f1).toList == (strOfNums (b.getD i z50).f1).toList) = true then _ else _) = _
      by_cases h2 : ((strOfNums (a.getD i z50).f1).toList == (strOfNums (b.getD i z50).f1).toList) = true
      · rw [if_pos h2, h2, decide_eq_true h1]; rfl
      · rw [if_neg h2, Bool.eq_false_iff.2 h2, Bool.and_false, Bool.false_and]
    · rw [if_neg h1, decide_eq_false h1]; rfl
theorem same_f (a b : List FS) (hl : a.length ≤ 9223372036854775807) : files_Same.f (a.length + 1) a b = some (sameM a b) := by
  unfold files_Same.f
  by_cases h : (a.length : Int) = b.length
  · rw [if_pos h]
    exact same_go a b (by omega) hl a.length 0 (by omega)
  · rw [if_neg h]
    unfold sameM
    rw [decide_eq_false (fun e => h (by have := congrArg List.length e; simp at this; omega))]
theorem same_calls {w : World} {A B : Option Addr} {c d : Nat} {a b : List FS} (hr : Kd.C k50 w A a.length a) (hc : a.length ≤ c) (hr2 : Kd.C k50 w B b.length b) (hc2 : b.length ≤ d) (hl : a.length ≤ 9223372036854775807) :
    Calls Tryd.prog 23 #[.slice A a.length c, .slice B b.length d] w fun e w' => e = .returned (.bool (sameM a b)) ∧ Drawn0 w w' :=
  files_Same.calls (a.length + 1) A c a B d b _ w hr hc hr2 hc2 (same_f a b hl)
theorem sameM_refl (a : List FS) : sameM a a = true := decide_eq_true rfl
/-! ### the reference's Same -/
def kg (f : S80) : List UInt8 × List UInt8 := (f.f0.toList, f.f1.toList)
def sameR (a b : List S80) : Bool := decide (a.map kg = b.map kg)
end Go.Proofs.YtgjdcdhfijkoiaaDoor.Str
end
section
namespace Go.Proofs.YtgjdcdhfijkoiaaDoor.Str
open Go.RowKit Go.Proofs.YtgjdcdhfijkoiaaDoorW.PrintWords Go.Proofs.YtgjdcdhfijkoiaaDoorW.PrintLast Go.Proofs.YtgjdcdhfijkoiaaDoorW.PrintMore Go.Proofs.YtgjdcdhfijkoiaaDoor.Mem Go.Proofs.YtgjdcdhfijkoiaaDoor.PCod Go.Proofs.YtgjdcdhfijkoiaaDoor.Cod
set_option linter.unusedVariables false
set_option linter.unusedSimpArgs false
/-! ### the names of a path -/
def spl : List UInt8 → List (List UInt8)
  | [] => [[]]
  | c :: r => if c = 47 then [] :: spl r else match spl r with
    | [] => [[c]]
    | h :: t => (c :: h) :: t
theorem spl_slash (r : List UInt8) : spl (47 :: r) = [] :: spl r := by rw [spl, if_pos rfl]
theorem spl_ne (l : List UInt8) : ∃ h t, spl l = h :: t := by
  cases l with
  | nil => exact ⟨_, _, rfl⟩
  | cons c r =>
    rw [spl]
    split
    · exact ⟨_, _, rfl⟩
    · split <;> exact ⟨_, _, rfl⟩
theorem spl_cons {c : UInt8} (hc : c ≠ 47) {r h : List UInt8} {t : List (List UInt8)} (e : spl r = h :: t) : spl (c :: r) = (c :: h) :: t := by
  rw [spl, if_neg hc, e]
theorem spl_one : ∀ (l : List UInt8), 47 ∉ l → spl l = [l]
  | [], _ => rfl
  | c :: r, h => spl_cons (fun e => h (by rw [e]; exact List.mem_cons_self)) (spl_one r (fun h2 => h (List.mem_cons_of_mem _ h2)))
theorem spl_app : ∀ (a b : List UInt8), spl (a ++ 47 :: b) = spl a ++ spl b
  | [], b => by rw [List.nil_append, spl_slash]; rfl
  | c :: r, b => by
    have ih := spl_app r b
    by_cases hc : c = 47
    · subst hc
      rw [List.cons_append, spl_slash, spl_slash, ih]; rfl
    · obtain ⟨h, t, e⟩ := spl_ne r
      rw [e] at ih
      rw [List.cons_append, spl_cons hc e, spl_cons hc ih]; rfl
def tl (s : ByteArray) : List UInt8 := s.data.toList
theorem tl_size (s : ByteArray) : (tl s).length = s.size := by unfold tl; rw [Array.length_toList]; rfl
theorem toList_tl (s : ByteArray) : s.toList = tl s := Lib.toList_data s
theorem tl_inj {a b : ByteArray} (h : tl a = tl b) : a = b := ByteArray.ext (Array.ext' h)
theorem tl_app (a b : ByteArray) : tl (a ++ b) = tl a ++ tl b := by unfold tl; simp
theorem tl_extract (s : ByteArray) (i j : Nat) : tl (s.extract i j) = ((tl s).take j).drop i := by
  unfold tl
  rw [ByteArray.data_extract, Array.toList_extract]
  simp [List.extract, List.drop_take]
theorem slash_none {s : ByteArray} (h : slashAt s < 0) : 47 ∉ tl s := by
  have h1 : slashAt s = -1 := by
    have := Lib.indexByte_ge s.data.toList 47
    have h2 : slashAt s = Lib.indexByte s.data.toList 47 := rfl
    omega
  intro hm
  obtain ⟨i, hi, e⟩ := List.getElem_of_mem hm
  exact Lib.indexByte_none (l := tl s) h1 i (by rw [List.getElem?_eq_getElem hi]; exact congrArg some e)
theorem slash_some {s : ByteArray} {o : Nat} (h : slashAt s = o) : tl s = (tl s).take o ++ 47 :: (tl s).drop (o + 1) ∧ 47 ∉ (tl s).take o := by
  obtain ⟨h1, h2⟩ := Lib.indexByte_some (l := tl s) (c := 47) (o := o) h
  obtain ⟨h3, h4⟩ := List.getElem?_eq_some_iff.1 h1
  refine ⟨?_, fun hm => ?_⟩
  · conv => lhs; rw [← List.take_append_drop o (tl s), List.drop_eq_getElem_cons h3, h4]
  · obtain ⟨i, hi, e⟩ := List.getElem_of_mem hm
    rw [List.length_take] at hi
    rw [List.getElem_take] at e
    exact h2 i (by omega) (by rw [List.getElem?_eq_getElem (by omega), e])
theorem namesF_spl : ∀ (k : Nat) (s : ByteArray), s.size ≤ k → (namesF k s).map tl = spl (tl s)
  | 0, s, h => by
    have : tl s = [] := List.eq_nil_of_length_eq_zero (by rw [tl_size]; omega)
    unfold namesF
    rw [List.map_cons, this]; rfl
  | k + 1, s, h => by
    unfold namesF
    split
    · rename_i h1
      rw [spl_one _ (slash_none h1)]; rfl
    · rename_i h1
      obtain ⟨o, ho⟩ : ∃ o : Nat, slashAt s = o := ⟨(slashAt s).toNat, by omega⟩
      have h2 := slash_lt ho
      obtain ⟨h3, h4⟩ := slash_some ho
      have ih := namesF_spl k (s.extract (o + 1) s.size) (by rw [ByteArray.size_extract]; omega)
      rw [ho, Int.toNat_natCast, List.map_cons, ih, tl_extract, tl_extract]
      conv => rhs; rw [h3, spl_app, spl_one _ h4]
      have e9 : (tl s).take s.size = tl s := List.take_of_length_le (by rw [tl_size]; exact Nat.le_refl _)
      rw [List.drop_zero, e9]
      rfl
theorem namesB_spl (s : ByteArray) : (namesB s).map tl = spl (tl s) := namesF_spl _ s (Nat.le_refl _)
/-! ### what may be -/
def okN (n : List UInt8) : Bool := !(n.isEmpty || n == [46] || n == [46, 46])
def okL (l : List UInt8) : Bool := decide (1 ≤ l.length ∧ l.length ≤ 255) && l.all (fun c => decide (32 ≤ c.toNat)) && (spl l).all okN
end Go.Proofs.YtgjdcdhfijkoiaaDoor.Str
end
section
namespace Go.Proofs.YtgjdcdhfijkoiaaDoor.Str
open Go.RowKit Go.Proofs.YtgjdcdhfijkoiaaDoorW.PrintWords Go.Proofs.YtgjdcdhfijkoiaaDoorW.PrintLast Go.Proofs.YtgjdcdhfijkoiaaDoorW.PrintMore Go.Proofs.YtgjdcdhfijkoiaaDoor.Mem Go.Proofs.YtgjdcdhfijkoiaaDoor.PCod Go.Proofs.YtgjdcdhfijkoiaaDoor.Cod Go.Proofs.YtgjdcdhfijkoiaaDoor.Conv
set_option linter.unusedVariables false
set_option linter.unusedSimpArgs false
theorem C_kept {α : Type} {d : Kd α} {w w' : World} {S : Nat → Prop} {A : Option Addr} {n : Nat} {xs : List α} (hK : ∀ x c, d.K w x c → d.K w' x c) (h : Kd.C d w A n xs) (hk : Kept w w' S) (hs : ∀ ad, A = some ad → ¬ S ad.block) : Kd.C d w' A n xs := by
  obtain ⟨q1, q2, q3⟩ := h
  refine ⟨q1, q2, fun hp => ?_⟩
  obtain ⟨ad, e1, hc0⟩ := q3 hp
  refine ⟨ad, e1, fun j p hj => ?_⟩
  obtain ⟨cc, hl, hkk, hcell⟩ := hc0 j p hj
  refine ⟨cc, hl, hK _ _ hkk, fun i u hu => ?_⟩
  have hq := hcell i u hu
  refine Go.Proofs.YtgjdcdhfijkoiaaDoorW.PrintWords.cell_kept hq hk ?_
  have hb : (ad.add (j * d.sz + i)).block = ad.block := by unfold Addr.add; split <;> rfl
  rw [hb]
  exact hs ad e1
theorem kept_all {W W' : World} (h : ∀ k, k < W.heap.size → W'.heap[k]? = W.heap[k]?) : Kept W W' (fun _ => False) := by
  refine ⟨?_, fun k hk _ => h k hk⟩
  by_cases hlt : W.heap.size ≤ W'.heap.size
  · exact hlt
  · have h1 := h W'.heap.size (by omega)
    rw [Array.getElem?_eq_none (by omega), Array.getElem?_eq_getElem (by omega)] at h1
    cases h1
/-- A file whose bytes stand in a row that is read. -/
theorem FK_file {W : World} {x : S50} {A : Option Addr} {c : Nat} (hc : x.f1.length ≤ c) (hC : Kd.C (Kd.int .u8) W A x.f1.length x.f1) : Kd.FK k50 W (fun _ => True) x [.string x.f0, .slice A x.f1.length c] :=
  fun W' hW => k50_mk W' x hc (C_kept (w := W) (w' := W') (fun _ _ h => h) hC (kept_all (fun k hk => hW k trivial hk)) (fun _ _ h => h))
theorem FK_bare {W : World} (s : ByteArray) : Kd.FK k50 W (fun _ => True) ⟨s, []⟩ [.string s, .slice none 0 0] := Kd.FK_of_M (k50_mkM W 0 _ ⟨s, []⟩ (Kd.R_nil _ _ _ _ _))
theorem reps_two {α : Type} {R : α → List Value → Prop} {x : α} {xs : List α} {a b : Value} {inner : List Value} (h : R x [a, b]) (hr : Reps R 2 xs inner) : Reps R 2 (x :: xs) (a :: b :: inner) := by
  refine ⟨by have := hr.1; simp only [List.length_cons]; omega, fun j p hj => ?_⟩
  cases j with
  | zero =>
    cases hj
    exact h
  | succ j =>
    have e : (j + 1) * 2 = j * 2 + 2 := by omega
    rw [e]
    exact hr.2 j p hj
theorem reads_n {α : Type} {d : Kd α} {e : TypeId} {w : World} {b : Nat} {ok : Nat → Prop} {v : Value} {xs : List α} (n : Nat) (hn : xs.length = n) (h : Kd.R d e w b ok v xs) : ∃ A c, v = .slice A n c ∧ n ≤ c ∧ Kd.C d w A n xs := by
  subst hn
  exact Kd.R_reads h
def sA : ByteArray := ⟨#[97, 47, 98]⟩
def sB : ByteArray := ⟨#[97, 47, 99, 47, 100]⟩
def sC : ByteArray := ⟨#[101]⟩
def lA : List FS := [⟨⟨#[97, 47, 98]⟩, [120]⟩, ⟨⟨#[97, 47, 99, 47, 100]⟩, []⟩, ⟨⟨#[101]⟩, []⟩]
def pL : List Int := [3, 3, 97, 47, 98, 1, 120, 5, 97, 47, 99, 47, 100, 0, 1, 101, 0]
theorem awk_c : checkM lA = 0 := by kernel_rfl
theorem awk_p : putM lA = pL := by kernel_rfl
theorem awk_g : getM pL = (lA, 0) := by kernel_rfl
theorem awk_u : undM lA ⟨#[]⟩ = ([⟨#[97]⟩, ⟨#[101]⟩], [true, false]) := by kernel_rfl
theorem awk_n : pathM ⟨#[97, 47, 47, 98]⟩ = false := by kernel_rfl
theorem byt_pL : Byt pL := by intro x hx; simp [pL] at hx; omega
theorem byt_lA : ∀ f ∈ lA, Byt f.f1 := by intro f hf; simp [lA] at hf; rcases hf with rfl | rfl | rfl <;> intro x hx <;> simp at hx; omega
theorem siz_lA : ∀ f ∈ lA, f.f0.size ≤ 1000000 := by intro f hf; simp [lA] at hf; rcases hf with rfl | rfl | rfl <;> decide
set_option maxRecDepth 100000 in
set_option maxHeartbeats 4000000 in
theorem awake_calls (w : World) : Calls Tryd.prog 13 #[] w fun e w' => e = .returned (.bool true) ∧ Below w.heap.size w w' := by
  go_enter Tryd.func13, Tryd.ntmps13
  go_wp2_with (first
    | ((with_reducible refine gate_dst (N := 8) rfl ?_); go_loud (refine Kd.R_lit (Kd.int .u8) _ 5 ?hg (N := 8) ?hd (xs := ([120] : List Int)) (inner := [.int .u8 120]) (ok := fun k => w.heap.size ≤ k) (okp := fun _ => False) ?hr ?hp (fun _ hk => hk.elim) (Nat.le_refl _) (Below.refl _ _) (Nat.le_refl _) (by decide) ?_; (case hd => rfl); (case hg => rfl); (case hr => first | (go_simp; done) | (go_simp; rfl)); (case hp => exact Reps.one (show Kd.M (Kd.int .u8) _ _ _ 120 [.int .u8 120] from rfl) (Reps.none _ _)); intro v3 w3 ho3 hb3 hg3 hnew3; obtain ⟨A3, c3, rfl, hc3, _⟩ := Kd.R_reads ho3; have H3 := Aside0.mk (And.intro ho3 hb3); have HC3 := Aside0.mk hc3; clear ho3 hb3 hg3 hnew3 hc3))
    | ((with_reducible refine gate_dst (N := 9) rfl ?_); go_loud (refine conv_event (w0 := w) (base := w.heap.size) rfl rfl Tryd.underlying27 Tryd.underlying5 rfl H3.out.1 (by decide) H3.out.2 (below_size H3.out.2) ?_; intro w4 hn4 hc4 hC4 hg4 hb4; have H4 := Aside0.mk (And.intro hC4 (And.intro hb4 hc4)); clear hn4 hc4 hC4 hg4 hb4))
    | ((with_reducible refine gate_dst (N := 13) rfl ?_); go_loud (refine Kd.N_lit k50 w.heap.size 50 ?hg (N' := 13) ?hd (xs := lA) (inner := [.string ⟨#[97, 47, 98]⟩, .slice A3 1 c3, .string ⟨#[97, 47, 99, 47, 100]⟩, .slice none 0 0, .string ⟨#[101]⟩, .slice none 0 0]) (ok := fun _ => True) (okp := fun _ => True) ?hr ?hp (fun _ _ => trivial) trivial H4.out.2.1 (below_size H4.out.2.1) (by decide) ?_; (case hd => rfl); (case hg => rfl); (case hr => first | (go_simp; done) | (go_simp; rfl)); (case hp => exact reps_two (FK_file (x := ⟨⟨#[97, 47, 98]⟩, [120]⟩) H4.out.2.2 H4.out.1) (reps_two (FK_bare _) (reps_two (FK_bare _) (Reps.none _ _)))); intro v5 w5 ho5 hb5 hg5 hnew5; obtain ⟨A5, c5, rfl, hc5, hC5⟩ := Kd.N_reads ho5; have H5 := Aside0.mk (show lA.length ≤ c5 ∧ Kd.C k50 w5 A5 lA.length lA ∧ Below w.heap.size w w5 from ⟨hc5, hC5, hb5⟩); clear ho5 hb5 hg5 hnew5 hc5 hC5))
    | (go_at_call 26; go_loud (have hx := under_calls (l := lA) (c := c5) H5.out.2.1 (by decide) ⟨#[]⟩ (by decide) siz_lA; rw [awk_u] at hx; refine hx.mono ?_; clear hx; rintro e w6 ⟨v6, u6, rfl, hv6, hu6, hb6⟩; obtain ⟨Av, cv, rfl, _, hCv⟩ := reads_n 2 rfl hv6; obtain ⟨Au, cu, rfl, _, hCu⟩ := reads_n 2 rfl hu6; have H6 := Aside0.mk (And.intro hCv (And.intro hCu (And.intro (Kd.C_below H5.out.2.1 hb6) (below_step H5.out.2.2 hb6)))); clear hv6 hu6 hb6 hCv hCu))
    | (go_at_call 16; go_loud (have hx := put_calls (l := lA) (c := c5) H6.out.2.2.1 (by decide) byt_lA; rw [awk_c, if_pos rfl, awk_p] at hx; refine hx.mono ?_; clear hx; rintro e w7 ⟨v7, rfl, hv7, hb7⟩; obtain ⟨Ap, cp, rfl, hcp, hCp⟩ := reads_n 17 rfl hv7; have H7 := Aside0.mk (And.intro (show pL.length ≤ cp ∧ Kd.C (Kd.int .u8) w7 Ap pL.length pL from ⟨hcp, hCp⟩) (And.intro (Kd.C_below H6.out.1 hb7) (And.intro (Kd.C_below H6.out.2.1 hb7) (And.intro (Kd.C_below H6.out.2.2.1 hb7) (below_step H6.out.2.2.2 hb7))))); clear hv7 hb7 hcp hCp H6))
    | (go_at_call 22; go_loud (have hx := get_calls (b := pL) (c := cp) H7.out.1.2 H7.out.1.1 (by decide) byt_pL; rw [awk_g] at hx; refine hx.mono ?_; clear hx; rintro e w8 ⟨v8, rfl, hv8, hb8⟩; obtain ⟨Ag, cg, rfl, hcg, hCg⟩ := reads_n 3 rfl hv8; have H8 := Aside0.mk (And.intro (show lA.length ≤ cg ∧ Kd.C k50 w8 Ag lA.length lA from ⟨hcg, hCg⟩) (And.intro (Kd.C_below H7.out.2.1 hb8) (And.intro (Kd.C_below H7.out.2.2.1 hb8) (And.intro (Kd.C_below H7.out.2.2.2.1 hb8) (below_step H7.out.2.2.2.2 hb8))))); clear hv8 hb8 hcg hCg H7))
    | (go_at_call 20; go_loud (have hx := check_calls (l := lA) (c := c5) H8.out.2.2.2.1 (by decide); rw [awk_c] at hx; refine hx.mono ?_; clear hx; rintro e w9 ⟨rfl, hb9⟩; have hv := Kd.C_below H8.out.2.1 hb9; have hu := Kd.C_below H8.out.2.2.1 hb9; obtain ⟨a0, ea0, q0⟩ := Kd.at_string hv 0 (by decide) (by decide); obtain ⟨a1, ea1, q1⟩ := Kd.at_string hv 1 (by decide) (by decide); obtain ⟨a2, ea2, q2⟩ := Kd.at_bool hu 0 (by decide) (by decide); obtain ⟨a3, ea3, q3⟩ := Kd.at_bool hu 1 (by decide) (by decide); cases ea0; cases ea1; cases ea2; cases ea3; have p0 : w9.cell? a0 = some (.string ⟨#[97]⟩) := (congrArg w9.cell? (show a0.add 0 = a0 by simp [Addr.add])).symm.trans q0; have p1 : w9.cell? ⟨a0.block, a0.off + 1, none⟩ = some (.string ⟨#[101]⟩) := (congrArg w9.cell? (show a0.add 1 = ⟨a0.block, a0.off + 1, none⟩ by simp [Addr.add])).symm.trans q1; have p2 : w9.cell? a2 = some (.bool true) := (congrArg w9.cell? (show a2.add 0 = a2 by simp [Addr.add])).symm.trans q2; have p3 : w9.cell? ⟨a2.block, a2.off + 1, none⟩ = some (.bool false) := (congrArg w9.cell? (show a2.add 1 = ⟨a2.block, a2.off + 1, none⟩ by simp [Addr.add])).symm.trans q3; have H9 := Aside0.mk (And.intro H8.out.1.1 (And.intro (Kd.C_below H8.out.1.2 hb9) (And.intro (Kd.C_below H8.out.2.2.2.1 hb9) (below_step H8.out.2.2.2.2 hb9)))); clear hv hu hb9 q0 q1 q2 q3))
    | (go_at_call 23; go_loud (have hx := same_calls (a := lA) (b := lA) (c := c5) (d := cg) H9.out.2.2.1 H5.out.1 H9.out.2.1 H9.out.1 (by decide); rw [sameM_refl] at hx; refine hx.mono ?_; clear hx; rintro e w10 ⟨rfl, hd10⟩; have H10 := Aside0.mk (below_step H9.out.2.2.2 (Drawn0.below hd10)); clear hd10))
    | (go_at_call 18; go_loud (have hx := path_calls ⟨#[97, 47, 47, 98]⟩ w10; rw [awk_n] at hx; refine hx.mono ?_; clear hx; rintro e w11 ⟨rfl, hb11⟩; have H11 := Aside0.mk (below_step H10.out hb11); clear hb11)))
  go_ret
  exact ⟨rfl, H11.out⟩
end Go.Proofs.YtgjdcdhfijkoiaaDoor.Str
end
