/- 'like': a disk and the document's one tell the same. -/
import Derived.Test.YtnajdnhgoakgaaaRef8w
namespace Go.Proofs.Ytnajdnhgoakgaaa.Blk
open Go.RowKit Go.Proofs.YtnajdnhgoakgaaaW.PrintWords Go.Proofs.YtnajdnhgoakgaaaW.PrintLast Go.Proofs.YtnajdnhgoakgaaaW.PrintMore Go.Proofs.Ytnajdnhgoakgaaa.Mem
set_option linter.unusedVariables false
set_option linter.unusedSimpArgs false
set_option maxRecDepth 8000
set_option maxHeartbeats 4000000
section
variable {w : World} {D : DM}
theorem conv_str {w wd : World} {A : Option Addr} {c n : Nat} {s : ByteArray} (hn : n = (bytesOf s).length) (h : Kd.C (Kd.int .u8) w A (bytesOf s).length (bytesOf s)) (hb : Below w.heap.size w wd) :
    (convert 35 9 (.slice A n c)).run Try.prog wd = .ok (.string s) wd := by
  subst hn
  have hx := Kd.C_string (P := Try.prog) (w := wd) (src := 35) (dst := 9) (e := 5) (c := c) Try.underlying35 Try.underlying5 Try.underlying9 (Kd.C_below h hb)
  rw [str_bytesOf] at hx
  exact hx
def BoxAt (w : World) (b : Nat) (v : Value) (D : DM) : Prop := w.heap[b]? = some (.cells #[v, .int .i64 D.left, .int .i64 D.torn, .bool D.down] 30 (0, 0))
theorem BoxAt.cells {b : Nat} {v : Value} (h : BoxAt w b v D) : w.cell? ⟨b, 0, none⟩ = some v ∧ w.cell? ⟨b, 1, none⟩ = some (.int .i64 D.left) ∧ w.cell? ⟨b, 2, none⟩ = some (.int .i64 D.torn) ∧ w.cell? ⟨b, 3, none⟩ = some (.bool D.down) :=
  ⟨(blk_cell h 0).trans rfl, (blk_cell h 1).trans rfl, (blk_cell h 2).trans rfl, (blk_cell h 3).trans rfl⟩
theorem BoxAt.below {w w' : World} {b : Nat} {v : Value} (h : BoxAt w b v D) (hb : Below w.heap.size w w') : BoxAt w' b v D := (hb.block _ (blk_lt h)).trans h
theorem like_calls {F : Nat → Prop} {g : Nat} {A : Option Addr} {c : Nat} (hd : DiskAt w F g D) (hr : Kd.C Kd.string w A D.L.length D.L) (hc : D.L.length ≤ c) :
    Calls Try.prog 45 #[.pointer (some ⟨g, 0, none⟩), dv (.slice A D.L.length c) D] w fun e w' => e = .returned (.bool true) ∧ Below w.heap.size w w' := by
  have hok : D.Ok := by obtain ⟨_, _, _, _, _, h⟩ := hd; exact h
  have hlen : D.L.length ≤ 65536 := hok.n2
  have HX := Aside0.mk (And.intro hd (And.intro hr hok))
  clear hd hr hok
  go_enter Try.func45, Try.ntmps45
  go_upto_region 1 with (first | ((with_reducible refine gate_dst (N := 3) rfl ?_); refine box_event ?hg (N := 3) ?hd (cs := #[.slice A D.L.length c, .int .i64 D.left, .int .i64 D.torn, .bool D.down]) (t := 30) ?hr ?_; (case hd => rfl); (case hg => rfl); (case hr => first | (go_simp; done) | (go_simp; rfl)); intro gb hgb w1 hbox hb1; have H1 := Aside0.mk (And.intro (show BoxAt w1 gb (.slice A D.L.length c) D from hbox) hb1); clear hbox hb1 hgb))
  obtain ⟨hbx, hb1⟩ := H1.out
  obtain ⟨wd, hwd⟩ : ∃ wd, wd = w1.drew := ⟨_, rfl⟩
  have hbd : Below w1.heap.size w1 wd := by rw [hwd]; exact below_drew1 (Below.refl _ _)
  have H2 := Aside0.mk (And.intro (hbx.below hbd) (below_step hb1 hbd))
  have hsz : Below w.heap.size w wd := below_step hb1 hbd
  have HDk := Aside0.mk (HX.out.1.below hsz)
  have HBC := Aside0.mk (H2.out.1.cells)
  clear hbx hbd hsz hb1 H1
  refine start_ (n := 13) (S := fun w' => w'.cell? ⟨gb, 0, none⟩ = some (.slice A D.L.length c) ∧ w'.cell? ⟨gb, 1, none⟩ = some (.int .i64 D.left) ∧ w'.cell? ⟨gb, 2, none⟩ = some (.int .i64 D.torn) ∧ w'.cell? ⟨gb, 3, none⟩ = some (.bool D.down)) (ds := []) #[false, false, false, false, false, false, false, false, false, false, false, false, false] (by kernel_rfl) rfl (by kernel_rfl) (by rw [← hwd]; exact HBC.out) (fun hHeld => ?_)
  rw [← hwd] at hHeld ⊢
  clear hwd
  have dq1 : ((D.L.length : Int) != (D.L.length : Int)) = false := by simp
  have dq2 : (D.down != D.down) = false := by simp
  refine pure_ (i := 0) (N := some 8) (v := ?_) (a' := ?_) #[true, false, false, false, false, false, false, false, false, false, false, false, false] rfl rfl (by kernel_rfl) (fun _ _ _ h => h) (Or.inl ⟨by rfl, ?_⟩) ?_ ?_
  rotate_left
  · intro w'
    go_simp
    with_reducible rfl
  rotate_left
  · simp only [Act.put, List.setIfInBounds_toArray, List.set_cons_zero, List.set_cons_succ, i64_w, i32_w]
    rfl
  refine pure_ (i := 2) (N := some 10) (v := ?_) (a' := ?_) #[true, false, true, false, false, false, false, false, false, false, false, false, false] rfl rfl (by kernel_rfl) (fun _ _ _ h => h) (Or.inl ⟨by rfl, ?_⟩) ?_ ?_
  rotate_left
  · intro w'
    go_simp
    with_reducible rfl
  rotate_left
  · simp only [Act.put, List.setIfInBounds_toArray, List.set_cons_zero, List.set_cons_succ, i64_w, i32_w]
    rfl
  refine take_ (i := 3) (N := some 11) (v := ?_) (a' := ?_) #[true, false, true, true, false, false, false, false, false, false, false, false, false] rfl rfl (by kernel_rfl) (fun _ _ _ h => h) (Or.inl ⟨by rfl, ?_⟩) hHeld ?_ ?_
  rotate_left
  · rintro w' ⟨s0, s1, s2, s3⟩
    go_simp
    with_reducible rfl
  rotate_left
  · simp only [Act.put, List.setIfInBounds_toArray, List.set_cons_zero, List.set_cons_succ, i64_w, i32_w]
    rfl
  refine pure_ (i := 4) (N := some 12) (v := ?_) (a' := ?_) #[true, false, true, true, true, false, false, false, false, false, false, false, false] rfl rfl (by kernel_rfl) (fun _ _ _ h => h) (Or.inl ⟨by rfl, ?_⟩) ?_ ?_
  rotate_left
  · intro w'
    go_simp
    with_reducible rfl
  rotate_left
  · simp only [Act.put, List.setIfInBounds_toArray, List.set_cons_zero, List.set_cons_succ, i64_w, i32_w]
    rfl
  refine one_ (i := 1) (N := some 9) #[true, true, true, true, true, false, false, false, false, false, false, false, false] rfl rfl (by kernel_rfl) (by decide) (fun K hK => ?_)
  refine goes_ Try.func26 (by kernel_rfl) rfl #[.pointer (some ⟨g, 0, none⟩)] (by rfl) rfl rfl (by (try simp only [List.map_toArray, List.map_cons, List.map_nil]); first | rfl | (go_simp; done)) ?_
  refine (len_calls HDk.out).mono ?_
  rintro e w' ⟨rfl, rfl⟩
  refine ⟨_, rfl, ?_⟩
  refine hK.out _ _ (HBC.out) (fun hHeld => ?_)
  clear hK K
  refine norm_ (a' := ?_) ?_ ?_
  rotate_left
  · show Act.put _ (some 9) _ = _
    simp only [Act.put, List.setIfInBounds_toArray, List.set_cons_zero, List.set_cons_succ, i64_w, i32_w]
    rfl
  refine pure_ (i := 5) (N := some 13) (v := ?_) (a' := ?_) #[true, true, true, true, true, true, false, false, false, false, false, false, false] rfl rfl (by kernel_rfl) (fun _ _ _ h => h) (Or.inl ⟨by rfl, ?_⟩) ?_ ?_
  rotate_left
  · intro w'
    go_simp
    with_reducible rfl
  rotate_left
  · simp only [Act.put, List.setIfInBounds_toArray, List.set_cons_zero, List.set_cons_succ, i64_w, i32_w]
    rfl
  refine pure_ (i := 6) (N := some 14) (v := ?_) (a' := ?_) #[true, true, true, true, true, true, true, false, false, false, false, false, false] rfl rfl (by kernel_rfl) (fun _ _ _ h => h) (Or.inl ⟨by rfl, ?_⟩) ?_ ?_
  rotate_left
  · intro w'
    go_simp
    with_reducible rfl
  rotate_left
  · simp only [Act.put, List.setIfInBounds_toArray, List.set_cons_zero, List.set_cons_succ, i64_w, i32_w]
    rfl
  refine pure_ (i := 7) (N := some 15) (v := ?_) (a' := ?_) #[true, true, true, true, true, true, true, true, false, false, false, false, false] rfl rfl (by kernel_rfl) (fun _ _ _ h => h) (Or.inl ⟨by rfl, ?_⟩) ?_ ?_
  rotate_left
  · intro w'
    go_simp
    with_reducible rfl
  rotate_left
  · simp only [Act.put, List.setIfInBounds_toArray, List.set_cons_zero, List.set_cons_succ, i64_w, i32_w]
    rfl
  refine pure_ (i := 9) (N := some 17) (v := ?_) (a' := ?_) #[true, true, true, true, true, true, true, true, false, true, false, false, false] rfl rfl (by kernel_rfl) (fun _ _ _ h => h) (Or.inl ⟨by rfl, ?_⟩) ?_ ?_
  rotate_left
  · intro w'
    go_simp
    with_reducible rfl
  rotate_left
  · simp only [Act.put, List.setIfInBounds_toArray, List.set_cons_zero, List.set_cons_succ, i64_w, i32_w]
    rfl
  refine take_ (i := 10) (N := some 18) (v := ?_) (a' := ?_) #[true, true, true, true, true, true, true, true, false, true, true, false, false] rfl rfl (by kernel_rfl) (fun _ _ _ h => h) (Or.inl ⟨by rfl, ?_⟩) hHeld ?_ ?_
  rotate_left
  · rintro w' ⟨s0, s1, s2, s3⟩
    go_simp
    with_reducible rfl
  rotate_left
  · simp only [Act.put, List.setIfInBounds_toArray, List.set_cons_zero, List.set_cons_succ, i64_w, i32_w]
    rfl
  refine one_ (i := 8) (N := some 16) #[true, true, true, true, true, true, true, true, true, true, true, false, false] rfl rfl (by kernel_rfl) (by decide) (fun K hK => ?_)
  refine goes_ Try.func27 (by kernel_rfl) rfl #[.pointer (some ⟨g, 0, none⟩)] (by rfl) rfl rfl (by (try simp only [List.map_toArray, List.map_cons, List.map_nil]); first | rfl | (go_simp; done)) ?_
  refine (down_calls HDk.out).mono ?_
  rintro e w' ⟨rfl, rfl⟩
  refine ⟨_, rfl, ?_⟩
  refine hK.out _ _ (HBC.out) (fun hHeld => ?_)
  clear hK K
  refine norm_ (a' := ?_) ?_ ?_
  rotate_left
  · show Act.put _ (some 16) _ = _
    simp only [Act.put, List.setIfInBounds_toArray, List.set_cons_zero, List.set_cons_succ, i64_w, i32_w]
    rfl
  refine pure_ (i := 11) (N := some 19) (v := ?_) (a' := ?_) #[true, true, true, true, true, true, true, true, true, true, true, true, false] rfl rfl (by kernel_rfl) (fun _ _ _ h => h) (Or.inl ⟨by rfl, ?_⟩) ?_ ?_
  rotate_left
  · intro w'
    go_simp
    with_reducible rfl
  rotate_left
  · simp only [Act.put, List.setIfInBounds_toArray, List.set_cons_zero, List.set_cons_succ, i64_w, i32_w]
    rfl
  refine pure_ (i := 12) (N := some 20) (v := ?_) (a' := ?_) #[true, true, true, true, true, true, true, true, true, true, true, true, true] rfl rfl (by kernel_rfl) (fun _ _ _ h => h) (Or.inl ⟨by rfl, ?_⟩) ?_ ?_
  rotate_left
  · intro w'
    go_simp
    with_reducible rfl
  rotate_left
  · simp only [Act.put, List.setIfInBounds_toArray, List.set_cons_zero, List.set_cons_succ, i64_w, i32_w]
    rfl
  refine done_ (by kernel_rfl) ?_
  go_wp2
  clear HBC hHeld
  go_loopg [5] D.L.length (fun q v5 wr => ∃ i : Nat, v5 = .int .i64 i ∧ q + i = D.L.length ∧ Aside0 (BoxAt wr gb (.slice A D.L.length c) D ∧ Below w.heap.size w wr))
  case atStart => exact ⟨0, rfl, by omega, H2⟩
  case round =>
    clear H2 HDk
    obtain ⟨i, rfl, hq, hI⟩ := hrel
    obtain ⟨a0, a1, a2, a3⟩ := hI.out.1.cells
    by_cases hlt : i < D.L.length
    · have d2 : decide ((i : Int) < (D.L.length : Int)) = true := decide_eq_true (by omega)
      have d2n : decide (i < D.L.length) = true := decide_eq_true (by omega)
      obtain ⟨dn, hdn⟩ : ∃ dn, dn = D.down := ⟨_, rfl⟩
      rw [← hdn] at a3
      cases dn with
      | true =>
        clear hdn
        go_wp2
        go_ret
        exact ⟨rfl, hI.out.2⟩
      | false =>
        have hfine : D.fine i = 0 := by unfold DM.fine; rw [← hdn, if_neg (by decide), if_neg (by omega)]
        have hrd : D.read i = D.blk i := by unfold DM.read; rw [if_pos hfine]
        have HF := Aside0.mk (And.intro hfine hrd)
        obtain ⟨ad, rfl, hst0⟩ := Kd.at_string HX.out.2.1 (i : Int) (by omega) (by omega)
        obtain ⟨X, hX⟩ : ∃ X, X = D.blk i := ⟨_, rfl⟩
        have HXX := Aside0.mk (And.intro hX hst0)
        clear hfine hrd hdn hst0 hX
        go_upto_region 7 with (go_at_call 21; go_loud (have hx := read_any (HX.out.1.below hI.out.2) (i : Int); rw [HF.out.1, HF.out.2, ← HXX.out.1] at hx; refine hx.mono ?_; clear hx; rintro e w3 ⟨v3, rfl, hv3, hb3⟩; obtain ⟨A3, c3, rfl, _, hC3⟩ := Kd.R_reads hv3; have H3 := Aside0.mk (And.intro hC3 hb3); clear hv3 hC3 hb3))
        have hall : ∀ W, Below w3.heap.size w3 W → W.cell? ⟨gb, 0, none⟩ = some (.slice (some ad) D.L.length c) ∧ W.cell? (ad.add i) = some (.string X) ∧ (convert 35 9 (.slice A3 (bytesOf X).length c3)).run Try.prog W = .ok (.string X) W := by
          intro W hW
          have hst := HXX.out.2
          refine ⟨((hI.out.1.below H3.out.2).below hW).cells.1, ?_, conv_str rfl H3.out.1 hW⟩
          rw [HXX.out.1]
          exact (((hI.out.2.trans (H3.out.2.mono hI.out.2.size)).trans (hW.mono (Nat.le_trans hI.out.2.size H3.out.2.size))).cell (World.block_lt_of_cell? w _ hst)).trans hst
        have HA := Aside0.mk hall
        have hxx : (X.toList != X.toList) = false := by simp
        clear hall
        obtain ⟨wd, hwd⟩ : ∃ wd, wd = w3.drew := ⟨_, rfl⟩
        have hbd : Below w3.heap.size w3 wd := by rw [hwd]; exact below_drew1 (Below.refl _ _)
        have HD := Aside0.mk hbd
        clear hbd a0 a1 a2 a3
        refine start_ (n := 12) (S := fun w' => Below w3.heap.size w3 w') (ds := []) #[false, false, false, false, false, false, false, false, false, false, false, false] (by kernel_rfl) rfl (by kernel_rfl) (by rw [← hwd]; exact HD.out) (fun hHeld => ?_)
        rw [← hwd] at hHeld ⊢
        clear hwd
        refine pure_ (i := 0) (N := some 39) (v := ?_) (a' := ?_) #[true, false, false, false, false, false, false, false, false, false, false, false] rfl rfl (by kernel_rfl) (fun _ _ _ h => h) (Or.inl ⟨by rfl, ?_⟩) ?_ ?_
        rotate_left
        · intro w'
          go_simp
          with_reducible rfl
        rotate_left
        · simp only [Act.put, List.setIfInBounds_toArray, List.set_cons_zero, List.set_cons_succ, i64_w, i32_w]
          rfl
        refine pure_ (i := 1) (N := some 40) (v := ?_) (a' := ?_) #[true, true, false, false, false, false, false, false, false, false, false, false] rfl rfl (by kernel_rfl) (fun _ _ _ h => h) (Or.inl ⟨by rfl, ?_⟩) ?_ ?_
        rotate_left
        · intro w'
          go_simp
          with_reducible rfl
        rotate_left
        · simp only [Act.put, List.setIfInBounds_toArray, List.set_cons_zero, List.set_cons_succ, i64_w, i32_w]
          rfl
        refine pure_ (i := 2) (N := some 41) (v := ?_) (a' := ?_) #[true, true, true, false, false, false, false, false, false, false, false, false] rfl rfl (by kernel_rfl) (fun _ _ _ h => h) (Or.inl ⟨by rfl, ?_⟩) ?_ ?_
        rotate_left
        · intro w'
          go_simp
          with_reducible rfl
        rotate_left
        · simp only [Act.put, List.setIfInBounds_toArray, List.set_cons_zero, List.set_cons_succ, i64_w, i32_w]
          rfl
        refine pure_ (i := 3) (N := some 42) (v := ?_) (a' := ?_) #[true, true, true, true, false, false, false, false, false, false, false, false] rfl rfl (by kernel_rfl) (fun _ _ _ h => h) (Or.inl ⟨by rfl, ?_⟩) ?_ ?_
        rotate_left
        · intro w'
          go_simp
          with_reducible rfl
        rotate_left
        · simp only [Act.put, List.setIfInBounds_toArray, List.set_cons_zero, List.set_cons_succ, i64_w, i32_w]
          rfl
        refine take_ (i := 4) (N := some 43) (v := ?_) (a' := ?_) #[true, true, true, true, true, false, false, false, false, false, false, false] rfl rfl (by kernel_rfl) (fun _ _ _ h => h) (Or.inl ⟨by rfl, ?_⟩) hHeld ?_ ?_
        rotate_left
        · rintro w' s0
          obtain ⟨b0, b1, b2⟩ := HA.out w' s0
          go_simp
          with_reducible rfl
        rotate_left
        · simp only [Act.put, List.setIfInBounds_toArray, List.set_cons_zero, List.set_cons_succ, i64_w, i32_w]
          rfl
        refine pure_ (i := 5) (N := some 44) (v := ?_) (a' := ?_) #[true, true, true, true, true, true, false, false, false, false, false, false] rfl rfl (by kernel_rfl) (fun _ _ _ h => h) (Or.inl ⟨by rfl, ?_⟩) ?_ ?_
        rotate_left
        · intro w'
          go_simp
          with_reducible rfl
        rotate_left
        · simp only [Act.put, List.setIfInBounds_toArray, List.set_cons_zero, List.set_cons_succ, i64_w, i32_w]
          rfl
        refine take_ (i := 6) (N := some 45) (v := ?_) (a' := ?_) #[true, true, true, true, true, true, true, false, false, false, false, false] rfl rfl (by kernel_rfl) (fun _ _ _ h => h) (Or.inl ⟨by rfl, ?_⟩) hHeld ?_ ?_
        rotate_left
        · rintro w' s0
          obtain ⟨b0, b1, b2⟩ := HA.out w' s0
          go_simp
          with_reducible rfl
        rotate_left
        · simp only [Act.put, List.setIfInBounds_toArray, List.set_cons_zero, List.set_cons_succ, i64_w, i32_w]
          rfl
        refine pure_ (i := 7) (N := some 46) (v := ?_) (a' := ?_) #[true, true, true, true, true, true, true, true, false, false, false, false] rfl rfl (by kernel_rfl) (fun _ _ _ h => h) (Or.inl ⟨by rfl, ?_⟩) ?_ ?_
        rotate_left
        · intro w'
          go_simp
          with_reducible rfl
        rotate_left
        · simp only [Act.put, List.setIfInBounds_toArray, List.set_cons_zero, List.set_cons_succ, i64_w, i32_w]
          rfl
        refine pure_ (i := 8) (N := some 47) (v := ?_) (a' := ?_) #[true, true, true, true, true, true, true, true, true, false, false, false] rfl rfl (by kernel_rfl) (fun _ _ _ h => h) (Or.inl ⟨by rfl, ?_⟩) ?_ ?_
        rotate_left
        · intro w'
          go_simp
          with_reducible rfl
        rotate_left
        · simp only [Act.put, List.setIfInBounds_toArray, List.set_cons_zero, List.set_cons_succ, i64_w, i32_w]
          rfl
        refine take_ (i := 9) (N := some 48) (v := ?_) (a' := ?_) #[true, true, true, true, true, true, true, true, true, true, false, false] rfl rfl (by kernel_rfl) (fun _ _ _ h => h) (Or.inl ⟨by rfl, ?_⟩) hHeld ?_ ?_
        rotate_left
        · rintro w' s0
          obtain ⟨b0, b1, b2⟩ := HA.out w' s0
          go_simp
          with_reducible rfl
        rotate_left
        · simp only [Act.put, List.setIfInBounds_toArray, List.set_cons_zero, List.set_cons_succ, i64_w, i32_w]
          rfl
        refine pure_ (i := 10) (N := some 49) (v := ?_) (a' := ?_) #[true, true, true, true, true, true, true, true, true, true, true, false] rfl rfl (by kernel_rfl) (fun _ _ _ h => h) (Or.inl ⟨by rfl, ?_⟩) ?_ ?_
        rotate_left
        · intro w'
          go_simp
          with_reducible rfl
        rotate_left
        · simp only [Act.put, List.setIfInBounds_toArray, List.set_cons_zero, List.set_cons_succ, i64_w, i32_w]
          rfl
        refine pure_ (i := 11) (N := some 50) (v := ?_) (a' := ?_) #[true, true, true, true, true, true, true, true, true, true, true, true] rfl rfl (by kernel_rfl) (fun _ _ _ h => h) (Or.inl ⟨by rfl, ?_⟩) ?_ ?_
        rotate_left
        · intro w'
          go_simp
          with_reducible rfl
        rotate_left
        · simp only [Act.put, List.setIfInBounds_toArray, List.set_cons_zero, List.set_cons_succ, i64_w, i32_w]
          rfl
        refine done_ (by kernel_rfl) ?_
        go_wp2
        go_roundg (D.L.length - (i + 1))
        case measure => omega
        case rel => exact ⟨i + 1, by go_num, by omega, ⟨(hI.out.1.below H3.out.2).below HD.out, (hI.out.2.trans (H3.out.2.mono hI.out.2.size)).trans (HD.out.mono (Nat.le_trans hI.out.2.size H3.out.2.size))⟩⟩
    · have d2 : decide ((i : Int) < (D.L.length : Int)) = false := decide_eq_false (by omega)
      have d2n : decide (i < D.L.length) = false := decide_eq_false (by omega)
      go_wp2
      go_ret
      exact ⟨rfl, hI.out.2⟩
end
end Go.Proofs.Ytnajdnhgoakgaaa.Blk
