/- Add, walked: where it writes. -/
import Derived.Test.YtnajdnhgoakgaaaAdd
namespace Go.Proofs.Ytnajdnhgoakgaaa.Wal
open Go.RowKit Go.Proofs.YtnajdnhgoakgaaaW.PrintWords Go.Proofs.YtnajdnhgoakgaaaW.PrintLast Go.Proofs.YtnajdnhgoakgaaaW.PrintMore Go.Proofs.Ytnajdnhgoakgaaa.Mem Go.Proofs.Ytnajdnhgoakgaaa.PWal Go.Proofs.Ytnajdnhgoakgaaa.Blk
set_option linter.unusedVariables false
set_option linter.unusedSimpArgs false
set_option maxRecDepth 8000
set_option maxHeartbeats 8000000
section
variable {w0 w wr : World} {base : Nat} {FD FL F : Nat → Prop} {gd gl : Nat} {D Di : DM} {L : LM} {b : List Int} {A : Option Addr} {c i : Nat}
theorem LogAt.setE (h : LogAt w base F gl gd L) (q : Int) : LogAt (w.setCell ⟨gl, 7, none⟩ (.int .i64 q)) base F gl gd { L with e := q } := by
  obtain ⟨v, h1, h2, h3, h4, h5⟩ := h
  refine ⟨v, h1, h2, ?_, Kd.R_far (p := ⟨gl, 7, none⟩) h4 (fun k hk => hk.2) _, h5.f0, h5.n1, h5.fn, h5.i0, h5.i1, h5.x0, h5.x1, h5.h0, h5.h1, h5.lh, h5.rl, h5.rb⟩
  have := blk_set h3 7 (.int .i64 q)
  exact this
theorem LogAt.setF (h : LogAt w base F gl gd L) : LogAt (w.setCell ⟨gl, 3, none⟩ (.int .u64 L.next)) base F gl gd { L with first := L.next } := by
  obtain ⟨v, h1, h2, h3, h4, h5⟩ := h
  refine ⟨v, h1, h2, ?_, Kd.R_far (p := ⟨gl, 3, none⟩) h4 (fun k hk => hk.2) _, h5.f0, h5.n1, h5.fn, h5.x0, h5.x1, h5.x0, h5.x1, h5.h0, h5.h1, h5.lh, h5.rl, h5.rb⟩
  have := blk_set h3 3 (.int .u64 L.next)
  exact this
structure AddAt (w0 w wr : World) (base : Nat) (FD FL : Nat → Prop) (gd gl : Nat) (D Di : DM) (L : LM) (b : List Int) (i : Nat) : Prop where
  bl : Below w0.heap.size w0 wr
  dk : DiskAt wr FD gd Di
  lg : LogAt wr base FL gl gd L
  kp : Kept w wr FD
  st : wrs (L.fr + L.hv) L.next b i (npc b - i) Di = wrs (L.fr + L.hv) L.next b 0 (npc b) D
theorem AddAt.below (h : AddAt w0 w wr base FD FL gd gl D Di L b i) {w' : World} (hb : Below wr.heap.size wr w') : AddAt w0 w w' base FD FL gd gl D Di L b i :=
  ⟨below_step h.bl hb, h.dk.below hb, h.lg.below hb, h.kp.below hb, h.st⟩
theorem wrs_yes {a nx : Int} {r : Nat} (h : (D.write (a + i) (blkS nx b i)).2 = 0) : wrs a nx b i (r + 1) D = wrs a nx b (i + 1) r (D.write (a + i) (blkS nx b i)).1 := if_pos h
theorem wrs_no {a nx : Int} {r : Nat} (h : ¬ (D.write (a + i) (blkS nx b i)).2 = 0) : wrs a nx b i (r + 1) D = D.write (a + i) (blkS nx b i) := if_neg h
/-- The blocks are written. -/
structure AddF (w0 w wr : World) (base : Nat) (FD FL : Nat → Prop) (gd gl : Nat) (Di : DM) (L : LM) : Prop where
  bl : Below w0.heap.size w0 wr
  dk : DiskAt wr FD gd Di
  lg : LogAt wr base FL gl gd L
  kp : Kept w wr (fun k => FD k ∨ FL k)
def LM.f1 (L : LM) : LM := { L with first := if L.hv = 0 then L.next else L.first }
theorem AddAt.post (h : AddAt w0 w wr base FD FL gd gl D Di L b i) : AddPost w0 w wr base FD FL gd gl Di L := ⟨h.bl, h.dk, h.lg.mono (fun k hk => .inl hk), h.kp.mono (fun k hk => .inl hk)⟩
/-- A store into the log's own block. -/
theorem kept_set (w : World) (gl j : Nat) (u : Value) : Kept w (w.setCell ⟨gl, j, none⟩ u) (fun k => k = gl) := (Kept.refl w (fun k => k = gl)).setCell (p := ⟨gl, j, none⟩) (.inl rfl) u
theorem buildR (W : World) (A : Option Addr) (n c : Nat) : (Instr.buildSlice 56 1 #[(0, .slice A n c)]).run Try.prog W = .ok (.slice (some ⟨W.heap.size, 0, none⟩) 1 1) (W.alloc (.cells #[.slice A n c] 35)) := by
  kernel_rfl
theorem exec_buildR {o : Oper} {ev : Operand → Value} {W : World} (x : Operand) (A : Option Addr) (n c : Nat) (ho : o.op = .buildSlice 56 1 #[(0, x)]) (hx : ev x = .slice A n c) : (execOp ev o).run Try.prog W = .ok (.value (.slice (some ⟨W.heap.size, 0, none⟩) 1 1)) (W.alloc (.cells #[.slice A n c] 35)) := by
  have h := buildR W A n c
  unfold execOp
  simp [ho, hx, h]
theorem store_l {o' : Oper} {ev : Operand → Value} {cs : Array Value} (hp : wr.heap[gl]? = some (.cells cs 91 (0, 0))) (A1 : Option Addr) (n1 c1 : Nat) (u0 : Value) (hc : wr.cell? ⟨gl, 6, none⟩ = some u0) (x y : Operand) (ho : o'.op = .store 56 x y) (hx : ev x = .pointer (some ⟨gl, 6, none⟩)) (hy : ev y = .slice A1 n1 c1) :
    (execOp ev o').run Try.prog wr = .ok .skip (wr.setCell ⟨gl, 6, none⟩ (.slice A1 n1 c1)) := by
  have hf : wr.frozen? ⟨gl, 6, none⟩ = false := blk_frozen hp 6
  unfold execOp
  simp only [ho, hx, hy]
  go_simp
theorem store_hv {o' : Oper} {ev : Operand → Value} {cs : Array Value} (hp : wr.heap[gl]? = some (.cells cs 91 (0, 0))) (k : Int) (u0 : Value) (hc : wr.cell? ⟨gl, 5, none⟩ = some u0) (x y : Operand) (ho : o'.op = .store 3 x y) (hx : ev x = .pointer (some ⟨gl, 5, none⟩)) (hy : ev y = .int .i64 k) :
    (execOp ev o').run Try.prog wr = .ok .skip (wr.setCell ⟨gl, 5, none⟩ (.int .i64 k)) := by
  have hf : wr.frozen? ⟨gl, 5, none⟩ = false := blk_frozen hp 5
  unfold execOp
  simp only [ho, hx, hy]
  go_simp
theorem LogAt.push {v9 v : Value} {G : Nat → Prop} (hp : w.heap[gl]? = some (.cells (lcells gd L.f1 v) 91 (0, 0))) (h9 : KR.R 35 w base (fun k => G k ∧ k ≠ gl) v9 (L.l ++ [b])) (hg : G gl) (hb : base ≤ gl) (hok : (L.added b).Ok) :
    LogAt (((w.setCell ⟨gl, 6, none⟩ v9).setCell ⟨gl, 5, none⟩ (.int .i64 (L.hv + npc b))).setCell ⟨gl, 4, none⟩ (.int .u64 (L.next + npc b))) base G gl gd (L.added b) := by
  refine ⟨v9, hg, hb, ?_, Kd.R_far (p := ⟨gl, 4, none⟩) (Kd.R_far (p := ⟨gl, 5, none⟩) (Kd.R_far (p := ⟨gl, 6, none⟩) h9 (fun k hk => hk.2) _) (fun k hk => hk.2) _) (fun k hk => hk.2) _, hok⟩
  have := blk_set (blk_set (blk_set hp 6 v9) 5 (.int .i64 (L.hv + npc b))) 4 (.int .u64 (L.next + npc b))
  exact this
theorem add_go (hp : AddPre w0 w base FD FL gd gl D L b A c) (he : L.e = 0) (hf : ¬ L.n - L.hv < npc b) (h0 : ¬ L.next = 0) (h1 : ¬ 18446744073709551615 < L.next + npc b) :
    Calls Try.prog 30 #[.pointer (some ⟨gl, 0, none⟩), .slice A b.length c] w fun e w' => e = .returned (.int .i64 (addM D L b).2.2) ∧ AddPost w0 w w' base FD FL gd gl (addM D L b).1 (addM D L b).2.1 := by
  have hM : addM D L b = if (wrs (L.fr + L.hv) L.next b 0 (npc b) D).2 = 0 then ((wrs (L.fr + L.hv) L.next b 0 (npc b) D).1, L.added b, 0)
      else ((wrs (L.fr + L.hv) L.next b 0 (npc b) D).1, { L with e := (wrs (L.fr + L.hv) L.next b 0 (npc b) D).2 }, (wrs (L.fr + L.hv) L.next b 0 (npc b) D).2) := by
    unfold addM; rw [if_neg (by simp [he]), if_neg hf, if_neg (by rintro (h | h); exact h0 h; exact h1 h)]
  have HP := Aside0.mk hp
  have HQ := Aside0.mk (parts_any b A c (hp.rw_ w (Kept.refl _ _)) hp.rc (by have := hp.rl; omega))
  have hLok := hp.lg.ok
  obtain ⟨n, hn⟩ : ∃ n, n = b.length := ⟨_, rfl⟩
  obtain ⟨np, hnp⟩ : ∃ n, n = npc b := ⟨_, rfl⟩
  obtain ⟨fre, hfre⟩ : ∃ n, n = L.n - L.hv := ⟨_, rfl⟩
  obtain ⟨nx, hnx⟩ : ∃ n, n = L.next := ⟨_, rfl⟩
  have hnp0 : (np : Int) ≤ 65536 ∧ 1 ≤ np := by
    have h1 := npc_pos b; have a1 := hLok.f0; have a2 := hLok.fn; have a3 := hLok.h0; omega
  have d1 : decide ((np : Int) > fre) = false := decide_eq_false (by rw [hnp, hfre]; exact hf)
  have HE := Aside0.mk (And.intro he (And.intro hfre hnx))
  have hwc : IntKind.u64.wrap (np : Int) = np := wraps_u64 _ (by omega) (by omega)
  have hnx0 : 0 ≤ nx ∧ nx + np ≤ 18446744073709551615 := by have := hLok.x0; rw [hnx, hnp]; omega
  have d2 : (nx == 0) = false := beq_eq_false_iff_ne.2 (by rw [hnx]; exact h0)
  have d3 : decide (IntKind.u64.wrap (nx + (np : Int)) < nx) = false := decide_eq_false (by
    rw [wraps_u64 _ (by omega) (by omega)]
    omega)
  obtain ⟨fr, hfr⟩ : ∃ n, n = L.fr := ⟨_, rfl⟩
  obtain ⟨hv, hhv⟩ : ∃ n, n = L.hv := ⟨_, rfl⟩
  obtain ⟨a0, ha0⟩ : ∃ n, n = fr + hv := ⟨_, rfl⟩
  have hA0 : 0 ≤ a0 ∧ a0 + np ≤ 65536 := by
    have a1 := hLok.f0; have a2 := hLok.fn; have a3 := hLok.h0; rw [ha0, hfr, hhv, hnp]; omega
  have hwA : wrap64 (fr + hv) = a0 := by rw [← ha0]; exact IntWalk.wrap64_in _ ⟨by omega, by omega⟩
  have HM := Aside0.mk (And.intro hM (And.intro hnp (And.intro hfr (And.intro hhv (And.intro ha0 (And.intro hA0 (And.intro hnx0 (And.intro (And.intro hf (show ¬ (L.next = 0 ∨ 18446744073709551615 < L.next + npc b) by rintro (h | h); exact h0 h; exact h1 h)) (And.intro hnx hn)))))))))
  rw [← hn, ← hnp] at HQ
  rw [← hn]
  have hnpi : (np : Int) ≤ 65536 := hnp0.1
  clear hp he hM hn hf hnp hfre hnx hLok h0 h1 hfr hhv ha0 hnp0 hA0 hnx0
  go_enter Try.func30, Try.ntmps30
  go_upto_region 8 with (first
    | (go_at_call 48; go_loud (refine HQ.out.mono ?_; rintro e w1 ⟨Ap, cp, pA, pc, rfl, h0, h1, h2⟩; obtain ⟨v, _, _, h3, _⟩ := HP.out.lg; have c7 : w1.cell? ⟨gl, 7, none⟩ = some (.int .i64 0) := (blk_cell ((h2.block _ (blk_lt h3)).trans h3) 7).trans (by rw [← HE.out.1]; rfl); have H1 := Aside0.mk (And.intro h2 (And.intro h0 h1)); clear h0 h1 h2 h3))
    | (go_at_call 34; go_loud (refine (free_calls (HP.out.lg.below H1.out.1)).mono ?_; rintro e w2 ⟨rfl, h2⟩; rw [← HE.out.2.1]; have H2 := Aside0.mk (And.intro (below_step H1.out.1 h2) (pw_own_below H1.out.2.1 h2)); clear h2 c7)))
  obtain ⟨wd, hwd⟩ : ∃ wd, wd = w2.drew := ⟨_, rfl⟩
  have hbd : Below w2.heap.size w2 wd := by rw [hwd]; exact below_drew1 (Below.refl _ _)
  have HD := Aside0.mk (And.intro (below_step H2.out.1 hbd) (pw_own_below H2.out.2 hbd))
  have s4 : wd.cell? ⟨gl, 4, none⟩ = some (.int .u64 nx) := by
    obtain ⟨v, _, _, h3, _⟩ := (HP.out.lg.below HD.out.1)
    exact (blk_cell h3 4).trans (by rw [HE.out.2.2]; rfl)
  clear hbd H2
  refine start_ (n := 21) (S := (fun w' => w'.cell? ⟨gl, 4, none⟩ = some (.int .u64 nx))) (ds := []) #[false, false, false, false, false, false, false, false, false, false, false, false, false, false, false, false, false, false, false, false, false] (by kernel_rfl) rfl (by kernel_rfl) ((by rw [← hwd]; exact s4)) (fun hHeld => ?_)
  rw [← hwd] at hHeld ⊢
  clear hwd s4
  refine pure_ (i := 0) (N := some 31) (v := ?_) (a' := ?_) #[true, false, false, false, false, false, false, false, false, false, false, false, false, false, false, false, false, false, false, false, false] rfl rfl (by kernel_rfl) (fun _ _ _ h => h) (Or.inl ⟨by rfl, ?_⟩) ?_ ?_
  rotate_left
  · intro w'
    go_simp
    with_reducible rfl
  rotate_left
  · simp only [Act.put, List.setIfInBounds_toArray, List.set_cons_zero, List.set_cons_succ, i64_w, i32_w]
    rfl
  refine pure_ (i := 1) (N := some 32) (v := ?_) (a' := ?_) #[true, true, false, false, false, false, false, false, false, false, false, false, false, false, false, false, false, false, false, false, false] rfl rfl (by kernel_rfl) (fun _ _ _ h => h) (Or.inl ⟨by rfl, ?_⟩) ?_ ?_
  rotate_left
  · intro w'
    go_simp
    with_reducible rfl
  rotate_left
  · simp only [Act.put, List.setIfInBounds_toArray, List.set_cons_zero, List.set_cons_succ, i64_w, i32_w]
    rfl
  refine pure_ (i := 2) (N := some 33) (v := ?_) (a' := ?_) #[true, true, true, false, false, false, false, false, false, false, false, false, false, false, false, false, false, false, false, false, false] rfl rfl (by kernel_rfl) (fun _ _ _ h => h) (Or.inl ⟨by rfl, ?_⟩) ?_ ?_
  rotate_left
  · intro w'
    go_simp
    with_reducible rfl
  rotate_left
  · simp only [Act.put, List.setIfInBounds_toArray, List.set_cons_zero, List.set_cons_succ, i64_w, i32_w]
    rfl
  refine take_ (i := 3) (N := some 34) (v := ?_) (a' := ?_) #[true, true, true, true, false, false, false, false, false, false, false, false, false, false, false, false, false, false, false, false, false] rfl rfl (by kernel_rfl) (fun _ _ _ h => h) (Or.inl ⟨by rfl, ?_⟩) hHeld ?_ ?_
  rotate_left
  · rintro w' s0
    go_simp
    with_reducible rfl
  rotate_left
  · simp only [Act.put, List.setIfInBounds_toArray, List.set_cons_zero, List.set_cons_succ, i64_w, i32_w]
    rfl
  refine pure_ (i := 4) (N := some 35) (v := ?_) (a' := ?_) #[true, true, true, true, true, false, false, false, false, false, false, false, false, false, false, false, false, false, false, false, false] rfl rfl (by kernel_rfl) (fun _ _ _ h => h) (Or.inl ⟨by rfl, ?_⟩) ?_ ?_
  rotate_left
  · intro w'
    go_simp
    with_reducible rfl
  rotate_left
  · simp only [Act.put, List.setIfInBounds_toArray, List.set_cons_zero, List.set_cons_succ, i64_w, i32_w]
    rfl
  refine pure_ (i := 5) (N := some 36) (v := ?_) (a' := ?_) #[true, true, true, true, true, true, false, false, false, false, false, false, false, false, false, false, false, false, false, false, false] rfl rfl (by kernel_rfl) (fun _ _ _ h => h) (Or.inl ⟨by rfl, ?_⟩) ?_ ?_
  rotate_left
  · intro w'
    go_simp
    with_reducible rfl
  rotate_left
  · simp only [Act.put, List.setIfInBounds_toArray, List.set_cons_zero, List.set_cons_succ, i64_w, i32_w]
    rfl
  refine pure_ (i := 6) (N := some 37) (v := ?_) (a' := ?_) #[true, true, true, true, true, true, true, false, false, false, false, false, false, false, false, false, false, false, false, false, false] rfl rfl (by kernel_rfl) (fun _ _ _ h => h) (Or.inl ⟨by rfl, ?_⟩) ?_ ?_
  rotate_left
  · intro w'
    go_simp
    with_reducible rfl
  rotate_left
  · simp only [Act.put, List.setIfInBounds_toArray, List.set_cons_zero, List.set_cons_succ, i64_w, i32_w]
    rfl
  refine pure_ (i := 7) (N := some 38) (v := ?_) (a' := ?_) #[true, true, true, true, true, true, true, true, false, false, false, false, false, false, false, false, false, false, false, false, false] rfl rfl (by kernel_rfl) (fun _ _ _ h => h) (Or.inl ⟨by rfl, ?_⟩) ?_ ?_
  rotate_left
  · intro w'
    go_simp
    with_reducible rfl
  rotate_left
  · simp only [Act.put, List.setIfInBounds_toArray, List.set_cons_zero, List.set_cons_succ, i64_w, i32_w]
    rfl
  refine pure_ (i := 8) (N := some 39) (v := ?_) (a' := ?_) #[true, true, true, true, true, true, true, true, true, false, false, false, false, false, false, false, false, false, false, false, false] rfl rfl (by kernel_rfl) (fun _ _ _ h => h) (Or.inl ⟨by rfl, ?_⟩) ?_ ?_
  rotate_left
  · intro w'
    go_simp
    with_reducible rfl
  rotate_left
  · simp only [Act.put, List.setIfInBounds_toArray, List.set_cons_zero, List.set_cons_succ, i64_w, i32_w]
    rfl
  refine take_ (i := 9) (N := some 40) (v := ?_) (a' := ?_) #[true, true, true, true, true, true, true, true, true, true, false, false, false, false, false, false, false, false, false, false, false] rfl rfl (by kernel_rfl) (fun _ _ _ h => h) (Or.inl ⟨by rfl, ?_⟩) hHeld ?_ ?_
  rotate_left
  · rintro w' s0
    go_simp
    with_reducible rfl
  rotate_left
  · simp only [Act.put, List.setIfInBounds_toArray, List.set_cons_zero, List.set_cons_succ, i64_w, i32_w]
    rfl
  refine pure_ (i := 10) (N := some 41) (v := ?_) (a' := ?_) #[true, true, true, true, true, true, true, true, true, true, true, false, false, false, false, false, false, false, false, false, false] rfl rfl (by kernel_rfl) (fun _ _ _ h => h) (Or.inl ⟨by rfl, ?_⟩) ?_ ?_
  rotate_left
  · intro w'
    go_simp
    with_reducible rfl
  rotate_left
  · simp only [Act.put, List.setIfInBounds_toArray, List.set_cons_zero, List.set_cons_succ, i64_w, i32_w]
    rfl
  refine pure_ (i := 11) (N := some 42) (v := ?_) (a' := ?_) #[true, true, true, true, true, true, true, true, true, true, true, true, false, false, false, false, false, false, false, false, false] rfl rfl (by kernel_rfl) (fun _ _ _ h => h) (Or.inl ⟨by rfl, ?_⟩) ?_ ?_
  rotate_left
  · intro w'
    go_simp
    with_reducible rfl
  rotate_left
  · simp only [Act.put, List.setIfInBounds_toArray, List.set_cons_zero, List.set_cons_succ, i64_w, i32_w]
    rfl
  refine pure_ (i := 12) (N := some 43) (v := ?_) (a' := ?_) #[true, true, true, true, true, true, true, true, true, true, true, true, true, false, false, false, false, false, false, false, false] rfl rfl (by kernel_rfl) (fun _ _ _ h => h) (Or.inl ⟨by rfl, ?_⟩) ?_ ?_
  rotate_left
  · intro w'
    go_simp
    with_reducible rfl
  rotate_left
  · simp only [Act.put, List.setIfInBounds_toArray, List.set_cons_zero, List.set_cons_succ, i64_w, i32_w]
    rfl
  refine pure_ (i := 13) (N := some 44) (v := ?_) (a' := ?_) #[true, true, true, true, true, true, true, true, true, true, true, true, true, true, false, false, false, false, false, false, false] rfl rfl (by kernel_rfl) (fun _ _ _ h => h) (Or.inl ⟨by rfl, ?_⟩) ?_ ?_
  rotate_left
  · intro w'
    go_simp
    with_reducible rfl
  rotate_left
  · simp only [Act.put, List.setIfInBounds_toArray, List.set_cons_zero, List.set_cons_succ, i64_w, i32_w]
    rfl
  refine pure_ (i := 14) (N := some 45) (v := ?_) (a' := ?_) #[true, true, true, true, true, true, true, true, true, true, true, true, true, true, true, false, false, false, false, false, false] rfl rfl (by kernel_rfl) (fun _ _ _ h => h) (Or.inl ⟨by rfl, ?_⟩) ?_ ?_
  rotate_left
  · intro w'
    go_simp
    with_reducible rfl
  rotate_left
  · simp only [Act.put, List.setIfInBounds_toArray, List.set_cons_zero, List.set_cons_succ, i64_w, i32_w]
    rfl
  refine pure_ (i := 15) (N := some 46) (v := ?_) (a' := ?_) #[true, true, true, true, true, true, true, true, true, true, true, true, true, true, true, true, false, false, false, false, false] rfl rfl (by kernel_rfl) (fun _ _ _ h => h) (Or.inl ⟨by rfl, ?_⟩) ?_ ?_
  rotate_left
  · intro w'
    go_simp
    with_reducible rfl
  rotate_left
  · simp only [Act.put, List.setIfInBounds_toArray, List.set_cons_zero, List.set_cons_succ, i64_w, i32_w]
    rfl
  refine pure_ (i := 16) (N := some 47) (v := ?_) (a' := ?_) #[true, true, true, true, true, true, true, true, true, true, true, true, true, true, true, true, true, false, false, false, false] rfl rfl (by kernel_rfl) (fun _ _ _ h => h) (Or.inl ⟨by rfl, ?_⟩) ?_ ?_
  rotate_left
  · intro w'
    go_simp
    with_reducible rfl
  rotate_left
  · simp only [Act.put, List.setIfInBounds_toArray, List.set_cons_zero, List.set_cons_succ, i64_w, i32_w]
    rfl
  refine take_ (i := 17) (N := some 48) (v := ?_) (a' := ?_) #[true, true, true, true, true, true, true, true, true, true, true, true, true, true, true, true, true, true, false, false, false] rfl rfl (by kernel_rfl) (fun _ _ _ h => h) (Or.inl ⟨by rfl, ?_⟩) hHeld ?_ ?_
  rotate_left
  · rintro w' s0
    go_simp
    with_reducible rfl
  rotate_left
  · simp only [Act.put, List.setIfInBounds_toArray, List.set_cons_zero, List.set_cons_succ, i64_w, i32_w]
    rfl
  refine pure_ (i := 18) (N := some 49) (v := ?_) (a' := ?_) #[true, true, true, true, true, true, true, true, true, true, true, true, true, true, true, true, true, true, true, false, false] rfl rfl (by kernel_rfl) (fun _ _ _ h => h) (Or.inl ⟨by rfl, ?_⟩) ?_ ?_
  rotate_left
  · intro w'
    go_simp
    with_reducible rfl
  rotate_left
  · simp only [Act.put, List.setIfInBounds_toArray, List.set_cons_zero, List.set_cons_succ, i64_w, i32_w]
    rfl
  refine pure_ (i := 19) (N := some 50) (v := ?_) (a' := ?_) #[true, true, true, true, true, true, true, true, true, true, true, true, true, true, true, true, true, true, true, true, false] rfl rfl (by kernel_rfl) (fun _ _ _ h => h) (Or.inl ⟨by rfl, ?_⟩) ?_ ?_
  rotate_left
  · intro w'
    go_simp
    with_reducible rfl
  rotate_left
  · simp only [Act.put, List.setIfInBounds_toArray, List.set_cons_zero, List.set_cons_succ, i64_w, i32_w]
    rfl
  refine pure_ (i := 20) (N := some 30) (v := ?_) (a' := ?_) #[true, true, true, true, true, true, true, true, true, true, true, true, true, true, true, true, true, true, true, true, true] rfl rfl (by kernel_rfl) (fun _ _ _ h => h) (Or.inl ⟨by rfl, ?_⟩) ?_ ?_
  rotate_left
  · intro w'
    go_simp
    with_reducible rfl
  rotate_left
  · simp only [Act.put, List.setIfInBounds_toArray, List.set_cons_zero, List.set_cons_succ, i64_w, i32_w]
    rfl
  refine done_ (by kernel_rfl) ?_
  go_wp2
  go_loopg [53] np (fun q v53 wr => ∃ (i : Nat) (Di : DM), v53 = .int .i64 i ∧ q + i = np ∧ Aside0 (AddAt w0 w wr base FD FL gd gl D Di L b i ∧ wr.ownsRow w.heap.size 35 1 (.slice Ap np cp) np ((List.range np).map fun j => .slice (pA j) (partAt b j).length (pc j))))
  case atStart => exact ⟨0, D, rfl, by omega, ⟨⟨below_step HP.out.bl HD.out.1, HP.out.dk.below HD.out.1, HP.out.lg.below HD.out.1, Kept.of_below HD.out.1 _, rfl⟩, HD.out.2⟩⟩
  case round =>
    obtain ⟨i, Di, rfl, hq, hI⟩ := hrel
    by_cases hlt : i < np
    · obtain ⟨gp, rfl, hgp, hcell⟩ := own_at hI.out.2 i hlt
      rw [List.getElem?_map, List.getElem?_range hlt] at hcell
      have hcell' : wr.cell? ⟨gp, i, none⟩ = some (.slice (pA i) (partAt b i).length (pc i)) := hcell
      obtain ⟨pl, hpl⟩ : ∃ n, n = (partAt b i).length := ⟨_, rfl⟩
      obtain ⟨pAi, hpA⟩ : ∃ x, x = pA i := ⟨_, rfl⟩
      obtain ⟨pci, hpc⟩ : ∃ x, x = pc i := ⟨_, rfl⟩
      rw [← hpl, ← hpA, ← hpc] at hcell'
      have HPL := Aside0.mk (And.intro hpl hpA)
      obtain ⟨ai, hai⟩ : ∃ n, n = a0 + i := ⟨_, rfl⟩
      obtain ⟨ni, hni⟩ : ∃ n, n = nx + i := ⟨_, rfl⟩
      obtain ⟨nm, hnm⟩ : ∃ n, n = (np : Int) - 1 := ⟨_, rfl⟩
      obtain ⟨en, hen⟩ : ∃ e, e = decide (i = npc b - 1) := ⟨_, rfl⟩
      obtain ⟨hA0, hnx0⟩ : (0 ≤ a0 ∧ a0 + np ≤ 65536) ∧ (0 ≤ nx ∧ nx + np ≤ 18446744073709551615) := ⟨HM.out.2.2.2.2.2.1, HM.out.2.2.2.2.2.2.1⟩
      have hw1 : wrap64 (a0 + (i : Int)) = ai := by rw [hai]; exact IntWalk.wrap64_in _ ⟨by omega, by omega⟩
      have hw2 : wrap64 ((np : Int) - 1) = nm := by rw [hnm]; exact IntWalk.wrap64_in _ ⟨by omega, by omega⟩
      have hu1 : IntKind.u64.wrap (i : Int) = i := wraps_u64 _ (by omega) (by omega)
      have hu2 : IntKind.u64.wrap (nx + (i : Int)) = ni := by rw [hni]; exact wraps_u64 _ (by omega) (by omega)
      have heq : ((i : Int) == nm) = en := by
        rw [hen, hnm, ← HM.out.2.1, Bool.eq_iff_iff, beq_iff_eq, decide_eq_true_iff]
        omega
      have HN := Aside0.mk (And.intro hai (And.intro hni hen))
      have hnb : 0 ≤ ni ∧ ni ≤ 18446744073709551615 := by omega
      have HNB := Aside0.mk hnb
      clear hcell hpl hpA hpc hai hni hnm hen hA0 hnx0 hnb
      go_upto_region 13 with (fail)
      obtain ⟨wx, hwx⟩ : ∃ wx, wx = wr.drew := ⟨_, rfl⟩
      have hbx : Below wr.heap.size wr wx := by rw [hwx]; exact below_drew1 (Below.refl _ _)
      have HX := Aside0.mk (And.intro (hI.out.1.below hbx) (pw_own_below hI.out.2 hbx))
      have hss : wx.cell? ⟨gl, 0, none⟩ = some (.pointer (some ⟨gd, 0, none⟩)) ∧ wx.cell? ⟨gl, 1, none⟩ = some (.int .i64 fr) ∧ wx.cell? ⟨gl, 5, none⟩ = some (.int .i64 hv) ∧ wx.cell? ⟨gl, 4, none⟩ = some (.int .u64 nx) := by
        obtain ⟨v, _, _, h3, _⟩ := HX.out.1.lg
        exact ⟨(blk_cell h3 0).trans rfl, (blk_cell h3 1).trans (by rw [HM.out.2.2.1]; rfl), (blk_cell h3 5).trans (by rw [HM.out.2.2.2.1]; rfl), (blk_cell h3 4).trans (by rw [HM.out.2.2.2.2.2.2.2.2.1]; rfl)⟩
      have HSS := Aside0.mk hss
      clear hbx hss
      refine start_ (n := 31) (S := (fun w' => w'.cell? ⟨gl, 0, none⟩ = some (.pointer (some ⟨gd, 0, none⟩)) ∧ w'.cell? ⟨gl, 1, none⟩ = some (.int .i64 fr) ∧ w'.cell? ⟨gl, 5, none⟩ = some (.int .i64 hv) ∧ w'.cell? ⟨gl, 4, none⟩ = some (.int .u64 nx))) (ds := []) #[false, false, false, false, false, false, false, false, false, false, false, false, false, false, false, false, false, false, false, false, false, false, false, false, false, false, false, false, false, false, false] (by kernel_rfl) rfl (by kernel_rfl) ((by rw [← hwx]; exact HSS.out)) (fun hHeld => ?_)
      rw [← hwx] at hHeld ⊢
      clear hwx
      refine pure_ (i := 0) (N := some 58) (v := ?_) (a' := ?_) #[true, false, false, false, false, false, false, false, false, false, false, false, false, false, false, false, false, false, false, false, false, false, false, false, false, false, false, false, false, false, false] rfl rfl (by kernel_rfl) (fun _ _ _ h => h) (Or.inl ⟨by rfl, ?_⟩) ?_ ?_
      rotate_left
      · intro w'
        go_simp
        with_reducible rfl
      rotate_left
      · simp only [Act.put, List.setIfInBounds_toArray, List.set_cons_zero, List.set_cons_succ, i64_w, i32_w]
        rfl
      refine pure_ (i := 1) (N := some 59) (v := ?_) (a' := ?_) #[true, true, false, false, false, false, false, false, false, false, false, false, false, false, false, false, false, false, false, false, false, false, false, false, false, false, false, false, false, false, false] rfl rfl (by kernel_rfl) (fun _ _ _ h => h) (Or.inl ⟨by rfl, ?_⟩) ?_ ?_
      rotate_left
      · intro w'
        go_simp
        with_reducible rfl
      rotate_left
      · simp only [Act.put, List.setIfInBounds_toArray, List.set_cons_zero, List.set_cons_succ, i64_w, i32_w]
        rfl
      refine pure_ (i := 2) (N := some 60) (v := ?_) (a' := ?_) #[true, true, true, false, false, false, false, false, false, false, false, false, false, false, false, false, false, false, false, false, false, false, false, false, false, false, false, false, false, false, false] rfl rfl (by kernel_rfl) (fun _ _ _ h => h) (Or.inl ⟨by rfl, ?_⟩) ?_ ?_
      rotate_left
      · intro w'
        go_simp
        with_reducible rfl
      rotate_left
      · simp only [Act.put, List.setIfInBounds_toArray, List.set_cons_zero, List.set_cons_succ, i64_w, i32_w]
        rfl
      refine take_ (i := 3) (N := some 61) (v := ?_) (a' := ?_) #[true, true, true, true, false, false, false, false, false, false, false, false, false, false, false, false, false, false, false, false, false, false, false, false, false, false, false, false, false, false, false] rfl rfl (by kernel_rfl) (fun _ _ _ h => h) (Or.inl ⟨by rfl, ?_⟩) hHeld ?_ ?_
      rotate_left
      · rintro w' s0
        obtain ⟨sa, sb, sc, sd⟩ := s0
        go_simp
        with_reducible rfl
      rotate_left
      · simp only [Act.put, List.setIfInBounds_toArray, List.set_cons_zero, List.set_cons_succ, i64_w, i32_w]
        rfl
      refine pure_ (i := 4) (N := some 62) (v := ?_) (a' := ?_) #[true, true, true, true, true, false, false, false, false, false, false, false, false, false, false, false, false, false, false, false, false, false, false, false, false, false, false, false, false, false, false] rfl rfl (by kernel_rfl) (fun _ _ _ h => h) (Or.inl ⟨by rfl, ?_⟩) ?_ ?_
      rotate_left
      · intro w'
        go_simp
        with_reducible rfl
      rotate_left
      · simp only [Act.put, List.setIfInBounds_toArray, List.set_cons_zero, List.set_cons_succ, i64_w, i32_w]
        rfl
      refine pure_ (i := 5) (N := some 63) (v := ?_) (a' := ?_) #[true, true, true, true, true, true, false, false, false, false, false, false, false, false, false, false, false, false, false, false, false, false, false, false, false, false, false, false, false, false, false] rfl rfl (by kernel_rfl) (fun _ _ _ h => h) (Or.inl ⟨by rfl, ?_⟩) ?_ ?_
      rotate_left
      · intro w'
        go_simp
        with_reducible rfl
      rotate_left
      · simp only [Act.put, List.setIfInBounds_toArray, List.set_cons_zero, List.set_cons_succ, i64_w, i32_w]
        rfl
      refine pure_ (i := 6) (N := some 64) (v := ?_) (a' := ?_) #[true, true, true, true, true, true, true, false, false, false, false, false, false, false, false, false, false, false, false, false, false, false, false, false, false, false, false, false, false, false, false] rfl rfl (by kernel_rfl) (fun _ _ _ h => h) (Or.inl ⟨by rfl, ?_⟩) ?_ ?_
      rotate_left
      · intro w'
        go_simp
        with_reducible rfl
      rotate_left
      · simp only [Act.put, List.setIfInBounds_toArray, List.set_cons_zero, List.set_cons_succ, i64_w, i32_w]
        rfl
      refine take_ (i := 7) (N := some 65) (v := ?_) (a' := ?_) #[true, true, true, true, true, true, true, true, false, false, false, false, false, false, false, false, false, false, false, false, false, false, false, false, false, false, false, false, false, false, false] rfl rfl (by kernel_rfl) (fun _ _ _ h => h) (Or.inl ⟨by rfl, ?_⟩) hHeld ?_ ?_
      rotate_left
      · rintro w' s0
        obtain ⟨sa, sb, sc, sd⟩ := s0
        go_simp
        with_reducible rfl
      rotate_left
      · simp only [Act.put, List.setIfInBounds_toArray, List.set_cons_zero, List.set_cons_succ, i64_w, i32_w]
        rfl
      refine pure_ (i := 8) (N := some 66) (v := ?_) (a' := ?_) #[true, true, true, true, true, true, true, true, true, false, false, false, false, false, false, false, false, false, false, false, false, false, false, false, false, false, false, false, false, false, false] rfl rfl (by kernel_rfl) (fun _ _ _ h => h) (Or.inl ⟨by rfl, ?_⟩) ?_ ?_
      rotate_left
      · intro w'
        go_simp
        with_reducible rfl
      rotate_left
      · simp only [Act.put, List.setIfInBounds_toArray, List.set_cons_zero, List.set_cons_succ, i64_w, i32_w]
        rfl
      refine pure_ (i := 9) (N := some 67) (v := ?_) (a' := ?_) #[true, true, true, true, true, true, true, true, true, true, false, false, false, false, false, false, false, false, false, false, false, false, false, false, false, false, false, false, false, false, false] rfl rfl (by kernel_rfl) (fun _ _ _ h => h) (Or.inl ⟨by rfl, ?_⟩) ?_ ?_
      rotate_left
      · intro w'
        go_simp
        with_reducible rfl
      rotate_left
      · simp only [Act.put, List.setIfInBounds_toArray, List.set_cons_zero, List.set_cons_succ, i64_w, i32_w]
        rfl
      refine pure_ (i := 10) (N := some 68) (v := ?_) (a' := ?_) #[true, true, true, true, true, true, true, true, true, true, true, false, false, false, false, false, false, false, false, false, false, false, false, false, false, false, false, false, false, false, false] rfl rfl (by kernel_rfl) (fun _ _ _ h => h) (Or.inl ⟨by rfl, ?_⟩) ?_ ?_
      rotate_left
      · intro w'
        go_simp
        with_reducible rfl
      rotate_left
      · simp only [Act.put, List.setIfInBounds_toArray, List.set_cons_zero, List.set_cons_succ, i64_w, i32_w]
        rfl
      refine take_ (i := 11) (N := some 69) (v := ?_) (a' := ?_) #[true, true, true, true, true, true, true, true, true, true, true, true, false, false, false, false, false, false, false, false, false, false, false, false, false, false, false, false, false, false, false] rfl rfl (by kernel_rfl) (fun _ _ _ h => h) (Or.inl ⟨by rfl, ?_⟩) hHeld ?_ ?_
      rotate_left
      · rintro w' s0
        obtain ⟨sa, sb, sc, sd⟩ := s0
        go_simp
        with_reducible rfl
      rotate_left
      · simp only [Act.put, List.setIfInBounds_toArray, List.set_cons_zero, List.set_cons_succ, i64_w, i32_w]
        rfl
      refine pure_ (i := 12) (N := some 70) (v := ?_) (a' := ?_) #[true, true, true, true, true, true, true, true, true, true, true, true, true, false, false, false, false, false, false, false, false, false, false, false, false, false, false, false, false, false, false] rfl rfl (by kernel_rfl) (fun _ _ _ h => h) (Or.inl ⟨by rfl, ?_⟩) ?_ ?_
      rotate_left
      · intro w'
        go_simp
        with_reducible rfl
      rotate_left
      · simp only [Act.put, List.setIfInBounds_toArray, List.set_cons_zero, List.set_cons_succ, i64_w, i32_w]
        rfl
      refine pure_ (i := 13) (N := some 71) (v := ?_) (a' := ?_) #[true, true, true, true, true, true, true, true, true, true, true, true, true, true, false, false, false, false, false, false, false, false, false, false, false, false, false, false, false, false, false] rfl rfl (by kernel_rfl) (fun _ _ _ h => h) (Or.inl ⟨by rfl, ?_⟩) ?_ ?_
      rotate_left
      · intro w'
        go_simp
        with_reducible rfl
      rotate_left
      · simp only [Act.put, List.setIfInBounds_toArray, List.set_cons_zero, List.set_cons_succ, i64_w, i32_w]
        rfl
      refine pure_ (i := 14) (N := some 72) (v := ?_) (a' := ?_) #[true, true, true, true, true, true, true, true, true, true, true, true, true, true, true, false, false, false, false, false, false, false, false, false, false, false, false, false, false, false, false] rfl rfl (by kernel_rfl) (fun _ _ _ h => h) (Or.inl ⟨by rfl, ?_⟩) ?_ ?_
      rotate_left
      · intro w'
        go_simp
        with_reducible rfl
      rotate_left
      · simp only [Act.put, List.setIfInBounds_toArray, List.set_cons_zero, List.set_cons_succ, i64_w, i32_w]
        rfl
      refine pure_ (i := 15) (N := some 73) (v := ?_) (a' := ?_) #[true, true, true, true, true, true, true, true, true, true, true, true, true, true, true, true, false, false, false, false, false, false, false, false, false, false, false, false, false, false, false] rfl rfl (by kernel_rfl) (fun _ _ _ h => h) (Or.inl ⟨by rfl, ?_⟩) ?_ ?_
      rotate_left
      · intro w'
        go_simp
        with_reducible rfl
      rotate_left
      · simp only [Act.put, List.setIfInBounds_toArray, List.set_cons_zero, List.set_cons_succ, i64_w, i32_w]
        rfl
      refine pure_ (i := 16) (N := some 74) (v := ?_) (a' := ?_) #[true, true, true, true, true, true, true, true, true, true, true, true, true, true, true, true, true, false, false, false, false, false, false, false, false, false, false, false, false, false, false] rfl rfl (by kernel_rfl) (fun _ _ _ h => h) (Or.inl ⟨by rfl, ?_⟩) ?_ ?_
      rotate_left
      · intro w'
        go_simp
        with_reducible rfl
      rotate_left
      · simp only [Act.put, List.setIfInBounds_toArray, List.set_cons_zero, List.set_cons_succ, i64_w, i32_w]
        rfl
      refine pure_ (i := 17) (N := some 75) (v := ?_) (a' := ?_) #[true, true, true, true, true, true, true, true, true, true, true, true, true, true, true, true, true, true, false, false, false, false, false, false, false, false, false, false, false, false, false] rfl rfl (by kernel_rfl) (fun _ _ _ h => h) (Or.inl ⟨by rfl, ?_⟩) ?_ ?_
      rotate_left
      · intro w'
        go_simp
        with_reducible rfl
      rotate_left
      · simp only [Act.put, List.setIfInBounds_toArray, List.set_cons_zero, List.set_cons_succ, i64_w, i32_w]
        rfl
      refine take_ (i := 18) (N := some 76) (v := ?_) (a' := ?_) #[true, true, true, true, true, true, true, true, true, true, true, true, true, true, true, true, true, true, true, false, false, false, false, false, false, false, false, false, false, false, false] rfl rfl (by kernel_rfl) (fun _ _ _ h => h) (Or.inl ⟨by rfl, ?_⟩) hHeld ?_ ?_
      rotate_left
      · rintro w' s0
        obtain ⟨sa, sb, sc, sd⟩ := s0
        go_simp
        with_reducible rfl
      rotate_left
      · simp only [Act.put, List.setIfInBounds_toArray, List.set_cons_zero, List.set_cons_succ, i64_w, i32_w]
        rfl
      refine pure_ (i := 19) (N := some 77) (v := ?_) (a' := ?_) #[true, true, true, true, true, true, true, true, true, true, true, true, true, true, true, true, true, true, true, true, false, false, false, false, false, false, false, false, false, false, false] rfl rfl (by kernel_rfl) (fun _ _ _ h => h) (Or.inl ⟨by rfl, ?_⟩) ?_ ?_
      rotate_left
      · intro w'
        go_simp
        with_reducible rfl
      rotate_left
      · simp only [Act.put, List.setIfInBounds_toArray, List.set_cons_zero, List.set_cons_succ, i64_w, i32_w]
        rfl
      refine pure_ (i := 20) (N := some 78) (v := ?_) (a' := ?_) #[true, true, true, true, true, true, true, true, true, true, true, true, true, true, true, true, true, true, true, true, true, false, false, false, false, false, false, false, false, false, false] rfl rfl (by kernel_rfl) (fun _ _ _ h => h) (Or.inl ⟨by rfl, ?_⟩) ?_ ?_
      rotate_left
      · intro w'
        go_simp
        with_reducible rfl
      rotate_left
      · simp only [Act.put, List.setIfInBounds_toArray, List.set_cons_zero, List.set_cons_succ, i64_w, i32_w]
        rfl
      refine pure_ (i := 21) (N := some 79) (v := ?_) (a' := ?_) #[true, true, true, true, true, true, true, true, true, true, true, true, true, true, true, true, true, true, true, true, true, true, false, false, false, false, false, false, false, false, false] rfl rfl (by kernel_rfl) (fun _ _ _ h => h) (Or.inl ⟨by rfl, ?_⟩) ?_ ?_
      rotate_left
      · intro w'
        go_simp
        with_reducible rfl
      rotate_left
      · simp only [Act.put, List.setIfInBounds_toArray, List.set_cons_zero, List.set_cons_succ, i64_w, i32_w]
        rfl
      refine pure_ (i := 22) (N := some 80) (v := ?_) (a' := ?_) #[true, true, true, true, true, true, true, true, true, true, true, true, true, true, true, true, true, true, true, true, true, true, true, false, false, false, false, false, false, false, false] rfl rfl (by kernel_rfl) (fun _ _ _ h => h) (Or.inl ⟨by rfl, ?_⟩) ?_ ?_
      rotate_left
      · intro w'
        go_simp
        with_reducible rfl
      rotate_left
      · simp only [Act.put, List.setIfInBounds_toArray, List.set_cons_zero, List.set_cons_succ, i64_w, i32_w]
        rfl
      refine pure_ (i := 23) (N := some 81) (v := ?_) (a' := ?_) #[true, true, true, true, true, true, true, true, true, true, true, true, true, true, true, true, true, true, true, true, true, true, true, true, false, false, false, false, false, false, false] rfl rfl (by kernel_rfl) (fun _ _ _ h => h) (Or.inl ⟨by rfl, ?_⟩) ?_ ?_
      rotate_left
      · intro w'
        go_simp
        with_reducible rfl
      rotate_left
      · simp only [Act.put, List.setIfInBounds_toArray, List.set_cons_zero, List.set_cons_succ, i64_w, i32_w]
        rfl
      refine pure_ (i := 24) (N := some 82) (v := ?_) (a' := ?_) #[true, true, true, true, true, true, true, true, true, true, true, true, true, true, true, true, true, true, true, true, true, true, true, true, true, false, false, false, false, false, false] rfl rfl (by kernel_rfl) (fun _ _ _ h => h) (Or.inl ⟨by rfl, ?_⟩) ?_ ?_
      rotate_left
      · intro w'
        go_simp
        with_reducible rfl
      rotate_left
      · simp only [Act.put, List.setIfInBounds_toArray, List.set_cons_zero, List.set_cons_succ, i64_w, i32_w]
        rfl
      refine pure_ (i := 25) (N := some 83) (v := ?_) (a' := ?_) #[true, true, true, true, true, true, true, true, true, true, true, true, true, true, true, true, true, true, true, true, true, true, true, true, true, true, false, false, false, false, false] rfl rfl (by kernel_rfl) (fun _ _ _ h => h) (Or.inl ⟨by rfl, ?_⟩) ?_ ?_
      rotate_left
      · intro w'
        go_simp
        with_reducible rfl
      rotate_left
      · simp only [Act.put, List.setIfInBounds_toArray, List.set_cons_zero, List.set_cons_succ, i64_w, i32_w]
        rfl
      refine pure_ (i := 26) (N := some 84) (v := ?_) (a' := ?_) #[true, true, true, true, true, true, true, true, true, true, true, true, true, true, true, true, true, true, true, true, true, true, true, true, true, true, true, false, false, false, false] rfl rfl (by kernel_rfl) (fun _ _ _ h => h) (Or.inl ⟨by rfl, ?_⟩) ?_ ?_
      rotate_left
      · intro w'
        go_simp
        with_reducible rfl
      rotate_left
      · simp only [Act.put, List.setIfInBounds_toArray, List.set_cons_zero, List.set_cons_succ, i64_w, i32_w]
        rfl
      refine pure_ (i := 27) (N := some 85) (v := ?_) (a' := ?_) #[true, true, true, true, true, true, true, true, true, true, true, true, true, true, true, true, true, true, true, true, true, true, true, true, true, true, true, true, false, false, false] rfl rfl (by kernel_rfl) (fun _ _ _ h => h) (Or.inl ⟨by rfl, ?_⟩) ?_ ?_
      rotate_left
      · intro w'
        go_simp
        with_reducible rfl
      rotate_left
      · simp only [Act.put, List.setIfInBounds_toArray, List.set_cons_zero, List.set_cons_succ, i64_w, i32_w]
        rfl
      refine one_ (i := 28) (N := some 86) #[true, true, true, true, true, true, true, true, true, true, true, true, true, true, true, true, true, true, true, true, true, true, true, true, true, true, true, true, true, false, false] rfl rfl (by kernel_rfl) (by decide) (fun K hK => ?_)
      have hCx : Kd.C (Kd.int .u8) wx pAi pl (partAt b i) := by
        rw [HPL.out.1, HPL.out.2]
        exact H1.out.2.2 i wx hlt (by rw [HM.out.2.2.2.2.2.2.2.2.2]; exact HP.out.rw_ wx (HX.out.1.kp.mono (fun k hk => .inl hk)))
      have hl := laid_calls (w := wx) ni HNB.out.1 HNB.out.2 (part := partAt b i) pAi pci en (by rw [← HPL.out.1]; exact hCx) (partAt_le b i)
      rw [← HPL.out.1] at hl
      refine goes_ Try.func49 (by kernel_rfl) rfl #[.int .u64 ni, .slice pAi pl pci, .bool en] (by rfl) rfl rfl (by (try simp only [List.map_toArray, List.map_cons, List.map_nil]); rfl) ?_
      refine hl.mono ?_
      rintro x w4 ⟨g4, rfl, hg4, hn4, hb4⟩
      refine ⟨_, rfl, ?_⟩
      have H4 := Aside0.mk (And.intro (HX.out.1.below hb4) (And.intro (pw_own_below HX.out.2 hb4) (And.intro hg4 (And.intro hn4 hb4.size))))
      have hss4 : w4.cell? ⟨gl, 0, none⟩ = some (.pointer (some ⟨gd, 0, none⟩)) ∧ w4.cell? ⟨gl, 1, none⟩ = some (.int .i64 fr) ∧ w4.cell? ⟨gl, 5, none⟩ = some (.int .i64 hv) ∧ w4.cell? ⟨gl, 4, none⟩ = some (.int .u64 nx) := ⟨cell_below HSS.out.1 hb4, cell_below HSS.out.2.1 hb4, cell_below HSS.out.2.2.1 hb4, cell_below HSS.out.2.2.2 hb4⟩
      have HS4 := Aside0.mk hss4
      clear hCx hl hg4 hn4 hb4 hss4
      refine hK.out _ _ (HS4.out) (fun hHeld => ?_)
      clear hK K
      refine norm_ (a' := ?_) ?_ ?_
      rotate_left
      · show Act.put _ (some 86) _ = _
        simp only [Act.put, List.setIfInBounds_toArray, List.set_cons_zero, List.set_cons_succ, i64_w, i32_w]
        rfl
      refine one_ (i := 29) (N := some 87) #[true, true, true, true, true, true, true, true, true, true, true, true, true, true, true, true, true, true, true, true, true, true, true, true, true, true, true, true, true, true, false] rfl rfl (by kernel_rfl) (by decide) (fun K hK => ?_)
      obtain ⟨s, hs⟩ : ∃ s, s = blkS nx b i := ⟨_, rfl⟩
      have hsz : s.size = 128 := by rw [hs]; exact blkS_size nx b i
      have hlt4 : ∀ k, FD k → k < g4 := fun k hk => by
        have h1 := (HP.out.fd k hk).2; have h2 := H1.out.1.size; have h3 := HX.out.1.kp.1; have h4 := H4.out.2.2.1; omega
      have hw := write_row (w := w4) (w0 := w0) H4.out.1.bl (fun k hk => (HP.out.fd k hk).1) H4.out.1.dk ai (some ⟨g4, 0, none⟩) 128 128 s hsz.symm (fun W hW => by
        have hn := blk_kept H4.out.2.2.2.1 hW (fun hk => by have := hlt4 g4 hk; omega)
        have e : bytesOf s = laidM ni (partAt b i) en := by rw [hs, blkS_bytes nx HP.out.rb i, HN.out.2.1, HN.out.2.2]
        have h := C_blk hn (by rw [laidM_len _ _ (partAt_le b i)]; omega)
        rw [laidM_len _ _ (partAt_le b i)] at h
        rw [e]
        exact h)
      refine goes_ Try.func17 (by kernel_rfl) rfl #[.pointer (some ⟨gd, 0, none⟩), .int .i64 (wrap64 (a0 + (i : Int))), .slice (some ⟨g4, 0, none⟩) 128 128] (by rfl) rfl rfl (by (try simp only [List.map_toArray, List.map_cons, List.map_nil]); rfl) ?_
      rw [hw1]
      refine hw.mono ?_
      rintro x w5 ⟨rfl, hd5, hb5, hk5⟩
      refine ⟨_, rfl, ?_⟩
      obtain ⟨q, hq5⟩ : ∃ q, q = (Di.write ai s).2 := ⟨_, rfl⟩
      rw [← hq5]
      have hglw : ¬ FD gl := fun hk => by obtain ⟨v, h1, _⟩ := HP.out.lg; exact HP.out.ap gl hk h1
      have H5 := Aside0.mk (And.intro hb5 (And.intro hd5 (And.intro (H4.out.1.lg.kept hk5 (HP.out.ap.symm)) (And.intro (H4.out.1.kp.then_ hk5 (fun k hk => .inl hk)) (And.intro (own_move H4.out.2.1 (fun k hk => hk5.2 k (own_lt H4.out.2.1 k hk) (fun hf => by have h1 := own_base H4.out.2.1 k hk; have h2 := (HP.out.fd k hf).2; omega))) (And.intro hq5 (And.intro hs (And.intro (Go.Proofs.YtnajdnhgoakgaaaW.PrintWords.cell_kept HS4.out.1 hk5 hglw) (And.intro (Go.Proofs.YtnajdnhgoakgaaaW.PrintWords.cell_kept HS4.out.2.1 hk5 hglw) (And.intro (Go.Proofs.YtnajdnhgoakgaaaW.PrintWords.cell_kept HS4.out.2.2.1 hk5 hglw) (Go.Proofs.YtnajdnhgoakgaaaW.PrintWords.cell_kept HS4.out.2.2.2 hk5 hglw)))))))))))
      clear hw hd5 hb5 hk5 hq5 hs hsz hlt4 hglw
      refine hK.out _ _ (⟨H5.out.2.2.2.2.2.2.2.1, H5.out.2.2.2.2.2.2.2.2⟩) (fun hHeld => ?_)
      clear hK K
      refine norm_ (a' := ?_) ?_ ?_
      rotate_left
      · show Act.put _ (some 87) _ = _
        simp only [Act.put, List.setIfInBounds_toArray, List.set_cons_zero, List.set_cons_succ, i64_w, i32_w]
        rfl
      refine pure_ (i := 30) (N := some 8) (v := ?_) (a' := ?_) #[true, true, true, true, true, true, true, true, true, true, true, true, true, true, true, true, true, true, true, true, true, true, true, true, true, true, true, true, true, true, true] rfl rfl (by kernel_rfl) (fun _ _ _ h => h) (Or.inl ⟨by rfl, ?_⟩) ?_ ?_
      rotate_left
      · intro w'
        go_simp
        with_reducible rfl
      rotate_left
      · simp only [Act.put, List.setIfInBounds_toArray, List.set_cons_zero, List.set_cons_succ, i64_w, i32_w]
        rfl
      refine done_ (by kernel_rfl) ?_
      have HI := Aside0.mk (And.intro hI.out.1.st (show np - i = (np - (i + 1)) + 1 by omega))
      by_cases hq0 : q = 0
      · have d8 : (q != 0) = false := bne_eq_false_iff_eq.2 hq0
        have HQ0 := Aside0.mk hq0
        clear hq0 hI HSS HS4 hHeld
        go_wp2
        go_roundg (np - (i + 1))
        case measure => omega
        case rel =>
          refine ⟨i + 1, (Di.write ai s).1, by go_num, by omega, ⟨⟨H5.out.1, H5.out.2.1, H5.out.2.2.1, H5.out.2.2.2.1, ?_⟩, H5.out.2.2.2.2.1⟩⟩
          have hst := HI.out.1
          have ha : L.fr + L.hv + (i : Int) = ai := by rw [HN.out.1, HM.out.2.2.2.2.1, HM.out.2.2.1, HM.out.2.2.2.1]
          have hz : (Di.write (L.fr + L.hv + (i : Int)) (blkS L.next b i)).2 = 0 := by rw [ha, ← HM.out.2.2.2.2.2.2.2.2.1, ← H5.out.2.2.2.2.2.2.1, ← H5.out.2.2.2.2.2.1]; exact HQ0.out
          rw [← HM.out.2.1, HI.out.2, wrs_yes hz, ha, ← HM.out.2.2.2.2.2.2.2.2.1, ← H5.out.2.2.2.2.2.2.1] at hst
          rw [← HM.out.2.1, ← HM.out.2.2.2.2.2.2.2.2.1]
          exact hst
      · have d8 : (q != 0) = true := bne_iff_ne.2 hq0
        have HQ0 := Aside0.mk hq0
        obtain ⟨c7, f7⟩ : w5.cell? ⟨gl, 7, none⟩ = some (.int .i64 0) ∧ w5.frozen? ⟨gl, 7, none⟩ = false := by
          obtain ⟨v, _, _, h3, _⟩ := H5.out.2.2.1
          exact ⟨(blk_cell h3 7).trans (by rw [← HE.out.1]; rfl), blk_frozen h3 7⟩
        clear hq0 hI HSS HS4 hHeld
        go_wp2
        go_ret
        have hst := HI.out.1
        have ha : L.fr + L.hv + (i : Int) = ai := by rw [HN.out.1, HM.out.2.2.2.2.1, HM.out.2.2.1, HM.out.2.2.2.1]
        have hz : ¬ (Di.write (L.fr + L.hv + (i : Int)) (blkS L.next b i)).2 = 0 := by rw [ha, ← HM.out.2.2.2.2.2.2.2.2.1, ← H5.out.2.2.2.2.2.2.1, ← H5.out.2.2.2.2.2.1]; exact HQ0.out
        rw [← HM.out.2.1, HI.out.2, wrs_no hz, ha, ← HM.out.2.2.2.2.2.2.2.2.1, ← H5.out.2.2.2.2.2.2.1] at hst
        have hMM := HM.out.1
        rw [← HM.out.2.1, ← HM.out.2.2.2.2.2.2.2.2.1, ← hst, ← H5.out.2.2.2.2.2.1, if_neg HQ0.out] at hMM
        rw [hMM]
        have hgl : FL gl := by obtain ⟨v, h1, _⟩ := HP.out.lg; exact h1
        have hk := kept_set w5 gl 7 (.int .i64 q)
        have hE2 := (H5.out.2.2.1.setE q).mono (G := Or FL w) (fun k hk => Or.inl hk)
        rw [← HM.out.2.2.2.2.2.2.2.2.1] at hE2
        refine ⟨rfl, H5.out.1.setCell (HP.out.fl gl hgl).1 _, H5.out.2.1.kept hk (fun k hf e => by rw [e] at hf; exact HP.out.ap gl hf hgl), hE2, ?_⟩
        exact (H5.out.2.2.2.1.mono (fun k hk => .inl hk)).then_ hk (fun k e => .inl (.inr (by rw [e]; exact hgl)))
    · have hin : i = np := by omega
      have hst := hI.out.1.st
      rw [hin, ← HM.out.2.1, Nat.sub_self] at hst
      have HF := Aside0.mk (And.intro hI.out.1 (show (Di, (0 : Int)) = wrs (L.fr + L.hv) L.next b 0 np D from hst))
      obtain ⟨c3, f3, c4, c5⟩ : wr.cell? ⟨gl, 3, none⟩ = some (.int .u64 L.first) ∧ wr.frozen? ⟨gl, 3, none⟩ = false ∧ wr.cell? ⟨gl, 4, none⟩ = some (.int .u64 nx) ∧ wr.cell? ⟨gl, 5, none⟩ = some (.int .i64 hv) := by
        obtain ⟨v, _, _, h3, _⟩ := hI.out.1.lg
        exact ⟨(blk_cell h3 3).trans rfl, blk_frozen h3 3, (blk_cell h3 4).trans (by rw [HM.out.2.2.2.2.2.2.2.2.1]; rfl), (blk_cell h3 5).trans (by rw [HM.out.2.2.2.1]; rfl)⟩
      clear hst hI hin
      go_upto_if 100 with (fail)
      go_cut [] (fun wc => Aside0 (AddF w0 w wc base FD FL gd gl Di L.f1))
      case first =>
        by_cases hv0 : hv = 0
        · have d9 : (hv == 0) = true := beq_iff_eq.2 hv0
          have HV := Aside0.mk hv0
          clear hv0
          go_wp2
          go_meet
          case rel =>
            have hgl : FL gl := by obtain ⟨v, h1, _⟩ := HP.out.lg; exact h1
            have hk := kept_set wr gl 3 (.int .u64 nx)
            have h := HF.out.1.lg.setF
            have e : L.f1 = { L with first := L.next } := by unfold LM.f1; rw [if_pos (by rw [← HM.out.2.2.2.1]; exact HV.out)]
            rw [← HM.out.2.2.2.2.2.2.2.2.1] at h
            refine ⟨HF.out.1.bl.setCell (HP.out.fl gl hgl).1 _, HF.out.1.dk.kept hk (fun k hf e => by rw [e] at hf; exact HP.out.ap gl hf hgl), ?_, (HF.out.1.kp.mono (fun k hk => .inl hk)).then_ hk (fun k e => .inl (.inr (by rw [e]; exact hgl)))⟩
            rw [e, ← HM.out.2.2.2.2.2.2.2.2.1]
            exact h
        · have d9 : (hv == 0) = false := beq_eq_false_iff_ne.2 hv0
          have HV := Aside0.mk hv0
          clear hv0
          go_wp2
          go_meet
          case rel =>
            have e : L.f1 = L := by unfold LM.f1; rw [if_neg (by rw [← HM.out.2.2.2.1]; exact HV.out)]
            exact ⟨HF.out.1.bl, HF.out.1.dk, by rw [e]; exact HF.out.1.lg, HF.out.1.kp.mono (fun k hk => .inl hk)⟩
      case rest =>
        have HG := hcut
        clear hcut c3 f3 c4 c5
        obtain ⟨l0, hl0⟩ : ∃ l, l = L.l := ⟨_, rfl⟩
        obtain ⟨vl, hvl, h3, h4⟩ : ∃ vl, FL gl ∧ wc.heap[gl]? = some (.cells (lcells gd L.f1 vl) 91 (0, 0)) ∧ KR.R 35 wc base (fun k => FL k ∧ k ≠ gl) vl l0 := by
          obtain ⟨v, h1, h2, h3, h4, _⟩ := HG.out.lg
          exact ⟨v, h1, h3, by rw [hl0]; exact h4⟩
        obtain ⟨Al, cl, rfl, _, _⟩ := Kd.R_reads h4
        obtain ⟨ml, hml⟩ : ∃ n, n = l0.length := ⟨_, rfl⟩
        rw [← hml] at h3 h4
        have HZ := Aside0.mk (And.intro hvl (And.intro h3 (And.intro h4 (And.intro hl0 hml))))
        clear hvl h3 h4 hl0 hml
        have hap : IntKind.u64.wrap (nx + (np : Int)) = nx + np := wraps_u64 _ (by have := HM.out.2.2.2.2.2.2.1; omega) (by have := HM.out.2.2.2.2.2.2.1; omega)
        have hhn : wrap64 (hv + (np : Int)) = hv + np := by
          have h1 := HM.out.2.2.2.2.2.1; have h2 := HP.out.lg.ok.h0; have h3 := HP.out.lg.ok.f0; have h4 := HM.out.2.2.2.2.1; have h5 := HM.out.2.2.1; have h6 := HM.out.2.2.2.1
          exact IntWalk.wrap64_in _ ⟨by omega, by omega⟩
        go_upto_region 20 with (fail)
        obtain ⟨wx, hwx⟩ : ∃ wx, wx = wc.drew := ⟨_, rfl⟩
        have hbx : Below wc.heap.size wc wx := by rw [hwx]; exact below_drew1 (Below.refl _ _)
        have HX := Aside0.mk (And.intro ((hbx.block _ (blk_lt HZ.out.2.1)).trans HZ.out.2.1) (And.intro (Kd.R_below HZ.out.2.2.1 hbx) (And.intro (below_step HG.out.bl hbx) (And.intro (HG.out.dk.below hbx) (HG.out.kp.below hbx)))))
        have hss : wx.cell? ⟨gl, 6, none⟩ = some (.slice Al ml cl) ∧ wx.cell? ⟨gl, 5, none⟩ = some (.int .i64 hv) ∧ wx.cell? ⟨gl, 4, none⟩ = some (.int .u64 nx) :=
          ⟨(blk_cell HX.out.1 6).trans rfl, (blk_cell HX.out.1 5).trans (by rw [HM.out.2.2.2.1]; rfl), (blk_cell HX.out.1 4).trans (by rw [HM.out.2.2.2.2.2.2.2.2.1]; rfl)⟩
        have HSS := Aside0.mk hss
        clear hbx hss
        refine start_ (n := 35) (S := (fun w' => w'.cell? ⟨gl, 6, none⟩ = some (.slice Al ml cl) ∧ w'.cell? ⟨gl, 5, none⟩ = some (.int .i64 hv) ∧ w'.cell? ⟨gl, 4, none⟩ = some (.int .u64 nx))) (ds := [28, 31, 34]) #[false, false, false, false, false, false, false, false, false, false, false, false, false, false, false, false, false, false, false, false, false, false, false, false, false, false, false, false, false, false, false, false, false, false, false] (by kernel_rfl) rfl (by kernel_rfl) ((by rw [← hwx]; exact HSS.out)) (fun hHeld => ?_)
        rw [← hwx] at hHeld ⊢
        clear hwx
        refine pure_ (i := 0) (N := some 108) (v := ?_) (a' := ?_) #[true, false, false, false, false, false, false, false, false, false, false, false, false, false, false, false, false, false, false, false, false, false, false, false, false, false, false, false, false, false, false, false, false, false, false] rfl rfl (by kernel_rfl) (fun _ _ _ h => h) (Or.inl ⟨by rfl, ?_⟩) ?_ ?_
        rotate_left
        · intro w'
          go_simp
          with_reducible rfl
        rotate_left
        · simp only [Act.put, List.setIfInBounds_toArray, List.set_cons_zero, List.set_cons_succ, i64_w, i32_w]
          rfl
        refine pure_ (i := 1) (N := some 109) (v := ?_) (a' := ?_) #[true, true, false, false, false, false, false, false, false, false, false, false, false, false, false, false, false, false, false, false, false, false, false, false, false, false, false, false, false, false, false, false, false, false, false] rfl rfl (by kernel_rfl) (fun _ _ _ h => h) (Or.inl ⟨by rfl, ?_⟩) ?_ ?_
        rotate_left
        · intro w'
          go_simp
          with_reducible rfl
        rotate_left
        · simp only [Act.put, List.setIfInBounds_toArray, List.set_cons_zero, List.set_cons_succ, i64_w, i32_w]
          rfl
        refine pure_ (i := 2) (N := some 110) (v := ?_) (a' := ?_) #[true, true, true, false, false, false, false, false, false, false, false, false, false, false, false, false, false, false, false, false, false, false, false, false, false, false, false, false, false, false, false, false, false, false, false] rfl rfl (by kernel_rfl) (fun _ _ _ h => h) (Or.inl ⟨by rfl, ?_⟩) ?_ ?_
        rotate_left
        · intro w'
          go_simp
          with_reducible rfl
        rotate_left
        · simp only [Act.put, List.setIfInBounds_toArray, List.set_cons_zero, List.set_cons_succ, i64_w, i32_w]
          rfl
        refine pure_ (i := 3) (N := some 111) (v := ?_) (a' := ?_) #[true, true, true, true, false, false, false, false, false, false, false, false, false, false, false, false, false, false, false, false, false, false, false, false, false, false, false, false, false, false, false, false, false, false, false] rfl rfl (by kernel_rfl) (fun _ _ _ h => h) (Or.inl ⟨by rfl, ?_⟩) ?_ ?_
        rotate_left
        · intro w'
          go_simp
          with_reducible rfl
        rotate_left
        · simp only [Act.put, List.setIfInBounds_toArray, List.set_cons_zero, List.set_cons_succ, i64_w, i32_w]
          rfl
        refine pure_ (i := 4) (N := some 112) (v := ?_) (a' := ?_) #[true, true, true, true, true, false, false, false, false, false, false, false, false, false, false, false, false, false, false, false, false, false, false, false, false, false, false, false, false, false, false, false, false, false, false] rfl rfl (by kernel_rfl) (fun _ _ _ h => h) (Or.inl ⟨by rfl, ?_⟩) ?_ ?_
        rotate_left
        · intro w'
          go_simp
          with_reducible rfl
        rotate_left
        · simp only [Act.put, List.setIfInBounds_toArray, List.set_cons_zero, List.set_cons_succ, i64_w, i32_w]
          rfl
        refine pure_ (i := 5) (N := some 113) (v := ?_) (a' := ?_) #[true, true, true, true, true, true, false, false, false, false, false, false, false, false, false, false, false, false, false, false, false, false, false, false, false, false, false, false, false, false, false, false, false, false, false] rfl rfl (by kernel_rfl) (fun _ _ _ h => h) (Or.inl ⟨by rfl, ?_⟩) ?_ ?_
        rotate_left
        · intro w'
          go_simp
          with_reducible rfl
        rotate_left
        · simp only [Act.put, List.setIfInBounds_toArray, List.set_cons_zero, List.set_cons_succ, i64_w, i32_w]
          rfl
        refine take_ (i := 6) (N := some 114) (v := ?_) (a' := ?_) #[true, true, true, true, true, true, true, false, false, false, false, false, false, false, false, false, false, false, false, false, false, false, false, false, false, false, false, false, false, false, false, false, false, false, false] rfl rfl (by kernel_rfl) (fun _ _ _ h => h) (Or.inl ⟨by rfl, ?_⟩) hHeld ?_ ?_
        rotate_left
        · rintro w' s0
          obtain ⟨sa, sb, sc⟩ := s0
          go_simp
          with_reducible rfl
        rotate_left
        · simp only [Act.put, List.setIfInBounds_toArray, List.set_cons_zero, List.set_cons_succ, i64_w, i32_w]
          rfl
        refine pure_ (i := 7) (N := some 115) (v := ?_) (a' := ?_) #[true, true, true, true, true, true, true, true, false, false, false, false, false, false, false, false, false, false, false, false, false, false, false, false, false, false, false, false, false, false, false, false, false, false, false] rfl rfl (by kernel_rfl) (fun _ _ _ h => h) (Or.inl ⟨by rfl, ?_⟩) ?_ ?_
        rotate_left
        · intro w'
          go_simp
          with_reducible rfl
        rotate_left
        · simp only [Act.put, List.setIfInBounds_toArray, List.set_cons_zero, List.set_cons_succ, i64_w, i32_w]
          rfl
        refine pure_ (i := 11) (N := some 119) (v := ?_) (a' := ?_) #[true, true, true, true, true, true, true, true, false, false, false, true, false, false, false, false, false, false, false, false, false, false, false, false, false, false, false, false, false, false, false, false, false, false, false] rfl rfl (by kernel_rfl) (fun _ _ _ h => h) (Or.inl ⟨by rfl, ?_⟩) ?_ ?_
        rotate_left
        · intro w'
          go_simp
          with_reducible rfl
        rotate_left
        · simp only [Act.put, List.setIfInBounds_toArray, List.set_cons_zero, List.set_cons_succ, i64_w, i32_w]
          rfl
        refine pure_ (i := 12) (N := some 120) (v := ?_) (a' := ?_) #[true, true, true, true, true, true, true, true, false, false, false, true, true, false, false, false, false, false, false, false, false, false, false, false, false, false, false, false, false, false, false, false, false, false, false] rfl rfl (by kernel_rfl) (fun _ _ _ h => h) (Or.inl ⟨by rfl, ?_⟩) ?_ ?_
        rotate_left
        · intro w'
          go_simp
          with_reducible rfl
        rotate_left
        · simp only [Act.put, List.setIfInBounds_toArray, List.set_cons_zero, List.set_cons_succ, i64_w, i32_w]
          rfl
        refine pure_ (i := 13) (N := some 121) (v := ?_) (a' := ?_) #[true, true, true, true, true, true, true, true, false, false, false, true, true, true, false, false, false, false, false, false, false, false, false, false, false, false, false, false, false, false, false, false, false, false, false] rfl rfl (by kernel_rfl) (fun _ _ _ h => h) (Or.inl ⟨by rfl, ?_⟩) ?_ ?_
        rotate_left
        · intro w'
          go_simp
          with_reducible rfl
        rotate_left
        · simp only [Act.put, List.setIfInBounds_toArray, List.set_cons_zero, List.set_cons_succ, i64_w, i32_w]
          rfl
        refine take_ (i := 14) (N := some 122) (v := ?_) (a' := ?_) #[true, true, true, true, true, true, true, true, false, false, false, true, true, true, true, false, false, false, false, false, false, false, false, false, false, false, false, false, false, false, false, false, false, false, false] rfl rfl (by kernel_rfl) (fun _ _ _ h => h) (Or.inl ⟨by rfl, ?_⟩) hHeld ?_ ?_
        rotate_left
        · rintro w' s0
          obtain ⟨sa, sb, sc⟩ := s0
          go_simp
          with_reducible rfl
        rotate_left
        · simp only [Act.put, List.setIfInBounds_toArray, List.set_cons_zero, List.set_cons_succ, i64_w, i32_w]
          rfl
        refine pure_ (i := 15) (N := some 123) (v := ?_) (a' := ?_) #[true, true, true, true, true, true, true, true, false, false, false, true, true, true, true, true, false, false, false, false, false, false, false, false, false, false, false, false, false, false, false, false, false, false, false] rfl rfl (by kernel_rfl) (fun _ _ _ h => h) (Or.inl ⟨by rfl, ?_⟩) ?_ ?_
        rotate_left
        · intro w'
          go_simp
          with_reducible rfl
        rotate_left
        · simp only [Act.put, List.setIfInBounds_toArray, List.set_cons_zero, List.set_cons_succ, i64_w, i32_w]
          rfl
        refine pure_ (i := 16) (N := some 124) (v := ?_) (a' := ?_) #[true, true, true, true, true, true, true, true, false, false, false, true, true, true, true, true, true, false, false, false, false, false, false, false, false, false, false, false, false, false, false, false, false, false, false] rfl rfl (by kernel_rfl) (fun _ _ _ h => h) (Or.inl ⟨by rfl, ?_⟩) ?_ ?_
        rotate_left
        · intro w'
          go_simp
          with_reducible rfl
        rotate_left
        · simp only [Act.put, List.setIfInBounds_toArray, List.set_cons_zero, List.set_cons_succ, i64_w, i32_w]
          rfl
        refine pure_ (i := 17) (N := some 125) (v := ?_) (a' := ?_) #[true, true, true, true, true, true, true, true, false, false, false, true, true, true, true, true, true, true, false, false, false, false, false, false, false, false, false, false, false, false, false, false, false, false, false] rfl rfl (by kernel_rfl) (fun _ _ _ h => h) (Or.inl ⟨by rfl, ?_⟩) ?_ ?_
        rotate_left
        · intro w'
          go_simp
          with_reducible rfl
        rotate_left
        · simp only [Act.put, List.setIfInBounds_toArray, List.set_cons_zero, List.set_cons_succ, i64_w, i32_w]
          rfl
        refine pure_ (i := 18) (N := some 126) (v := ?_) (a' := ?_) #[true, true, true, true, true, true, true, true, false, false, false, true, true, true, true, true, true, true, true, false, false, false, false, false, false, false, false, false, false, false, false, false, false, false, false] rfl rfl (by kernel_rfl) (fun _ _ _ h => h) (Or.inl ⟨by rfl, ?_⟩) ?_ ?_
        rotate_left
        · intro w'
          go_simp
          with_reducible rfl
        rotate_left
        · simp only [Act.put, List.setIfInBounds_toArray, List.set_cons_zero, List.set_cons_succ, i64_w, i32_w]
          rfl
        refine pure_ (i := 19) (N := some 127) (v := ?_) (a' := ?_) #[true, true, true, true, true, true, true, true, false, false, false, true, true, true, true, true, true, true, true, true, false, false, false, false, false, false, false, false, false, false, false, false, false, false, false] rfl rfl (by kernel_rfl) (fun _ _ _ h => h) (Or.inl ⟨by rfl, ?_⟩) ?_ ?_
        rotate_left
        · intro w'
          go_simp
          with_reducible rfl
        rotate_left
        · simp only [Act.put, List.setIfInBounds_toArray, List.set_cons_zero, List.set_cons_succ, i64_w, i32_w]
          rfl
        refine pure_ (i := 20) (N := some 128) (v := ?_) (a' := ?_) #[true, true, true, true, true, true, true, true, false, false, false, true, true, true, true, true, true, true, true, true, true, false, false, false, false, false, false, false, false, false, false, false, false, false, false] rfl rfl (by kernel_rfl) (fun _ _ _ h => h) (Or.inl ⟨by rfl, ?_⟩) ?_ ?_
        rotate_left
        · intro w'
          go_simp
          with_reducible rfl
        rotate_left
        · simp only [Act.put, List.setIfInBounds_toArray, List.set_cons_zero, List.set_cons_succ, i64_w, i32_w]
          rfl
        refine take_ (i := 21) (N := some 129) (v := ?_) (a' := ?_) #[true, true, true, true, true, true, true, true, false, false, false, true, true, true, true, true, true, true, true, true, true, true, false, false, false, false, false, false, false, false, false, false, false, false, false] rfl rfl (by kernel_rfl) (fun _ _ _ h => h) (Or.inl ⟨by rfl, ?_⟩) hHeld ?_ ?_
        rotate_left
        · rintro w' s0
          obtain ⟨sa, sb, sc⟩ := s0
          go_simp
          with_reducible rfl
        rotate_left
        · simp only [Act.put, List.setIfInBounds_toArray, List.set_cons_zero, List.set_cons_succ, i64_w, i32_w]
          rfl
        refine pure_ (i := 22) (N := some 130) (v := ?_) (a' := ?_) #[true, true, true, true, true, true, true, true, false, false, false, true, true, true, true, true, true, true, true, true, true, true, true, false, false, false, false, false, false, false, false, false, false, false, false] rfl rfl (by kernel_rfl) (fun _ _ _ h => h) (Or.inl ⟨by rfl, ?_⟩) ?_ ?_
        rotate_left
        · intro w'
          go_simp
          with_reducible rfl
        rotate_left
        · simp only [Act.put, List.setIfInBounds_toArray, List.set_cons_zero, List.set_cons_succ, i64_w, i32_w]
          rfl
        refine pure_ (i := 23) (N := some 131) (v := ?_) (a' := ?_) #[true, true, true, true, true, true, true, true, false, false, false, true, true, true, true, true, true, true, true, true, true, true, true, true, false, false, false, false, false, false, false, false, false, false, false] rfl rfl (by kernel_rfl) (fun _ _ _ h => h) (Or.inl ⟨by rfl, ?_⟩) ?_ ?_
        rotate_left
        · intro w'
          go_simp
          with_reducible rfl
        rotate_left
        · simp only [Act.put, List.setIfInBounds_toArray, List.set_cons_zero, List.set_cons_succ, i64_w, i32_w]
          rfl
        refine pure_ (i := 24) (N := some 132) (v := ?_) (a' := ?_) #[true, true, true, true, true, true, true, true, false, false, false, true, true, true, true, true, true, true, true, true, true, true, true, true, true, false, false, false, false, false, false, false, false, false, false] rfl rfl (by kernel_rfl) (fun _ _ _ h => h) (Or.inl ⟨by rfl, ?_⟩) ?_ ?_
        rotate_left
        · intro w'
          go_simp
          with_reducible rfl
        rotate_left
        · simp only [Act.put, List.setIfInBounds_toArray, List.set_cons_zero, List.set_cons_succ, i64_w, i32_w]
          rfl
        refine pure_ (i := 25) (N := some 133) (v := ?_) (a' := ?_) #[true, true, true, true, true, true, true, true, false, false, false, true, true, true, true, true, true, true, true, true, true, true, true, true, true, true, false, false, false, false, false, false, false, false, false] rfl rfl (by kernel_rfl) (fun _ _ _ h => h) (Or.inl ⟨by rfl, ?_⟩) ?_ ?_
        rotate_left
        · intro w'
          go_simp
          with_reducible rfl
        rotate_left
        · simp only [Act.put, List.setIfInBounds_toArray, List.set_cons_zero, List.set_cons_succ, i64_w, i32_w]
          rfl
        refine one_ (i := 8) (N := some 116) #[true, true, true, true, true, true, true, true, true, false, false, true, true, true, true, true, true, true, true, true, true, true, true, true, true, true, false, false, false, false, false, false, false, false, false] rfl rfl (by kernel_rfl) (by decide) (fun K hK => ?_)
        have hcl := clone_calls A c b wx (HP.out.rw_ wx HX.out.2.2.2.2) HP.out.rc (by have := HP.out.rl; omega)
        rw [← HM.out.2.2.2.2.2.2.2.2.2] at hcl
        refine goes_ Try.func47 (by kernel_rfl) rfl #[.slice A n c] (by rfl) rfl rfl (by (try simp only [List.map_toArray, List.map_cons, List.map_nil]); rfl) ?_
        refine hcl.mono ?_
        rintro x w6 ⟨v6, rfl, hv6, hb6, _⟩
        refine ⟨_, rfl, ?_⟩
        have H6 := Aside0.mk (And.intro hb6 hv6)
        have hss6 : w6.cell? ⟨gl, 6, none⟩ = some (.slice Al ml cl) ∧ w6.cell? ⟨gl, 5, none⟩ = some (.int .i64 hv) ∧ w6.cell? ⟨gl, 4, none⟩ = some (.int .u64 nx) := ⟨cell_below HSS.out.1 hb6, cell_below HSS.out.2.1 hb6, cell_below HSS.out.2.2 hb6⟩
        have HS6 := Aside0.mk hss6
        obtain ⟨A6, c6, rfl, _, _⟩ := Kd.R_reads hv6
        have hsz : base ≤ wx.heap.size ∧ w.heap.size ≤ wx.heap.size ∧ gl < wx.heap.size := ⟨Nat.le_trans HP.out.bs.2 HX.out.2.2.2.2.1, HX.out.2.2.2.2.1, blk_lt HX.out.1⟩
        have HSZ := Aside0.mk hsz
        have hq6 : w6.heap[gl]? = some (.cells (lcells gd L.f1 (.slice Al ml cl)) 91 (0, 0)) := (hb6.block _ hsz.2.2).trans HX.out.1
        have HQ6 := Aside0.mk hq6
        rw [← HM.out.2.2.2.2.2.2.2.2.2]
        clear hcl hb6 hv6 hss6 hsz hq6
        refine hK.out _ _ (HS6.out) (fun hHeld => ?_)
        clear hK K
        refine norm_ (a' := ?_) ?_ ?_
        rotate_left
        · show Act.put _ (some 116) _ = _
          simp only [Act.put, List.setIfInBounds_toArray, List.set_cons_zero, List.set_cons_succ, i64_w, i32_w]
          rfl
        refine one_ (i := 9) (N := some 117) #[true, true, true, true, true, true, true, true, true, true, false, true, true, true, true, true, true, true, true, true, true, true, true, true, true, true, false, false, false, false, false, false, false, false, false] rfl rfl (by kernel_rfl) (by decide) (fun K hK => ?_)
        refine value_ (v := .slice (some ⟨w6.heap.size, 0, none⟩) 1 1) (w1 := w6.alloc (.cells #[.slice A6 n c6] 35)) (by rfl) rfl ?hr ?_
        case hr => exact exec_buildR (.tmp 116) A6 n c6 rfl rfl
        refine hK.out _ _ (⟨cell_below HS6.out.1 (below_alloc (Below.refl _ _) _), cell_below HS6.out.2.1 (below_alloc (Below.refl _ _) _), cell_below HS6.out.2.2 (below_alloc (Below.refl _ _) _)⟩) (fun hHeld => ?_)
        clear hK K
        refine norm_ (a' := ?_) ?_ ?_
        rotate_left
        · show Act.put _ (some 117) _ = _
          simp only [Act.put, List.setIfInBounds_toArray, List.set_cons_zero, List.set_cons_succ, i64_w, i32_w]
          rfl
        refine one_ (i := 10) (N := some 118) #[true, true, true, true, true, true, true, true, true, true, true, true, true, true, true, true, true, true, true, true, true, true, true, true, true, true, false, false, false, false, false, false, false, false, false] rfl rfl (by kernel_rfl) (by decide) (fun K hK => ?_)
        refine Kd.R_append_step KR (w0 := wx) (W := w6) base (by rfl) (.tmp 114) (.tmp 117) 56 35 (.slice none 0 0) 24 rfl Try.underlying56 info_bytes rfl (by decide) (by decide) (.slice Al ml cl) l0 b [.slice A6 n c6] (fun k => Or FL w k ∧ k ≠ gl) (fun k => wx.heap.size ≤ k) rfl rfl ?aM ?aK ?aF ?aH ?aB ?aS ?aL ?_
        case aM =>
          have h := Kd.R_lower (Kd.R_mono (Kd.R_bound H6.out.2) (fun k hk => hk.2.1)) HSZ.out.1
          rw [← HM.out.2.2.2.2.2.2.2.2.2] at h
          exact ⟨_, rfl, h⟩
        case aK => exact fun k hk => ⟨⟨.inr (Nat.le_trans HSZ.out.2.1 hk), by have := HSZ.out.2.2; omega⟩, fun he => by have := ((Kd.R_bound HX.out.2.1).1 k he.symm).2.2.1; omega⟩
        case aF => exact fun k hk => ⟨.inr (by have h1 := HSZ.out.2.1; have h2 := H6.out.1.size; omega), by have h1 := HSZ.out.2.2; have h2 := H6.out.1.size; omega⟩
        case aH => exact Kd.R_below (Kd.R_mono HX.out.2.1 (fun k hk => ⟨.inl hk.1, hk.2⟩)) H6.out.1
        case aB => exact H6.out.1.mono HSZ.out.1
        case aS => have h1 := HSZ.out.1; have h2 := H6.out.1.size; omega
        case aL => have h1 := HP.out.lg.ok.lh; have h2 := HP.out.lg.ok.h1; have h3 := HP.out.lg.ok.fn; have h4 := HP.out.lg.ok.f0; rw [HZ.out.2.2.2.1]; omega
        intro v9 w9 ho9 hb9 hg9 hat9
        obtain ⟨A9, c9, rfl, _, _⟩ := Kd.R_reads ho9
        have hq9 : w9.heap[gl]? = some (.cells (lcells gd L.f1 (.slice Al ml cl)) 91 (0, 0)) := (hg9.block gl (by have h1 := HSZ.out.2.2; have h2 := H6.out.1.size; omega) (fun e => (HX.out.2.1.1 gl e.symm).2 rfl)).trans HQ6.out
        have hrow : ∀ k, (Value.slice Al ml cl).ownBlock = some k → FL k := fun k e => (HX.out.2.1.1 k e).1
        have hk9 : Kept wx w9 FL := Kept.of_grown hg9 (Kept.of_below H6.out.1 _) (fun k e => .inl (hrow k e))
        have H9 := Aside0.mk (And.intro ho9 (And.intro hb9 (And.intro hq9 hk9)))
        obtain ⟨m9, hm9⟩ : ∃ m, m = (l0 ++ [b]).length := ⟨_, rfl⟩
        rw [← hm9]
        have HM9 := Aside0.mk hm9
        clear ho9 hb9 hg9 hat9 hq9 hrow hk9 hm9
        refine hK.out _ _ (⟨(blk_cell H9.out.2.2.1 6).trans rfl, (blk_cell H9.out.2.2.1 5).trans (by rw [HM.out.2.2.2.1]; rfl), (blk_cell H9.out.2.2.1 4).trans (by rw [HM.out.2.2.2.2.2.2.2.2.1]; rfl)⟩) (fun hHeld => ?_)
        clear hK K
        refine norm_ (a' := ?_) ?_ ?_
        rotate_left
        · show Act.put _ (some 118) _ = _
          simp only [Act.put, List.setIfInBounds_toArray, List.set_cons_zero, List.set_cons_succ, i64_w, i32_w]
          rfl
        refine pure_ (i := 26) (N := some 134) (v := ?_) (a' := ?_) #[true, true, true, true, true, true, true, true, true, true, true, true, true, true, true, true, true, true, true, true, true, true, true, true, true, true, true, false, false, false, false, false, false, false, false] rfl rfl (by kernel_rfl) (fun _ _ _ h => h) (Or.inl ⟨by rfl, ?_⟩) ?_ ?_
        rotate_left
        · intro w'
          go_simp
          with_reducible rfl
        rotate_left
        · simp only [Act.put, List.setIfInBounds_toArray, List.set_cons_zero, List.set_cons_succ, i64_w, i32_w]
          rfl
        refine pure_ (i := 27) (N := some 135) (v := ?_) (a' := ?_) #[true, true, true, true, true, true, true, true, true, true, true, true, true, true, true, true, true, true, true, true, true, true, true, true, true, true, true, true, false, false, false, false, false, false, false] rfl rfl (by kernel_rfl) (fun _ _ _ h => h) (Or.inl ⟨by rfl, ?_⟩) ?_ ?_
        rotate_left
        · intro w'
          go_simp
          with_reducible rfl
        rotate_left
        · simp only [Act.put, List.setIfInBounds_toArray, List.set_cons_zero, List.set_cons_succ, i64_w, i32_w]
          rfl
        refine last_ (i := 28) (N := none) #[true, true, true, true, true, true, true, true, true, true, true, true, true, true, true, true, true, true, true, true, true, true, true, true, true, true, true, true, true, false, false, false, false, false, false] rfl rfl (by kernel_rfl) (by decide) (fun K hK => ?_)
        obtain ⟨wA, hwA⟩ : ∃ wA, wA = w9.setCell ⟨gl, 6, none⟩ (.slice A9 m9 c9) := ⟨_, rfl⟩
        refine skip_ (w1 := wA) (by rfl) rfl ?hr ?_
        case hr => rw [hwA]; exact store_l H9.out.2.2.1 _ _ _ _ ((blk_cell H9.out.2.2.1 6).trans rfl) (.tmp 135) (.tmp 118) rfl rfl rfl
        refine hK.out _ _ ?_
        clear hK K
        have hA := blk_set H9.out.2.2.1 6 (.slice A9 m9 c9)
        rw [← hwA] at hA
        have HA := Aside0.mk (And.intro hA hwA)
        clear hA hwA
        refine pure_ (i := 29) (N := some 136) (v := ?_) (a' := ?_) #[true, true, true, true, true, true, true, true, true, true, true, true, true, true, true, true, true, true, true, true, true, true, true, true, true, true, true, true, true, true, false, false, false, false, false] rfl rfl (by kernel_rfl) (fun _ _ _ h => h) (Or.inl ⟨by rfl, ?_⟩) ?_ ?_
        rotate_left
        · intro w'
          go_simp
          with_reducible rfl
        rotate_left
        · simp only [Act.put, List.setIfInBounds_toArray, List.set_cons_zero, List.set_cons_succ, i64_w, i32_w]
          rfl
        refine pure_ (i := 30) (N := some 137) (v := ?_) (a' := ?_) #[true, true, true, true, true, true, true, true, true, true, true, true, true, true, true, true, true, true, true, true, true, true, true, true, true, true, true, true, true, true, true, false, false, false, false] rfl rfl (by kernel_rfl) (fun _ _ _ h => h) (Or.inl ⟨by rfl, ?_⟩) ?_ ?_
        rotate_left
        · intro w'
          go_simp
          with_reducible rfl
        rotate_left
        · simp only [Act.put, List.setIfInBounds_toArray, List.set_cons_zero, List.set_cons_succ, i64_w, i32_w]
          rfl
        refine last_ (i := 31) (N := none) #[true, true, true, true, true, true, true, true, true, true, true, true, true, true, true, true, true, true, true, true, true, true, true, true, true, true, true, true, true, true, true, true, false, false, false] rfl rfl (by kernel_rfl) (by decide) (fun K hK => ?_)
        obtain ⟨wB, hwB⟩ : ∃ wB, wB = wA.setCell ⟨gl, 5, none⟩ (.int .i64 (hv + np)) := ⟨_, rfl⟩
        refine skip_ (w1 := wB) (by rfl) rfl ?hr ?_
        case hr => rw [hwB]; exact store_hv HA.out.1 _ _ ((blk_cell HA.out.1 5).trans rfl) (.tmp 137) (.tmp 125) rfl rfl (by show Value.int .i64 (wrap64 (hv + np)) = _; rw [hhn])
        refine hK.out _ _ ?_
        clear hK K
        have hB := blk_set HA.out.1 5 (.int .i64 (hv + np))
        rw [← hwB] at hB
        have HB := Aside0.mk (And.intro hB hwB)
        clear hB hwB
        refine pure_ (i := 32) (N := some 138) (v := ?_) (a' := ?_) #[true, true, true, true, true, true, true, true, true, true, true, true, true, true, true, true, true, true, true, true, true, true, true, true, true, true, true, true, true, true, true, true, true, false, false] rfl rfl (by kernel_rfl) (fun _ _ _ h => h) (Or.inl ⟨by rfl, ?_⟩) ?_ ?_
        rotate_left
        · intro w'
          go_simp
          with_reducible rfl
        rotate_left
        · simp only [Act.put, List.setIfInBounds_toArray, List.set_cons_zero, List.set_cons_succ, i64_w, i32_w]
          rfl
        refine pure_ (i := 33) (N := some 139) (v := ?_) (a' := ?_) #[true, true, true, true, true, true, true, true, true, true, true, true, true, true, true, true, true, true, true, true, true, true, true, true, true, true, true, true, true, true, true, true, true, true, false] rfl rfl (by kernel_rfl) (fun _ _ _ h => h) (Or.inl ⟨by rfl, ?_⟩) ?_ ?_
        rotate_left
        · intro w'
          go_simp
          with_reducible rfl
        rotate_left
        · simp only [Act.put, List.setIfInBounds_toArray, List.set_cons_zero, List.set_cons_succ, i64_w, i32_w]
          rfl
        refine last_ (i := 34) (N := none) #[true, true, true, true, true, true, true, true, true, true, true, true, true, true, true, true, true, true, true, true, true, true, true, true, true, true, true, true, true, true, true, true, true, true, true] rfl rfl (by kernel_rfl) (by decide) (fun K hK => ?_)
        obtain ⟨wC, hwC⟩ : ∃ wC, wC = wB.setCell ⟨gl, 4, none⟩ (.int .u64 (nx + np)) := ⟨_, rfl⟩
        refine skip_ (w1 := wC) (by rfl) rfl ?hr ?_
        case hr => rw [hwC]; exact store_next HB.out.1 _ _ ((blk_cell HB.out.1 4).trans rfl) (.tmp 139) (.tmp 133) rfl rfl (by first | rfl | (show Value.int .u64 (IntKind.u64.wrap (nx + np)) = _; rw [hap]))
        refine hK.out _ _ ?_
        clear hK K
        have HC := Aside0.mk hwC
        clear hwC hhn hap hHeld
        refine done_ (by kernel_rfl) ?_
        go_wp2
        go_ret
        have hMM := HM.out.1
        rw [← HM.out.2.1, ← HF.out.2, if_pos rfl] at hMM
        rw [hMM]
        have hgl := HZ.out.1
        have hok := added_ok HP.out.lg.ok (show ¬ L.n - L.hv < npc b by have := HM.out.2.2.2.2.2.2.2.1.1; omega) HM.out.2.2.2.2.2.2.2.1.2 HP.out.rl HP.out.rb
        have hbg : base ≤ gl := by obtain ⟨v, _, h2, _⟩ := HP.out.lg; exact h2
        have hR := H9.out.1
        rw [← HM9.out, HZ.out.2.2.2.1] at hR
        have hpush := LogAt.push (gd := gd) (v := .slice Al ml cl) (v9 := .slice A9 m9 c9) (G := Or FL w) H9.out.2.2.1 hR (.inl hgl) hbg hok
        rw [← HM.out.2.1, ← HM.out.2.2.2.1, ← HM.out.2.2.2.2.2.2.2.2.1, ← HA.out.2, ← HB.out.2, ← HC.out] at hpush
        have hbl : Below w0.heap.size w0 w9 := HX.out.2.2.1.trans (H9.out.2.1.mono HP.out.bs.1)
        have hkp : Kept wx wC FL := by
          rw [HC.out, HB.out.2, HA.out.2]
          exact ((H9.out.2.2.2.setCell (p := ⟨gl, 6, none⟩) (.inl hgl) _).setCell (p := ⟨gl, 5, none⟩) (.inl hgl) _).setCell (p := ⟨gl, 4, none⟩) (.inl hgl) _
        refine ⟨rfl, ?_, HX.out.2.2.2.1.kept hkp HP.out.ap, hpush, HX.out.2.2.2.2.then_ hkp (fun k hk => .inl (.inr hk))⟩
        rw [HC.out, HB.out.2, HA.out.2]
        have h0 := (HP.out.fl gl hgl).1
        exact ((hbl.setCell (p := ⟨gl, 6, none⟩) h0 _).setCell (p := ⟨gl, 5, none⟩) h0 _).setCell (p := ⟨gl, 4, none⟩) h0 _
/-- Add, whatever the log. -/
theorem add_calls (hp : AddPre w0 w base FD FL gd gl D L b A c) :
    Calls Try.prog 30 #[.pointer (some ⟨gl, 0, none⟩), .slice A b.length c] w fun e w' => e = .returned (.int .i64 (addM D L b).2.2) ∧ AddPost w0 w w' base FD FL gd gl (addM D L b).1 (addM D L b).2.1 := by
  by_cases he : L.e = 0
  · by_cases hf : L.n - L.hv < npc b
    · exact add_full hp he hf
    · by_cases h0 : L.next = 0
      · exact add_zero hp he hf h0
      · by_cases h1 : 18446744073709551615 < L.next + npc b
        · exact add_worn hp he hf h0 h1
        · exact add_go hp he hf h0 h1
  · exact add_err hp he
end
end Go.Proofs.Ytnajdnhgoakgaaa.Wal
