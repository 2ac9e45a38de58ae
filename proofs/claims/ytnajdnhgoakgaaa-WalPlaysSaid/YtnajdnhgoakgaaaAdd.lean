/- Add, walked. -/
import Derived.Test.YtnajdnhgoakgaaaAddm
namespace Go.Proofs.Ytnajdnhgoakgaaa.Wal
open Go.RowKit Go.Proofs.YtnajdnhgoakgaaaW.PrintWords Go.Proofs.YtnajdnhgoakgaaaW.PrintLast Go.Proofs.YtnajdnhgoakgaaaW.PrintMore Go.Proofs.Ytnajdnhgoakgaaa.Mem Go.Proofs.Ytnajdnhgoakgaaa.PWal Go.Proofs.Ytnajdnhgoakgaaa.Blk
set_option linter.unusedVariables false
set_option linter.unusedSimpArgs false
set_option maxRecDepth 8000
set_option maxHeartbeats 4000000
theorem own_at {w : World} {base : Nat} {e : TypeId} {A : Option Addr} {n c : Nat} {xs : List Value} (h : w.ownsRow base e 1 (.slice A n c) n xs) (i : Nat) (hi : i < n) : ∃ g, A = some ⟨g, 0, none⟩ ∧ base ≤ g ∧ w.cell? ⟨g, i, none⟩ = xs[i]? := by
  rcases h.2 with ⟨_, h0⟩ | ⟨g, cap, cur, e1, hb, hg, _, _, _, ht⟩
  · omega
  · injection e1 with e1 _ _
    subst e1
    refine ⟨g, rfl, hb, ?_⟩
    rw [blk_cell hg, ← ht, List.getElem?_take, if_pos (by omega), Array.getElem?_toList]
/-- What Add starts from. -/
structure AddPre (w0 w : World) (base : Nat) (FD FL : Nat → Prop) (gd gl : Nat) (D : DM) (L : LM) (b : List Int) (A : Option Addr) (c : Nat) : Prop where
  bl : Below w0.heap.size w0 w
  dk : DiskAt w FD gd D
  lg : LogAt w base FL gl gd L
  fd : ∀ k, FD k → w0.heap.size ≤ k ∧ k < w.heap.size
  fl : ∀ k, FL k → w0.heap.size ≤ k ∧ k < w.heap.size
  ap : Apart FD FL
  bs : w0.heap.size ≤ base ∧ base ≤ w.heap.size
  rw_ : ∀ W, Kept w W (fun k => FD k ∨ FL k) → Kd.C (Kd.int .u8) W A b.length b
  rc : b.length ≤ c
  rl : b.length ≤ 100000000
  rb : Byt b
/-- What it leaves. -/
structure AddPost (w0 w w' : World) (base : Nat) (FD FL : Nat → Prop) (gd gl : Nat) (D : DM) (L : LM) : Prop where
  bl : Below w0.heap.size w0 w'
  dk : DiskAt w' FD gd D
  lg : LogAt w' base (Or FL w) gl gd L
  kp : Kept w w' (fun k => FD k ∨ FL k)
section
variable {w0 w : World} {base : Nat} {FD FL : Nat → Prop} {gd gl : Nat} {D : DM} {L : LM} {b : List Int} {A : Option Addr} {c : Nat}
theorem AddPre.same (h : AddPre w0 w base FD FL gd gl D L b A c) {w' : World} (hb : Below w.heap.size w w') : AddPost w0 w w' base FD FL gd gl D L :=
  ⟨below_step h.bl hb, h.dk.below hb, (h.lg.below hb).mono (fun k hk => .inl hk), Kept.of_below hb _⟩
theorem add_err (hp : AddPre w0 w base FD FL gd gl D L b A c) (he : L.e ≠ 0) :
    Calls Try.prog 30 #[.pointer (some ⟨gl, 0, none⟩), .slice A b.length c] w fun e w' => e = .returned (.int .i64 (addM D L b).2.2) ∧ AddPost w0 w w' base FD FL gd gl (addM D L b).1 (addM D L b).2.1 := by
  have hM : addM D L b = (D, L, L.e) := if_pos he
  have HP := Aside0.mk hp
  have HQ := Aside0.mk (parts_any b A c (hp.rw_ w (Kept.refl _ _)) hp.rc (by have := hp.rl; omega))
  rw [hM]
  obtain ⟨e0, he0⟩ : ∃ e, e = L.e := ⟨_, rfl⟩
  have hb : (e0 != 0) = true := bne_iff_ne.2 (by rw [he0]; exact he)
  have HE := Aside0.mk he0
  rw [← he0]
  obtain ⟨n, hn⟩ : ∃ n, n = b.length := ⟨_, rfl⟩
  rw [← hn] at HQ ⊢
  clear hp he hM he0 hn
  go_enter Try.func30, Try.ntmps30
  go_wp2_with (go_at_call 48; go_loud (refine HQ.out.mono ?_; rintro e w1 ⟨Ap, cp, pA, pc, rfl, _, _, h2⟩; obtain ⟨v, _, _, h3, _⟩ := HP.out.lg; have c7 : w1.cell? ⟨gl, 7, none⟩ = some (.int .i64 e0) := (blk_cell ((h2.block _ (blk_lt h3)).trans h3) 7).trans (by rw [HE.out]; rfl); have H1 := Aside0.mk h2; clear h2 h3))
  go_ret
  exact ⟨rfl, HP.out.same H1.out⟩
theorem add_full (hp : AddPre w0 w base FD FL gd gl D L b A c) (he : L.e = 0) (hf : L.n - L.hv < npc b) :
    Calls Try.prog 30 #[.pointer (some ⟨gl, 0, none⟩), .slice A b.length c] w fun e w' => e = .returned (.int .i64 (addM D L b).2.2) ∧ AddPost w0 w w' base FD FL gd gl (addM D L b).1 (addM D L b).2.1 := by
  have hM : addM D L b = (D, L, 31) := by unfold addM; rw [if_neg (by simp [he]), if_pos hf]
  have HP := Aside0.mk hp
  have HQ := Aside0.mk (parts_any b A c (hp.rw_ w (Kept.refl _ _)) hp.rc (by have := hp.rl; omega))
  rw [hM]
  obtain ⟨n, hn⟩ : ∃ n, n = b.length := ⟨_, rfl⟩
  obtain ⟨np, hnp⟩ : ∃ n, n = npc b := ⟨_, rfl⟩
  obtain ⟨fre, hfre⟩ : ∃ n, n = L.n - L.hv := ⟨_, rfl⟩
  have d1 : decide ((np : Int) > fre) = true := decide_eq_true (by rw [hnp, hfre]; exact hf)
  have HE := Aside0.mk (And.intro he hfre)
  rw [← hn, ← hnp] at HQ
  rw [← hn]
  clear hp he hM hn hf hnp hfre
  go_enter Try.func30, Try.ntmps30
  go_wp2_with (first
    | (go_at_call 48; go_loud (refine HQ.out.mono ?_; rintro e w1 ⟨Ap, cp, pA, pc, rfl, _, _, h2⟩; obtain ⟨v, _, _, h3, _⟩ := HP.out.lg; have c7 : w1.cell? ⟨gl, 7, none⟩ = some (.int .i64 0) := (blk_cell ((h2.block _ (blk_lt h3)).trans h3) 7).trans (by rw [← HE.out.1]; rfl); have H1 := Aside0.mk h2; clear h2 h3))
    | (go_at_call 34; go_loud (refine (free_calls (HP.out.lg.below H1.out)).mono ?_; rintro e w2 ⟨rfl, h2⟩; rw [← HE.out.2]; have H2 := Aside0.mk (below_step H1.out h2); clear h2)))
  go_ret
  exact ⟨rfl, HP.out.same H2.out⟩
theorem add_zero (hp : AddPre w0 w base FD FL gd gl D L b A c) (he : L.e = 0) (hf : ¬ L.n - L.hv < npc b) (h0 : L.next = 0) :
    Calls Try.prog 30 #[.pointer (some ⟨gl, 0, none⟩), .slice A b.length c] w fun e w' => e = .returned (.int .i64 (addM D L b).2.2) ∧ AddPost w0 w w' base FD FL gd gl (addM D L b).1 (addM D L b).2.1 := by
  have hM : addM D L b = (D, L, 38) := by unfold addM; rw [if_neg (by simp [he]), if_neg hf, if_pos (.inl h0)]
  have HP := Aside0.mk hp
  have HQ := Aside0.mk (parts_any b A c (hp.rw_ w (Kept.refl _ _)) hp.rc (by have := hp.rl; omega))
  have hLok := hp.lg.ok
  obtain ⟨n, hn⟩ : ∃ n, n = b.length := ⟨_, rfl⟩
  obtain ⟨np, hnp⟩ : ∃ n, n = npc b := ⟨_, rfl⟩
  obtain ⟨fre, hfre⟩ : ∃ n, n = L.n - L.hv := ⟨_, rfl⟩
  obtain ⟨nx, hnx⟩ : ∃ n, n = L.next := ⟨_, rfl⟩
  have hnp0 : (np : Int) ≤ 65536 ∧ 1 ≤ np := by
    have h1 := npc_pos b; have a1 := hLok.f0; have a2 := hLok.fn; have a3 := hLok.h0; omega
  have d1 : decide ((np : Int) > fre) = false := decide_eq_false (by rw [hnp, hfre]; exact hf)
  have HE := Aside0.mk (And.intro he (And.intro hfre hnx))
  have hwc : IntKind.u64.wrap (np : Int) = np := wraps_u64 _ (by omega) (by omega)
  have d2 : (nx == 0) = true := beq_iff_eq.2 (by rw [hnx]; exact h0)
  rw [hM]
  rw [← hn, ← hnp] at HQ
  rw [← hn]
  clear hp he hM hn hf hnp hfre hnx hLok h0
  go_enter Try.func30, Try.ntmps30
  go_upto_region 8 with (first
    | (go_at_call 48; go_loud (refine HQ.out.mono ?_; rintro e w1 ⟨Ap, cp, pA, pc, rfl, h0, h1, h2⟩; obtain ⟨v, _, _, h3, _⟩ := HP.out.lg; have c7 : w1.cell? ⟨gl, 7, none⟩ = some (.int .i64 0) := (blk_cell ((h2.block _ (blk_lt h3)).trans h3) 7).trans (by rw [← HE.out.1]; rfl); have H1 := Aside0.mk (And.intro h2 (And.intro h0 h1)); clear h0 h1 h2 h3))
    | (go_at_call 34; go_loud (refine (free_calls (HP.out.lg.below H1.out.1)).mono ?_; rintro e w2 ⟨rfl, h2⟩; rw [← HE.out.2.1]; have H2 := Aside0.mk (And.intro (below_step H1.out.1 h2) (pw_own_below H1.out.2.1 h2)); clear h2 c7)))
  obtain ⟨wd, hwd⟩ : ∃ wd, wd = w2.drew := ⟨_, rfl⟩
  have hbd : Below w2.heap.size w2 wd := by rw [hwd]; exact below_drew1 (Below.refl _ _)
  have HD := Aside0.mk (And.intro (below_step H2.out.1 hbd) (pw_own_below H2.out.2 hbd))
  have s4 : wd.cell? ⟨gl, 4, none⟩ = some (.int .u64 nx) := by
    obtain ⟨v, _, _, h3, _⟩ := (HP.out.lg.below HD.out.1)
    exact (blk_cell h3 4).trans (by rw [HE.out.2.2]; rfl)
  clear hbd H2
  refine start_ (n := 21) (S := (fun w' => w'.cell? ⟨gl, 4, none⟩ = some (.int .u64 nx))) (ds := []) #[false, false, false, false, false, false, false, false, false, false, false, false, false, false, false, false, false, false, false, false, false] (by kernel_rfl) rfl (by kernel_rfl) ((by rw [← hwd]; exact s4)) (fun hHeld => ?_)
  rw [← hwd] at hHeld ⊢
  clear hwd s4
  refine pure_ (i := 0) (N := some 31) (v := ?_) (a' := ?_) #[true, false, false, false, false, false, false, false, false, false, false, false, false, false, false, false, false, false, false, false, false] rfl rfl (by kernel_rfl) (fun _ _ _ h => h) (Or.inl ⟨by rfl, ?_⟩) ?_ ?_
  rotate_left
  · intro w'
    go_simp
    with_reducible rfl
  rotate_left
  · simp only [Act.put, List.setIfInBounds_toArray, List.set_cons_zero, List.set_cons_succ, i64_w, i32_w]
    rfl
  refine pure_ (i := 1) (N := some 32) (v := ?_) (a' := ?_) #[true, true, false, false, false, false, false, false, false, false, false, false, false, false, false, false, false, false, false, false, false] rfl rfl (by kernel_rfl) (fun _ _ _ h => h) (Or.inl ⟨by rfl, ?_⟩) ?_ ?_
  rotate_left
  · intro w'
    go_simp
    with_reducible rfl
  rotate_left
  · simp only [Act.put, List.setIfInBounds_toArray, List.set_cons_zero, List.set_cons_succ, i64_w, i32_w]
    rfl
  refine pure_ (i := 2) (N := some 33) (v := ?_) (a' := ?_) #[true, true, true, false, false, false, false, false, false, false, false, false, false, false, false, false, false, false, false, false, false] rfl rfl (by kernel_rfl) (fun _ _ _ h => h) (Or.inl ⟨by rfl, ?_⟩) ?_ ?_
  rotate_left
  · intro w'
    go_simp
    with_reducible rfl
  rotate_left
  · simp only [Act.put, List.setIfInBounds_toArray, List.set_cons_zero, List.set_cons_succ, i64_w, i32_w]
    rfl
  refine take_ (i := 3) (N := some 34) (v := ?_) (a' := ?_) #[true, true, true, true, false, false, false, false, false, false, false, false, false, false, false, false, false, false, false, false, false] rfl rfl (by kernel_rfl) (fun _ _ _ h => h) (Or.inl ⟨by rfl, ?_⟩) hHeld ?_ ?_
  rotate_left
  · rintro w' s0
    go_simp
    with_reducible rfl
  rotate_left
  · simp only [Act.put, List.setIfInBounds_toArray, List.set_cons_zero, List.set_cons_succ, i64_w, i32_w]
    rfl
  refine pure_ (i := 4) (N := some 35) (v := ?_) (a' := ?_) #[true, true, true, true, true, false, false, false, false, false, false, false, false, false, false, false, false, false, false, false, false] rfl rfl (by kernel_rfl) (fun _ _ _ h => h) (Or.inl ⟨by rfl, ?_⟩) ?_ ?_
  rotate_left
  · intro w'
    go_simp
    with_reducible rfl
  rotate_left
  · simp only [Act.put, List.setIfInBounds_toArray, List.set_cons_zero, List.set_cons_succ, i64_w, i32_w]
    rfl
  refine pure_ (i := 5) (N := some 36) (v := ?_) (a' := ?_) #[true, true, true, true, true, true, false, false, false, false, false, false, false, false, false, false, false, false, false, false, false] rfl rfl (by kernel_rfl) (fun _ _ _ h => h) (Or.inl ⟨by rfl, ?_⟩) ?_ ?_
  rotate_left
  · intro w'
    go_simp
    with_reducible rfl
  rotate_left
  · simp only [Act.put, List.setIfInBounds_toArray, List.set_cons_zero, List.set_cons_succ, i64_w, i32_w]
    rfl
  refine pure_ (i := 6) (N := some 37) (v := undef) (a' := ?_) #[true, true, true, true, true, true, true, false, false, false, false, false, false, false, false, false, false, false, false, false, false] rfl rfl (by kernel_rfl) (fun _ _ _ h => h) (Or.inr ⟨by rfl, rfl⟩) ?_ ?_
  rotate_left
  · simp only [Act.put, List.setIfInBounds_toArray, List.set_cons_zero, List.set_cons_succ, i64_w, i32_w]
    rfl
  refine pure_ (i := 7) (N := some 38) (v := undef) (a' := ?_) #[true, true, true, true, true, true, true, true, false, false, false, false, false, false, false, false, false, false, false, false, false] rfl rfl (by kernel_rfl) (fun _ _ _ h => h) (Or.inr ⟨by rfl, rfl⟩) ?_ ?_
  rotate_left
  · simp only [Act.put, List.setIfInBounds_toArray, List.set_cons_zero, List.set_cons_succ, i64_w, i32_w]
    rfl
  refine pure_ (i := 8) (N := some 39) (v := undef) (a' := ?_) #[true, true, true, true, true, true, true, true, true, false, false, false, false, false, false, false, false, false, false, false, false] rfl rfl (by kernel_rfl) (fun _ _ _ h => h) (Or.inr ⟨by rfl, rfl⟩) ?_ ?_
  rotate_left
  · simp only [Act.put, List.setIfInBounds_toArray, List.set_cons_zero, List.set_cons_succ, i64_w, i32_w]
    rfl
  refine pure_ (i := 9) (N := some 40) (v := undef) (a' := ?_) #[true, true, true, true, true, true, true, true, true, true, false, false, false, false, false, false, false, false, false, false, false] rfl rfl (by kernel_rfl) (fun _ _ _ h => h) (Or.inr ⟨by rfl, rfl⟩) ?_ ?_
  rotate_left
  · simp only [Act.put, List.setIfInBounds_toArray, List.set_cons_zero, List.set_cons_succ, i64_w, i32_w]
    rfl
  refine pure_ (i := 10) (N := some 41) (v := undef) (a' := ?_) #[true, true, true, true, true, true, true, true, true, true, true, false, false, false, false, false, false, false, false, false, false] rfl rfl (by kernel_rfl) (fun _ _ _ h => h) (Or.inr ⟨by rfl, rfl⟩) ?_ ?_
  rotate_left
  · simp only [Act.put, List.setIfInBounds_toArray, List.set_cons_zero, List.set_cons_succ, i64_w, i32_w]
    rfl
  refine pure_ (i := 11) (N := some 42) (v := undef) (a' := ?_) #[true, true, true, true, true, true, true, true, true, true, true, true, false, false, false, false, false, false, false, false, false] rfl rfl (by kernel_rfl) (fun _ _ _ h => h) (Or.inr ⟨by rfl, rfl⟩) ?_ ?_
  rotate_left
  · simp only [Act.put, List.setIfInBounds_toArray, List.set_cons_zero, List.set_cons_succ, i64_w, i32_w]
    rfl
  refine pure_ (i := 12) (N := some 43) (v := undef) (a' := ?_) #[true, true, true, true, true, true, true, true, true, true, true, true, true, false, false, false, false, false, false, false, false] rfl rfl (by kernel_rfl) (fun _ _ _ h => h) (Or.inr ⟨by rfl, rfl⟩) ?_ ?_
  rotate_left
  · simp only [Act.put, List.setIfInBounds_toArray, List.set_cons_zero, List.set_cons_succ, i64_w, i32_w]
    rfl
  refine pure_ (i := 13) (N := some 44) (v := undef) (a' := ?_) #[true, true, true, true, true, true, true, true, true, true, true, true, true, true, false, false, false, false, false, false, false] rfl rfl (by kernel_rfl) (fun _ _ _ h => h) (Or.inr ⟨by rfl, rfl⟩) ?_ ?_
  rotate_left
  · simp only [Act.put, List.setIfInBounds_toArray, List.set_cons_zero, List.set_cons_succ, i64_w, i32_w]
    rfl
  refine pure_ (i := 14) (N := some 45) (v := undef) (a' := ?_) #[true, true, true, true, true, true, true, true, true, true, true, true, true, true, true, false, false, false, false, false, false] rfl rfl (by kernel_rfl) (fun _ _ _ h => h) (Or.inr ⟨by rfl, rfl⟩) ?_ ?_
  rotate_left
  · simp only [Act.put, List.setIfInBounds_toArray, List.set_cons_zero, List.set_cons_succ, i64_w, i32_w]
    rfl
  refine pure_ (i := 15) (N := some 46) (v := undef) (a' := ?_) #[true, true, true, true, true, true, true, true, true, true, true, true, true, true, true, true, false, false, false, false, false] rfl rfl (by kernel_rfl) (fun _ _ _ h => h) (Or.inr ⟨by rfl, rfl⟩) ?_ ?_
  rotate_left
  · simp only [Act.put, List.setIfInBounds_toArray, List.set_cons_zero, List.set_cons_succ, i64_w, i32_w]
    rfl
  refine pure_ (i := 16) (N := some 47) (v := undef) (a' := ?_) #[true, true, true, true, true, true, true, true, true, true, true, true, true, true, true, true, true, false, false, false, false] rfl rfl (by kernel_rfl) (fun _ _ _ h => h) (Or.inr ⟨by rfl, rfl⟩) ?_ ?_
  rotate_left
  · simp only [Act.put, List.setIfInBounds_toArray, List.set_cons_zero, List.set_cons_succ, i64_w, i32_w]
    rfl
  refine pure_ (i := 17) (N := some 48) (v := undef) (a' := ?_) #[true, true, true, true, true, true, true, true, true, true, true, true, true, true, true, true, true, true, false, false, false] rfl rfl (by kernel_rfl) (fun _ _ _ h => h) (Or.inr ⟨by rfl, rfl⟩) ?_ ?_
  rotate_left
  · simp only [Act.put, List.setIfInBounds_toArray, List.set_cons_zero, List.set_cons_succ, i64_w, i32_w]
    rfl
  refine pure_ (i := 18) (N := some 49) (v := undef) (a' := ?_) #[true, true, true, true, true, true, true, true, true, true, true, true, true, true, true, true, true, true, true, false, false] rfl rfl (by kernel_rfl) (fun _ _ _ h => h) (Or.inr ⟨by rfl, rfl⟩) ?_ ?_
  rotate_left
  · simp only [Act.put, List.setIfInBounds_toArray, List.set_cons_zero, List.set_cons_succ, i64_w, i32_w]
    rfl
  refine pure_ (i := 19) (N := some 50) (v := ?_) (a' := ?_) #[true, true, true, true, true, true, true, true, true, true, true, true, true, true, true, true, true, true, true, true, false] rfl rfl (by kernel_rfl) (fun _ _ _ h => h) (Or.inl ⟨by rfl, ?_⟩) ?_ ?_
  rotate_left
  · intro w'
    go_simp
    with_reducible rfl
  rotate_left
  · simp only [Act.put, List.setIfInBounds_toArray, List.set_cons_zero, List.set_cons_succ, i64_w, i32_w]
    rfl
  refine pure_ (i := 20) (N := some 30) (v := ?_) (a' := ?_) #[true, true, true, true, true, true, true, true, true, true, true, true, true, true, true, true, true, true, true, true, true] rfl rfl (by kernel_rfl) (fun _ _ _ h => h) (Or.inl ⟨by rfl, ?_⟩) ?_ ?_
  rotate_left
  · intro w'
    go_simp
    with_reducible rfl
  rotate_left
  · simp only [Act.put, List.setIfInBounds_toArray, List.set_cons_zero, List.set_cons_succ, i64_w, i32_w]
    rfl
  refine done_ (by kernel_rfl) ?_
  go_wp2
  go_ret
  exact ⟨rfl, HP.out.same HD.out.1⟩
theorem add_worn (hp : AddPre w0 w base FD FL gd gl D L b A c) (he : L.e = 0) (hf : ¬ L.n - L.hv < npc b) (h0 : ¬ L.next = 0) (h1 : 18446744073709551615 < L.next + npc b) :
    Calls Try.prog 30 #[.pointer (some ⟨gl, 0, none⟩), .slice A b.length c] w fun e w' => e = .returned (.int .i64 (addM D L b).2.2) ∧ AddPost w0 w w' base FD FL gd gl (addM D L b).1 (addM D L b).2.1 := by
  have hM : addM D L b = (D, L, 38) := by unfold addM; rw [if_neg (by simp [he]), if_neg hf, if_pos (.inr h1)]
  have HP := Aside0.mk hp
  have HQ := Aside0.mk (parts_any b A c (hp.rw_ w (Kept.refl _ _)) hp.rc (by have := hp.rl; omega))
  have hLok := hp.lg.ok
  obtain ⟨n, hn⟩ : ∃ n, n = b.length := ⟨_, rfl⟩
  obtain ⟨np, hnp⟩ : ∃ n, n = npc b := ⟨_, rfl⟩
  obtain ⟨fre, hfre⟩ : ∃ n, n = L.n - L.hv := ⟨_, rfl⟩
  obtain ⟨nx, hnx⟩ : ∃ n, n = L.next := ⟨_, rfl⟩
  have hnp0 : (np : Int) ≤ 65536 ∧ 1 ≤ np := by
    have h1 := npc_pos b; have a1 := hLok.f0; have a2 := hLok.fn; have a3 := hLok.h0; omega
  have d1 : decide ((np : Int) > fre) = false := decide_eq_false (by rw [hnp, hfre]; exact hf)
  have HE := Aside0.mk (And.intro he (And.intro hfre hnx))
  have hwc : IntKind.u64.wrap (np : Int) = np := wraps_u64 _ (by omega) (by omega)
  have d2 : (nx == 0) = false := beq_eq_false_iff_ne.2 (by rw [hnx]; exact h0)
  have d3 : decide (IntKind.u64.wrap (nx + (np : Int)) < nx) = true := decide_eq_true (by
    have e : ∀ x, IntKind.u64.wrap x = x % 18446744073709551616 := fun x => by simp [IntKind.wrap, IntKind.bits, IntKind.signed]
    have a1 := hLok.x1; have a2 := hLok.x0
    rw [e]
    omega)
  rw [hM]
  rw [← hn, ← hnp] at HQ
  rw [← hn]
  clear hp he hM hn hf hnp hfre hnx hLok h0 h1
  go_enter Try.func30, Try.ntmps30
  go_upto_region 8 with (first
    | (go_at_call 48; go_loud (refine HQ.out.mono ?_; rintro e w1 ⟨Ap, cp, pA, pc, rfl, h0, h1, h2⟩; obtain ⟨v, _, _, h3, _⟩ := HP.out.lg; have c7 : w1.cell? ⟨gl, 7, none⟩ = some (.int .i64 0) := (blk_cell ((h2.block _ (blk_lt h3)).trans h3) 7).trans (by rw [← HE.out.1]; rfl); have H1 := Aside0.mk (And.intro h2 (And.intro h0 h1)); clear h0 h1 h2 h3))
    | (go_at_call 34; go_loud (refine (free_calls (HP.out.lg.below H1.out.1)).mono ?_; rintro e w2 ⟨rfl, h2⟩; rw [← HE.out.2.1]; have H2 := Aside0.mk (And.intro (below_step H1.out.1 h2) (pw_own_below H1.out.2.1 h2)); clear h2 c7)))
  obtain ⟨wd, hwd⟩ : ∃ wd, wd = w2.drew := ⟨_, rfl⟩
  have hbd : Below w2.heap.size w2 wd := by rw [hwd]; exact below_drew1 (Below.refl _ _)
  have HD := Aside0.mk (And.intro (below_step H2.out.1 hbd) (pw_own_below H2.out.2 hbd))
  have s4 : wd.cell? ⟨gl, 4, none⟩ = some (.int .u64 nx) := by
    obtain ⟨v, _, _, h3, _⟩ := (HP.out.lg.below HD.out.1)
    exact (blk_cell h3 4).trans (by rw [HE.out.2.2]; rfl)
  clear hbd H2
  refine start_ (n := 21) (S := (fun w' => w'.cell? ⟨gl, 4, none⟩ = some (.int .u64 nx))) (ds := []) #[false, false, false, false, false, false, false, false, false, false, false, false, false, false, false, false, false, false, false, false, false] (by kernel_rfl) rfl (by kernel_rfl) ((by rw [← hwd]; exact s4)) (fun hHeld => ?_)
  rw [← hwd] at hHeld ⊢
  clear hwd s4
  refine pure_ (i := 0) (N := some 31) (v := ?_) (a' := ?_) #[true, false, false, false, false, false, false, false, false, false, false, false, false, false, false, false, false, false, false, false, false] rfl rfl (by kernel_rfl) (fun _ _ _ h => h) (Or.inl ⟨by rfl, ?_⟩) ?_ ?_
  rotate_left
  · intro w'
    go_simp
    with_reducible rfl
  rotate_left
  · simp only [Act.put, List.setIfInBounds_toArray, List.set_cons_zero, List.set_cons_succ, i64_w, i32_w]
    rfl
  refine pure_ (i := 1) (N := some 32) (v := ?_) (a' := ?_) #[true, true, false, false, false, false, false, false, false, false, false, false, false, false, false, false, false, false, false, false, false] rfl rfl (by kernel_rfl) (fun _ _ _ h => h) (Or.inl ⟨by rfl, ?_⟩) ?_ ?_
  rotate_left
  · intro w'
    go_simp
    with_reducible rfl
  rotate_left
  · simp only [Act.put, List.setIfInBounds_toArray, List.set_cons_zero, List.set_cons_succ, i64_w, i32_w]
    rfl
  refine pure_ (i := 2) (N := some 33) (v := ?_) (a' := ?_) #[true, true, true, false, false, false, false, false, false, false, false, false, false, false, false, false, false, false, false, false, false] rfl rfl (by kernel_rfl) (fun _ _ _ h => h) (Or.inl ⟨by rfl, ?_⟩) ?_ ?_
  rotate_left
  · intro w'
    go_simp
    with_reducible rfl
  rotate_left
  · simp only [Act.put, List.setIfInBounds_toArray, List.set_cons_zero, List.set_cons_succ, i64_w, i32_w]
    rfl
  refine take_ (i := 3) (N := some 34) (v := ?_) (a' := ?_) #[true, true, true, true, false, false, false, false, false, false, false, false, false, false, false, false, false, false, false, false, false] rfl rfl (by kernel_rfl) (fun _ _ _ h => h) (Or.inl ⟨by rfl, ?_⟩) hHeld ?_ ?_
  rotate_left
  · rintro w' s0
    go_simp
    with_reducible rfl
  rotate_left
  · simp only [Act.put, List.setIfInBounds_toArray, List.set_cons_zero, List.set_cons_succ, i64_w, i32_w]
    rfl
  refine pure_ (i := 4) (N := some 35) (v := ?_) (a' := ?_) #[true, true, true, true, true, false, false, false, false, false, false, false, false, false, false, false, false, false, false, false, false] rfl rfl (by kernel_rfl) (fun _ _ _ h => h) (Or.inl ⟨by rfl, ?_⟩) ?_ ?_
  rotate_left
  · intro w'
    go_simp
    with_reducible rfl
  rotate_left
  · simp only [Act.put, List.setIfInBounds_toArray, List.set_cons_zero, List.set_cons_succ, i64_w, i32_w]
    rfl
  refine pure_ (i := 5) (N := some 36) (v := ?_) (a' := ?_) #[true, true, true, true, true, true, false, false, false, false, false, false, false, false, false, false, false, false, false, false, false] rfl rfl (by kernel_rfl) (fun _ _ _ h => h) (Or.inl ⟨by rfl, ?_⟩) ?_ ?_
  rotate_left
  · intro w'
    go_simp
    with_reducible rfl
  rotate_left
  · simp only [Act.put, List.setIfInBounds_toArray, List.set_cons_zero, List.set_cons_succ, i64_w, i32_w]
    rfl
  refine pure_ (i := 6) (N := some 37) (v := ?_) (a' := ?_) #[true, true, true, true, true, true, true, false, false, false, false, false, false, false, false, false, false, false, false, false, false] rfl rfl (by kernel_rfl) (fun _ _ _ h => h) (Or.inl ⟨by rfl, ?_⟩) ?_ ?_
  rotate_left
  · intro w'
    go_simp
    with_reducible rfl
  rotate_left
  · simp only [Act.put, List.setIfInBounds_toArray, List.set_cons_zero, List.set_cons_succ, i64_w, i32_w]
    rfl
  refine pure_ (i := 7) (N := some 38) (v := ?_) (a' := ?_) #[true, true, true, true, true, true, true, true, false, false, false, false, false, false, false, false, false, false, false, false, false] rfl rfl (by kernel_rfl) (fun _ _ _ h => h) (Or.inl ⟨by rfl, ?_⟩) ?_ ?_
  rotate_left
  · intro w'
    go_simp
    with_reducible rfl
  rotate_left
  · simp only [Act.put, List.setIfInBounds_toArray, List.set_cons_zero, List.set_cons_succ, i64_w, i32_w]
    rfl
  refine pure_ (i := 8) (N := some 39) (v := ?_) (a' := ?_) #[true, true, true, true, true, true, true, true, true, false, false, false, false, false, false, false, false, false, false, false, false] rfl rfl (by kernel_rfl) (fun _ _ _ h => h) (Or.inl ⟨by rfl, ?_⟩) ?_ ?_
  rotate_left
  · intro w'
    go_simp
    with_reducible rfl
  rotate_left
  · simp only [Act.put, List.setIfInBounds_toArray, List.set_cons_zero, List.set_cons_succ, i64_w, i32_w]
    rfl
  refine take_ (i := 9) (N := some 40) (v := ?_) (a' := ?_) #[true, true, true, true, true, true, true, true, true, true, false, false, false, false, false, false, false, false, false, false, false] rfl rfl (by kernel_rfl) (fun _ _ _ h => h) (Or.inl ⟨by rfl, ?_⟩) hHeld ?_ ?_
  rotate_left
  · rintro w' s0
    go_simp
    with_reducible rfl
  rotate_left
  · simp only [Act.put, List.setIfInBounds_toArray, List.set_cons_zero, List.set_cons_succ, i64_w, i32_w]
    rfl
  refine pure_ (i := 10) (N := some 41) (v := ?_) (a' := ?_) #[true, true, true, true, true, true, true, true, true, true, true, false, false, false, false, false, false, false, false, false, false] rfl rfl (by kernel_rfl) (fun _ _ _ h => h) (Or.inl ⟨by rfl, ?_⟩) ?_ ?_
  rotate_left
  · intro w'
    go_simp
    with_reducible rfl
  rotate_left
  · simp only [Act.put, List.setIfInBounds_toArray, List.set_cons_zero, List.set_cons_succ, i64_w, i32_w]
    rfl
  refine pure_ (i := 11) (N := some 42) (v := ?_) (a' := ?_) #[true, true, true, true, true, true, true, true, true, true, true, true, false, false, false, false, false, false, false, false, false] rfl rfl (by kernel_rfl) (fun _ _ _ h => h) (Or.inl ⟨by rfl, ?_⟩) ?_ ?_
  rotate_left
  · intro w'
    go_simp
    with_reducible rfl
  rotate_left
  · simp only [Act.put, List.setIfInBounds_toArray, List.set_cons_zero, List.set_cons_succ, i64_w, i32_w]
    rfl
  refine pure_ (i := 12) (N := some 43) (v := ?_) (a' := ?_) #[true, true, true, true, true, true, true, true, true, true, true, true, true, false, false, false, false, false, false, false, false] rfl rfl (by kernel_rfl) (fun _ _ _ h => h) (Or.inl ⟨by rfl, ?_⟩) ?_ ?_
  rotate_left
  · intro w'
    go_simp
    with_reducible rfl
  rotate_left
  · simp only [Act.put, List.setIfInBounds_toArray, List.set_cons_zero, List.set_cons_succ, i64_w, i32_w]
    rfl
  refine pure_ (i := 13) (N := some 44) (v := ?_) (a' := ?_) #[true, true, true, true, true, true, true, true, true, true, true, true, true, true, false, false, false, false, false, false, false] rfl rfl (by kernel_rfl) (fun _ _ _ h => h) (Or.inl ⟨by rfl, ?_⟩) ?_ ?_
  rotate_left
  · intro w'
    go_simp
    with_reducible rfl
  rotate_left
  · simp only [Act.put, List.setIfInBounds_toArray, List.set_cons_zero, List.set_cons_succ, i64_w, i32_w]
    rfl
  refine pure_ (i := 14) (N := some 45) (v := ?_) (a' := ?_) #[true, true, true, true, true, true, true, true, true, true, true, true, true, true, true, false, false, false, false, false, false] rfl rfl (by kernel_rfl) (fun _ _ _ h => h) (Or.inl ⟨by rfl, ?_⟩) ?_ ?_
  rotate_left
  · intro w'
    go_simp
    with_reducible rfl
  rotate_left
  · simp only [Act.put, List.setIfInBounds_toArray, List.set_cons_zero, List.set_cons_succ, i64_w, i32_w]
    rfl
  refine pure_ (i := 15) (N := some 46) (v := ?_) (a' := ?_) #[true, true, true, true, true, true, true, true, true, true, true, true, true, true, true, true, false, false, false, false, false] rfl rfl (by kernel_rfl) (fun _ _ _ h => h) (Or.inl ⟨by rfl, ?_⟩) ?_ ?_
  rotate_left
  · intro w'
    go_simp
    with_reducible rfl
  rotate_left
  · simp only [Act.put, List.setIfInBounds_toArray, List.set_cons_zero, List.set_cons_succ, i64_w, i32_w]
    rfl
  refine pure_ (i := 16) (N := some 47) (v := ?_) (a' := ?_) #[true, true, true, true, true, true, true, true, true, true, true, true, true, true, true, true, true, false, false, false, false] rfl rfl (by kernel_rfl) (fun _ _ _ h => h) (Or.inl ⟨by rfl, ?_⟩) ?_ ?_
  rotate_left
  · intro w'
    go_simp
    with_reducible rfl
  rotate_left
  · simp only [Act.put, List.setIfInBounds_toArray, List.set_cons_zero, List.set_cons_succ, i64_w, i32_w]
    rfl
  refine take_ (i := 17) (N := some 48) (v := ?_) (a' := ?_) #[true, true, true, true, true, true, true, true, true, true, true, true, true, true, true, true, true, true, false, false, false] rfl rfl (by kernel_rfl) (fun _ _ _ h => h) (Or.inl ⟨by rfl, ?_⟩) hHeld ?_ ?_
  rotate_left
  · rintro w' s0
    go_simp
    with_reducible rfl
  rotate_left
  · simp only [Act.put, List.setIfInBounds_toArray, List.set_cons_zero, List.set_cons_succ, i64_w, i32_w]
    rfl
  refine pure_ (i := 18) (N := some 49) (v := ?_) (a' := ?_) #[true, true, true, true, true, true, true, true, true, true, true, true, true, true, true, true, true, true, true, false, false] rfl rfl (by kernel_rfl) (fun _ _ _ h => h) (Or.inl ⟨by rfl, ?_⟩) ?_ ?_
  rotate_left
  · intro w'
    go_simp
    with_reducible rfl
  rotate_left
  · simp only [Act.put, List.setIfInBounds_toArray, List.set_cons_zero, List.set_cons_succ, i64_w, i32_w]
    rfl
  refine pure_ (i := 19) (N := some 50) (v := ?_) (a' := ?_) #[true, true, true, true, true, true, true, true, true, true, true, true, true, true, true, true, true, true, true, true, false] rfl rfl (by kernel_rfl) (fun _ _ _ h => h) (Or.inl ⟨by rfl, ?_⟩) ?_ ?_
  rotate_left
  · intro w'
    go_simp
    with_reducible rfl
  rotate_left
  · simp only [Act.put, List.setIfInBounds_toArray, List.set_cons_zero, List.set_cons_succ, i64_w, i32_w]
    rfl
  refine pure_ (i := 20) (N := some 30) (v := ?_) (a' := ?_) #[true, true, true, true, true, true, true, true, true, true, true, true, true, true, true, true, true, true, true, true, true] rfl rfl (by kernel_rfl) (fun _ _ _ h => h) (Or.inl ⟨by rfl, ?_⟩) ?_ ?_
  rotate_left
  · intro w'
    go_simp
    with_reducible rfl
  rotate_left
  · simp only [Act.put, List.setIfInBounds_toArray, List.set_cons_zero, List.set_cons_succ, i64_w, i32_w]
    rfl
  refine done_ (by kernel_rfl) ?_
  go_wp2
  go_ret
  exact ⟨rfl, HP.out.same HD.out.1⟩
end
end Go.Proofs.Ytnajdnhgoakgaaa.Wal
