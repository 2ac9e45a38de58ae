/- The log: what it is in memory; what it tells. -/
import Derived.Test.YtnajdnhgoakgaaaRd
namespace Go.Proofs.Ytnajdnhgoakgaaa.Wal
open Go.RowKit Go.Proofs.YtnajdnhgoakgaaaW.PrintWords Go.Proofs.YtnajdnhgoakgaaaW.PrintLast Go.Proofs.YtnajdnhgoakgaaaW.PrintMore Go.Proofs.Ytnajdnhgoakgaaa.Mem Go.Proofs.Ytnajdnhgoakgaaa.PWal
set_option linter.unusedVariables false
set_option linter.unusedSimpArgs false
set_option maxRecDepth 8000
set_option maxHeartbeats 4000000
/-- Rows of bytes. -/
abbrev KR : Kd (List Int) := Kd.slice 5 (Kd.int .u8)
structure LM where
  fr : Int
  n : Int
  first : Int
  next : Int
  hv : Int
  l : List (List Int)
  e : Int
structure LM.Ok (L : LM) : Prop where
  f0 : 0 ≤ L.fr
  n1 : 1 ≤ L.n
  fn : L.fr + L.n ≤ 65536
  i0 : 0 ≤ L.first
  i1 : L.first ≤ 18446744073709551615
  x0 : 0 ≤ L.next
  x1 : L.next ≤ 18446744073709551615
  h0 : 0 ≤ L.hv
  h1 : L.hv ≤ L.n
  lh : (L.l.length : Int) ≤ L.hv
  rl : ∀ r ∈ L.l, r.length ≤ 100000000
  rb : ∀ r ∈ L.l, Byt r
def lcells (gd : Nat) (L : LM) (v : Value) : Array Value := #[.pointer (some ⟨gd, 0, none⟩), .int .i64 L.fr, .int .i64 L.n, .int .u64 L.first, .int .u64 L.next, .int .i64 L.hv, v, .int .i64 L.e]
/-- The log behind a pointer to block g; what it has lies in F, from base on. -/
def LogAt (w : World) (base : Nat) (F : Nat → Prop) (g gd : Nat) (L : LM) : Prop :=
  ∃ v, F g ∧ base ≤ g ∧ w.heap[g]? = some (.cells (lcells gd L v) 91 (0, 0)) ∧ KR.R 35 w base (fun k => F k ∧ k ≠ g) v L.l ∧ L.Ok
section
variable {w w' : World} {base g gd : Nat} {F G S : Nat → Prop} {L : LM}
theorem LogAt.kept (h : LogAt w base F g gd L) (hk : Kept w w' S) (ha : Apart F S) : LogAt w' base F g gd L := by
  obtain ⟨v, h1, h2, h3, h4, h5⟩ := h
  exact ⟨v, h1, h2, blk_kept h3 hk (ha g h1), Kd.R_kept h4 hk (fun k hk2 => ha k hk2.1), h5⟩
theorem LogAt.below (h : LogAt w base F g gd L) (hb : Below w.heap.size w w') : LogAt w' base F g gd L := h.kept (Kept.of_below hb (fun _ => False)) (fun _ _ h => h)
theorem LogAt.mono (h : LogAt w base F g gd L) (hs : ∀ k, F k → G k) : LogAt w base G g gd L := by
  obtain ⟨v, h1, h2, h3, h4, h5⟩ := h
  exact ⟨v, hs g h1, h2, h3, Kd.R_mono h4 (fun k hk => ⟨hs k hk.1, hk.2⟩), h5⟩
theorem LogAt.cut (h : LogAt w base F g gd L) : LogAt w base (Cut base w F) g gd L := by
  obtain ⟨v, h1, h2, h3, h4, h5⟩ := h
  exact ⟨v, ⟨h1, h2, blk_lt h3⟩, h2, h3, Kd.R_mono (Kd.R_bound h4) (fun k hk => ⟨⟨hk.1.1, hk.2.1, hk.2.2.1⟩, hk.1.2⟩), h5⟩
theorem LogAt.lower {b : Nat} (h : LogAt w base F g gd L) (hb : b ≤ base) : LogAt w b F g gd L := by
  obtain ⟨v, h1, h2, h3, h4, h5⟩ := h
  exact ⟨v, h1, Nat.le_trans hb h2, h3, Kd.R_lower h4 hb, h5⟩
theorem LogAt.lt (h : LogAt w base F g gd L) : g < w.heap.size := by
  obtain ⟨v, h1, h2, h3, h4, h5⟩ := h
  exact blk_lt h3
theorem LogAt.ok (h : LogAt w base F g gd L) : L.Ok := by
  obtain ⟨v, h1, h2, h3, h4, h5⟩ := h
  exact h5
def LM.First (L : LM) : Int := if L.l.length = 0 then 0 else L.first
theorem next_calls (h : LogAt w base F g gd L) : Calls Try.prog 32 #[.pointer (some ⟨g, 0, none⟩)] w fun e w' => e = .returned (.int .u64 L.next) ∧ w = w' := by
  obtain ⟨v, h1, h2, h3, h4, h5⟩ := h
  have c4 : w.cell? ⟨g, 4, none⟩ = some (.int .u64 L.next) := (blk_cell h3 4).trans rfl
  clear h1 h2 h3 h4 h5
  go_enter Try.func32, Try.ntmps32
  go_wp2
  go_ret
  exact ⟨rfl, rfl⟩
theorem first_calls (h : LogAt w base F g gd L) : Calls Try.prog 33 #[.pointer (some ⟨g, 0, none⟩)] w fun e w' => e = .returned (.int .u64 L.First) ∧ w = w' := by
  obtain ⟨v, h1, h2, h3, h4, h5⟩ := h
  obtain ⟨A, c, rfl, _, _⟩ := Kd.R_reads h4
  have c3 : w.cell? ⟨g, 3, none⟩ = some (.int .u64 L.first) := (blk_cell h3 3).trans rfl
  have c6 : w.cell? ⟨g, 6, none⟩ = some (.slice A L.l.length c) := (blk_cell h3 6).trans rfl
  obtain ⟨n, hn⟩ : ∃ n, n = L.l.length := ⟨_, rfl⟩
  unfold LM.First
  rw [← hn] at c6 ⊢
  clear h1 h2 h3 h4 h5 hn
  by_cases h0 : n = 0
  · subst h0
    go_enter Try.func33, Try.ntmps33
    go_wp2
    go_ret
    exact ⟨rfl, rfl⟩
  · rw [if_neg h0]
    have d0 : ((n : Int) == 0) = false := beq_eq_false_iff_ne.2 (by omega)
    go_enter Try.func33, Try.ntmps33
    go_wp2
    go_ret
    exact ⟨rfl, rfl⟩
theorem free_calls (h : LogAt w base F g gd L) : Calls Try.prog 34 #[.pointer (some ⟨g, 0, none⟩)] w fun e w' => e = .returned (.int .i64 (L.n - L.hv)) ∧ Below w.heap.size w w' := by
  obtain ⟨v, h1, h2, h3, h4, h5⟩ := h
  have HC := Aside0.mk (And.intro (show w.cell? ⟨g, 2, none⟩ = some (.int .i64 L.n) from (blk_cell h3 2).trans rfl) (show w.cell? ⟨g, 5, none⟩ = some (.int .i64 L.hv) from (blk_cell h3 5).trans rfl))
  have hw : wrap64 (L.n - L.hv) = L.n - L.hv := by
    have a1 := h5.f0; have a2 := h5.n1; have a3 := h5.fn; have a4 := h5.h0; have a5 := h5.h1
    exact IntWalk.wrap64_in _ ⟨by omega, by omega⟩
  clear h1 h2 h3 h4 h5
  go_enter Try.func34, Try.ntmps34
  go_upto_region 3 with (fail)
  refine start_ (n := 10) (S := (fun w' => w'.cell? ⟨g, 2, none⟩ = some (.int .i64 L.n) ∧ w'.cell? ⟨g, 5, none⟩ = some (.int .i64 L.hv))) (ds := []) #[false, false, false, false, false, false, false, false, false, false] (by kernel_rfl) rfl (by kernel_rfl) (HC.out) (fun hHeld => ?_)
  refine pure_ (i := 0) (N := some 5) (v := ?_) (a' := ?_) #[true, false, false, false, false, false, false, false, false, false] rfl rfl (by kernel_rfl) (fun _ _ _ h => h) (Or.inl ⟨by rfl, ?_⟩) ?_ ?_
  rotate_left
  · intro w'
    go_simp
    with_reducible rfl
  rotate_left
  · simp only [Act.put, List.setIfInBounds_toArray, List.set_cons_zero, List.set_cons_succ, i64_w, i32_w]
    rfl
  refine pure_ (i := 1) (N := some 6) (v := ?_) (a' := ?_) #[true, true, false, false, false, false, false, false, false, false] rfl rfl (by kernel_rfl) (fun _ _ _ h => h) (Or.inl ⟨by rfl, ?_⟩) ?_ ?_
  rotate_left
  · intro w'
    go_simp
    with_reducible rfl
  rotate_left
  · simp only [Act.put, List.setIfInBounds_toArray, List.set_cons_zero, List.set_cons_succ, i64_w, i32_w]
    rfl
  refine pure_ (i := 2) (N := some 7) (v := ?_) (a' := ?_) #[true, true, true, false, false, false, false, false, false, false] rfl rfl (by kernel_rfl) (fun _ _ _ h => h) (Or.inl ⟨by rfl, ?_⟩) ?_ ?_
  rotate_left
  · intro w'
    go_simp
    with_reducible rfl
  rotate_left
  · simp only [Act.put, List.setIfInBounds_toArray, List.set_cons_zero, List.set_cons_succ, i64_w, i32_w]
    rfl
  refine take_ (i := 3) (N := some 8) (v := ?_) (a' := ?_) #[true, true, true, true, false, false, false, false, false, false] rfl rfl (by kernel_rfl) (fun _ _ _ h => h) (Or.inl ⟨by rfl, ?_⟩) hHeld ?_ ?_
  rotate_left
  · rintro w' s0
    obtain ⟨s2, s5⟩ := s0
    go_simp
    with_reducible rfl
  rotate_left
  · simp only [Act.put, List.setIfInBounds_toArray, List.set_cons_zero, List.set_cons_succ, i64_w, i32_w]
    rfl
  refine pure_ (i := 4) (N := some 9) (v := ?_) (a' := ?_) #[true, true, true, true, true, false, false, false, false, false] rfl rfl (by kernel_rfl) (fun _ _ _ h => h) (Or.inl ⟨by rfl, ?_⟩) ?_ ?_
  rotate_left
  · intro w'
    go_simp
    with_reducible rfl
  rotate_left
  · simp only [Act.put, List.setIfInBounds_toArray, List.set_cons_zero, List.set_cons_succ, i64_w, i32_w]
    rfl
  refine pure_ (i := 5) (N := some 10) (v := ?_) (a' := ?_) #[true, true, true, true, true, true, false, false, false, false] rfl rfl (by kernel_rfl) (fun _ _ _ h => h) (Or.inl ⟨by rfl, ?_⟩) ?_ ?_
  rotate_left
  · intro w'
    go_simp
    with_reducible rfl
  rotate_left
  · simp only [Act.put, List.setIfInBounds_toArray, List.set_cons_zero, List.set_cons_succ, i64_w, i32_w]
    rfl
  refine pure_ (i := 6) (N := some 11) (v := ?_) (a' := ?_) #[true, true, true, true, true, true, true, false, false, false] rfl rfl (by kernel_rfl) (fun _ _ _ h => h) (Or.inl ⟨by rfl, ?_⟩) ?_ ?_
  rotate_left
  · intro w'
    go_simp
    with_reducible rfl
  rotate_left
  · simp only [Act.put, List.setIfInBounds_toArray, List.set_cons_zero, List.set_cons_succ, i64_w, i32_w]
    rfl
  refine take_ (i := 7) (N := some 12) (v := ?_) (a' := ?_) #[true, true, true, true, true, true, true, true, false, false] rfl rfl (by kernel_rfl) (fun _ _ _ h => h) (Or.inl ⟨by rfl, ?_⟩) hHeld ?_ ?_
  rotate_left
  · rintro w' s0
    obtain ⟨s2, s5⟩ := s0
    go_simp
    with_reducible rfl
  rotate_left
  · simp only [Act.put, List.setIfInBounds_toArray, List.set_cons_zero, List.set_cons_succ, i64_w, i32_w]
    rfl
  refine pure_ (i := 8) (N := some 13) (v := ?_) (a' := ?_) #[true, true, true, true, true, true, true, true, true, false] rfl rfl (by kernel_rfl) (fun _ _ _ h => h) (Or.inl ⟨by rfl, ?_⟩) ?_ ?_
  rotate_left
  · intro w'
    go_simp
    with_reducible rfl
  rotate_left
  · simp only [Act.put, List.setIfInBounds_toArray, List.set_cons_zero, List.set_cons_succ, i64_w, i32_w]
    rfl
  refine pure_ (i := 9) (N := some 2) (v := ?_) (a' := ?_) #[true, true, true, true, true, true, true, true, true, true] rfl rfl (by kernel_rfl) (fun _ _ _ h => h) (Or.inl ⟨by rfl, ?_⟩) ?_ ?_
  rotate_left
  · intro w'
    go_simp
    with_reducible rfl
  rotate_left
  · simp only [Act.put, List.setIfInBounds_toArray, List.set_cons_zero, List.set_cons_succ, i64_w, i32_w]
    rfl
  refine done_ (by kernel_rfl) ?_
  go_wp2
  go_ret
  exact ⟨rfl, below_drew1 (Below.refl _ _)⟩
theorem info_bytes : (Try.prog.info? 35).map (fun i => (i.zero, i.size, i.bytes)) = some (some (.slice none 0 0), 1, 24) := by kernel_rfl
theorem takeR_snoc {l : List (List Int)} {i : Nat} (h : i < l.length) : l.take (i + 1) = l.take i ++ [l.getD i []] := by
  rw [List.take_add_one, List.getElem?_eq_getElem h, List.getD_eq_getElem?_getD, List.getElem?_eq_getElem h]
  rfl
theorem records_calls (h : LogAt w base F g gd L) : Calls Try.prog 31 #[.pointer (some ⟨g, 0, none⟩)] w fun e w' => ∃ v, e = .returned v ∧ KR.R 35 w' w.heap.size (fun _ => True) v L.l ∧ Below w.heap.size w w' := by
  obtain ⟨v, h1, h2, h3, h4, h5⟩ := h
  obtain ⟨A, c, rfl, _, hC⟩ := Kd.R_reads h4
  have c6 : w.cell? ⟨g, 6, none⟩ = some (.slice A L.l.length c) := (blk_cell h3 6).trans rfl
  have hlen : L.l.length ≤ 65536 := by have a1 := h5.f0; have a2 := h5.fn; have a4 := h5.h1; have a5 := h5.lh; omega
  have HX := Aside0.mk (And.intro hC (And.intro h5.rl h5.rb))
  obtain ⟨l, hl⟩ : ∃ l, l = L.l := ⟨_, rfl⟩
  rw [← hl] at c6 hlen HX ⊢
  obtain ⟨n, hn⟩ : ∃ n, n = l.length := ⟨_, rfl⟩
  rw [← hn] at c6 hlen
  have HN := Aside0.mk hn
  clear h1 h2 h3 h4 h5 hl hn hC
  go_enter Try.func31, Try.ntmps31
  go_wp2
  go_loopg [3, 13] n (fun q v3 v13 wr => ∃ (i : Nat) (A3 : Option Addr) (c3 : Nat), v13 = .int .i64 i ∧ v3 = .slice A3 i c3 ∧ q + i = n ∧ Aside0 (KR.R 35 wr w.heap.size (fun _ => True) (.slice A3 i c3) (l.take i) ∧ Below w.heap.size w wr))
  case atStart => exact ⟨0, none, 0, rfl, rfl, by omega, ⟨Kd.R_nil _ _ _ _ _, Below.refl _ _⟩⟩
  case round =>
    obtain ⟨i, A3, c3, rfl, rfl, hq, hI⟩ := hrel
    by_cases hlt : i < n
    · have hil : i < l.length := by rw [← HN.out]; exact hlt
      obtain ⟨ad, A0, c0, rfl, hcell0, hc0, hC0⟩ := at_L1 (Kd.C_below HX.out.1 hI.out.2) (i : Int) (by omega) (by omega)
      obtain ⟨r, hr⟩ : ∃ r, r = rd_L1 l (i : Int) := ⟨_, rfl⟩
      rw [← hr] at hcell0 hc0 hC0
      have hrg : r = l.getD i [] := by rw [hr]; unfold rd_L1; rw [Int.toNat_natCast]
      have hmem : r ∈ l := by rw [hrg, List.getD_eq_getElem?_getD, List.getElem?_eq_getElem hil]; exact List.getElem_mem hil
      have hcell : wr.cell? (ad.add i) = some (.slice A0 r.length c0) := hcell0
      have HR := Aside0.mk (And.intro (clone_calls A0 c0 r wr hC0 hc0 (by have := HX.out.2.1 r hmem; omega)) (show l.take (i + 1) = l.take i ++ [r] by rw [hrg]; exact takeR_snoc hil))
      have hti : (l.take i).length = i := by rw [List.length_take]; omega
      have HT := Aside0.mk hti
      have HM := Aside0.mk (And.intro hlt hlen)
      obtain ⟨m, hm⟩ : ∃ m, m = r.length := ⟨_, rfl⟩
      rw [← hm] at hcell HR
      clear hil hcell0 hc0 hC0 hr hrg hmem hti hm
      go_wp2_with (first
        | (go_at_call 47; go_loud (refine HR.out.1.mono ?_; rintro e w2 ⟨v2, rfl, hv2, hb2, _⟩; obtain ⟨A2, c2, rfl, _, _⟩ := Kd.R_reads hv2; have H2 := Aside0.mk (And.intro hv2 hb2); clear hv2 hb2))
        | ((with_reducible refine gate_builtin (b := .append) (xs := #[.tmp 17, .tmp 20]) rfl ?_); at_builtin; go_loud ( refine Kd.R_append KR (w0 := w) (W := w2) w.heap.size rfl (.tmp 17) (.tmp 20) 56 35 (.slice none 0 0) 24 rfl Try.underlying56 info_bytes rfl (by decide) (by decide) (.slice A3 i c3) (l.take i) r [.slice A2 r.length c2] (fun _ => True) (fun k => wr.heap.size ≤ k) rfl rfl ?aM ?aK (fun _ _ => trivial) (Kd.R_below hI.out.1 H2.out.2) ?aB ?aS ?aL ?_; (case aM => exact ⟨_, rfl, Kd.R_lower (Kd.R_mono (Kd.R_bound H2.out.1) (fun k hk => hk.2.1)) hI.out.2.size⟩); (case aK => exact fun k hk => ⟨trivial, fun he => by have := ((Kd.R_bound hI.out.1).1 k he.symm).2.2.1; omega⟩); (case aB => exact below_step hI.out.2 H2.out.2); (case aS => have h1 := hI.out.2.size; have h2 := H2.out.2.size; omega); (case aL => rw [HT.out]; have := HM.out; omega); intro v5 w5 ho5 hb5 _ _; obtain ⟨A5, c5, rfl, _, _⟩ := Kd.R_reads ho5; have h5e := HT.out; rw [← HR.out.2] at ho5 ⊢; have H5 := Aside0.mk (And.intro ho5 hb5); clear ho5 hb5)))
      go_roundg (n - (i + 1))
      case measure => omega
      case rel =>
        have hl2 : (l.take (i + 1)).length = i + 1 := by rw [List.length_take, ← HN.out]; omega
        refine ⟨i + 1, A5, c5, by go_num, by have := HN.out; congr 1; omega, by omega, ⟨?_, H5.out.2⟩⟩
        have := H5.out.1
        rw [hl2] at this
        exact this
    · have hin : i = n := by omega
      have htk : l.take i = l := List.take_of_length_le (by rw [hin, HN.out]; exact Nat.le_refl _)
      have HI := Aside0.mk (And.intro htk hI.out)
      clear htk hI hin
      go_wp2
      go_ret
      have h1 := HI.out.2.1
      rw [HI.out.1] at h1
      exact ⟨_, rfl, h1, HI.out.2.2⟩
end
end Go.Proofs.Ytnajdnhgoakgaaa.Wal
