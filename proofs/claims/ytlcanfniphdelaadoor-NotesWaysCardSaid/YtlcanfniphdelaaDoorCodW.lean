/- The codec's writer; a new reader. -/
import Derived.Test.YtlcanfniphdelaaDoorCodB
namespace Go.Proofs.YtlcanfniphdelaaDoor.Cod
open Go.RowKit Go.Proofs.YtlcanfniphdelaaDoorW.PrintWords Go.Proofs.YtlcanfniphdelaaDoorW.PrintLast Go.Proofs.YtlcanfniphdelaaDoorW.PrintMore Go.Proofs.YtlcanfniphdelaaDoor.Mem
set_option linter.unusedVariables false
set_option linter.unusedSimpArgs false
section
variable {w : World} {F : Nat → Prop} {g base : Nat} {R : RM} {xs ys : List Int}

/-- What lies between two heap's ends. -/
def Span (w w' : World) : Nat → Prop := fun k => w.heap.size ≤ k ∧ k < w'.heap.size
set_option maxRecDepth 100000 in
theorem newReader_calls (A : Option Addr) (c : Nat) (hr : Kd.C (Kd.int .u8) w A xs.length xs) (hc : xs.length ≤ c) (hl : xs.length < 140737488355328) (hy : Byt xs) :
    Calls Tryd.prog 32 #[.slice A xs.length c] w fun e w' => ∃ g, e = .returned (.pointer (some ⟨g, 0, none⟩)) ∧ RdAt w' (Span w w') g ⟨xs, 0⟩ ∧ Below w.heap.size w w' := by
  have HR := Aside0.mk (clone_calls A c xs w hr hc hl)
  have HL := Aside0.mk (And.intro hl hy)
  obtain ⟨n, hn⟩ : ∃ n, n = xs.length := ⟨_, rfl⟩
  rw [← hn] at HR ⊢
  have HN := Aside0.mk hn
  clear hr hc hl hy hn
  go_enter Tryd.func32, Tryd.ntmps32
  go_wp2_with (first | (go_at_call 42; go_loud (refine HR.out.mono ?_; rintro e w1 ⟨v, rfl, hv, hb, _⟩; obtain ⟨A', c', rfl, hc', hC⟩ := Kd.R_reads hv; have HV := Aside0.mk (And.intro hv (And.intro hb (And.intro hc' hC))); clear hv hb hc' hC)))
  go_ret
  obtain ⟨hv, hb, hc', hC⟩ := HV.out
  have hb1 := below_alloc (Below.refl w1.heap.size w1) (.cells #[.slice A' xs.length c', .int .i64 0] 84)
  have hsz : (w1.alloc (.cells #[.slice A' xs.length c', .int .i64 0] 84)).heap.size = w1.heap.size + 1 := by simp
  have hle := below_size hb
  have hcm : c' ≤ 9223372036854775807 := by
    obtain ⟨h0, inner, ho, hr⟩ := hv
    rcases ho.2 with ⟨h2, _⟩ | ⟨_, cap, cur, h2, _, _, _, hm, _⟩
    · injection h2 with _ _ h3; omega
    · injection h2 with _ _ h3; rw [h3]; unfold maxLen at hm; omega
  have hA : ∀ ad, A' = some ad → w.heap.size ≤ ad.block ∧ ad.block < w1.heap.size := by
    rintro ad rfl
    have hB := Kd.R_bound hv
    have := hB.1 ad.block (by simp [Value.ownBlock])
    exact ⟨this.2.1, this.2.2.1⟩
  refine ⟨_, rfl, ⟨A', c', ⟨hle, by rw [hsz]; omega⟩, ?_, by simpa using heap_alloc_new w1 _, Kd.C_below hC hb1, hc', HL.out.1, hcm, HL.out.2⟩, below_step hb hb1⟩
  rintro ad rfl
  have := hA ad rfl
  exact ⟨⟨this.1, by rw [hsz]; omega⟩, by omega⟩

/-! ### the writer -/
def WrAt (w : World) (base : Nat) (F : Nat → Prop) (g : Nat) (xs : List Int) : Prop :=
  ∃ v, F g ∧ base ≤ g ∧ w.heap[g]? = some (.cells #[v] 77 (0, 0)) ∧ Kd.R (Kd.int .u8) 5 w base (fun k => F k ∧ k ≠ g) v xs ∧ xs.length < 140737488355328 ∧ Byt xs
theorem WrAt.kept {w w' : World} {S : Nat → Prop} (h : WrAt w base F g xs) (hk : Kept w w' S) (ha : Apart F S) : WrAt w' base F g xs := by
  obtain ⟨v, h1, h2, h3, h4, h5⟩ := h
  exact ⟨v, h1, h2, blk_kept h3 hk (ha g h1), Kd.R_kept h4 hk (fun k hk2 => ha k hk2.1), h5⟩
theorem WrAt.below {w w' : World} (h : WrAt w base F g xs) (hb : Below w.heap.size w w') : WrAt w' base F g xs := h.kept (Kept.of_below hb (fun _ => False)) (fun _ _ h => h)
theorem WrAt.mono {G : Nat → Prop} (h : WrAt w base F g xs) (hs : ∀ k, F k → G k) : WrAt w base G g xs := by
  obtain ⟨v, h1, h2, h3, h4, h5⟩ := h
  exact ⟨v, hs g h1, h2, h3, Kd.R_mono h4 (fun k hk => ⟨hs k hk.1, hk.2⟩), h5⟩
theorem WrAt.cut (h : WrAt w base F g xs) : WrAt w base (Cut base w F) g xs := by
  obtain ⟨v, h1, h2, h3, h4, h5⟩ := h
  exact ⟨v, ⟨h1, h2, blk_lt h3⟩, h2, h3, Kd.R_mono (Kd.R_bound h4) (fun k hk => ⟨⟨hk.1.1, hk.2.1, hk.2.2.1⟩, hk.1.2⟩), h5⟩
set_option maxRecDepth 100000 in
theorem newWriter_calls : Calls Tryd.prog 16 #[] w fun e w' => e = .returned (.pointer (some ⟨w.heap.size, 0, none⟩)) ∧ WrAt w' w.heap.size (Span w w') w.heap.size [] ∧ Below w.heap.size w w' := by
  go_enter Tryd.func16, Tryd.ntmps16
  go_wp2
  go_ret
  refine ⟨rfl, ⟨.slice none 0 0, ⟨Nat.le_refl _, by simp⟩, Nat.le_refl _, by simpa using heap_alloc_new w _, Kd.R_nil _ _ _ _ _, by simp, by intro x hx; cases hx⟩, below_alloc (Below.refl _ _) _⟩
theorem info_u8w : (Tryd.prog.info? 5).map (fun i => (i.zero, i.size, i.bytes)) = some (some (.int .u8 0), 1, 1) := by kernel_rfl
theorem wfixed_nil (v : Value) : Calls Tryd.prog 18 #[.pointer none, v] w fun e w' => e = .returned (.tuple #[]) ∧ w = w' := by
  go_enter Tryd.func18, Tryd.ntmps18
  go_wp2
  go_end0
  exact ⟨rfl, rfl⟩
set_option maxRecDepth 100000 in
theorem wfixed_calls {w0 : World} (hB : Below w0.heap.size w0 w) (hb0 : w0.heap.size ≤ base) (hd : WrAt w base F g xs) (A : Option Addr) (n c : Nat) (hn : n = ys.length) (hr : Kd.C (Kd.int .u8) w A ys.length ys) (hl : xs.length + ys.length < 140737488355328) (hy : Byt ys) :
    Calls Tryd.prog 18 #[.pointer (some ⟨g, 0, none⟩), .slice A n c] w fun e w' => e = .returned (.tuple #[]) ∧ WrAt w' base (Or F w) g (xs ++ ys) ∧ Below w0.heap.size w0 w' ∧ Kept w w' F := by
  subst hn
  obtain ⟨v, h1, h2, h3, h4, h5, h6⟩ := hd
  obtain ⟨vA, vc, rfl, _, _⟩ := Kd.R_reads h4
  obtain ⟨v, hv⟩ : ∃ v, v = Value.slice vA xs.length vc := ⟨_, rfl⟩
  rw [← hv] at h3 h4
  have HVV := Aside0.mk hv
  have c0 : w.cell? ⟨g, 0, none⟩ = some (Value.slice vA xs.length vc) := (blk_cell h3 0).trans (by rw [hv]; rfl)
  have hlt := blk_lt h3
  have h4' : Kd.R (Kd.int .u8) 5 w base (fun k => Or F w k ∧ k ≠ g) v xs := Kd.R_mono h4 (fun k hk => ⟨.inl hk.1, hk.2⟩)
  have hne : v.ownBlock ≠ some g := fun e => (h4.1 g e).2 rfl
  have hnf : ∀ k, v.ownBlock = some k → F k := fun k e => (h4.1 k e).1
  have HX := Aside0.mk (And.intro h1 (And.intro h2 (And.intro h3 (And.intro h4' (And.intro hne (And.intro hnf (And.intro hB (And.intro hr (And.intro h6 hlt)))))))))
  have HL := Aside0.mk (And.intro hl (And.intro hy hb0))
  have hbs : base ≤ w.heap.size := by omega
  clear hv hB h1 h2 h3 h4 h4' hne hnf hr hl hy h5 h6
  go_enter Tryd.func18, Tryd.ntmps18
  go_wp2_with (first | ((with_reducible refine gate_builtin (b := .append) (xs := #[.tmp 10, .tmp 11]) rfl ?_); at_builtin; go_loud (refine Kd.R_append_row (Value.int .u8) 0 (w0 := w) base rfl (.tmp 10) (.tmp 11) 25 5 (.int .u8 0) 1 rfl Tryd.underlying25 info_u8w rfl (by decide) v xs ys A ys.length c (fun k => Or F w k ∧ k ≠ g) HVV.out.symm rfl (fun k hk => ⟨.inr hk, by omega⟩) HX.out.2.2.2.1 HX.out.2.2.2.2.2.2.2.1 (Below.refl _ _) hbs (by have := HL.out.1; omega) ?_; intro v1 w1 ho1 hb1 hg1 hat1; obtain ⟨vB, vd, rfl, _, _⟩ := Kd.R_reads ho1; have hg2 : w1.heap[g]? = some (.cells #[v] 77 (0, 0)) := (hg1.block g hlt (fun e => HX.out.2.2.2.2.1 e.symm)).trans HX.out.2.2.1; have c1 : w1.cell? ⟨g, 0, none⟩ = some (Value.slice vA xs.length vc) := (blk_cell hg2 0).trans (by rw [← HVV.out]; rfl); have f1 : w1.frozen? ⟨g, 0, none⟩ = false := blk_frozen hg2 0; have HO := Aside0.mk (And.intro ho1 (And.intro hg1 (And.intro hg2 hb1))); clear ho1 hb1 hg1 hat1 hg2)))
  go_end0
  obtain ⟨h1, h2, h3, h4', hne, hnf, hB, hr, h6, _⟩ := HX.out
  obtain ⟨hl, hy, hb0⟩ := HL.out
  obtain ⟨ho1, hg1, hg2, hb1⟩ := HO.out
  have hk1 : Kept w w1 F := (Kept.refl w F).of_grown hg1 (fun k e => .inl (hnf k e)) |> fun h => h
  refine ⟨rfl, ⟨_, .inl h1, h2, by simpa using blk_set hg2 0 (.slice vB (xs ++ ys).length vd), Kd.R_far ho1 (p := ⟨g, 0, none⟩) (fun k hk => hk.2) _, by simp only [List.length_append]; omega, ?_⟩, ?_, ?_⟩
  · intro x hx
    rcases List.mem_append.1 hx with h | h
    · exact h6 x h
    · exact hy x h
  · exact below_set (hB.trans (hb1.mono hb0)) (by show w0.heap.size ≤ g; omega)
  · exact hk1.setCell (p := ⟨g, 0, none⟩) (.inl h1) _
/-! ### Uint -/
def putN : Nat → Int → List Int
  | 0, x => [x]
  | k + 1, x => if x < 128 then [x] else (x % 128 + 128) :: putN k (x / 128)
/-- A number's bytes. -/
def putNum (x : Int) : List Int := putN 9 x
theorem putN_len : ∀ (k : Nat) (x : Int), (putN k x).length ≤ k + 1 ∧ 1 ≤ (putN k x).length := by
  intro k
  induction k with
  | zero => intro x; simp [putN]
  | succ k ih =>
    intro x
    unfold putN
    split
    · simp
    · have := ih (x / 128); simp only [List.length_cons]; omega
theorem putN_byt : ∀ (k : Nat) (x : Int), 0 ≤ x → x < 128 ^ (k + 1) → Byt (putN k x) := by
  intro k
  induction k with
  | zero => intro x h0 h1 y hy; simp [putN] at hy; subst hy; have : (128 : Int) ^ (0 + 1) = 128 := by decide
            omega
  | succ k ih =>
    intro x h0 h1 y hy
    unfold putN at hy
    split at hy
    · simp at hy; subst hy; omega
    · rcases List.mem_cons.1 hy with h | h
      · omega
      · refine ih (x / 128) (by omega) ?_ y h
        rw [pow_128] at h1
        omega
theorem or_128 (x : Int) (h0 : 0 ≤ x) : bits .or .u8 (x % 256) 128 = x % 128 + 128 := by
  have e : x % 128 = (x % 256) % 128 := by omega
  rw [e]
  have h1 : 0 ≤ x % 256 := by omega
  have h2 : x % 256 < 256 := by omega
  generalize x % 256 = y at h1 h2
  have : ∀ n : Nat, n < 256 → bits .or .u8 (n : Int) 128 = (n : Int) % 128 + 128 := by decide +kernel
  obtain ⟨n, rfl⟩ := Int.eq_ofNat_of_zero_le h1
  exact this n (by omega)
theorem putN_small (k : Nat) {x : Int} (h : x < 128) : putN k x = [x] := by cases k <;> simp [putN, h]
theorem putN_great (k : Nat) {x : Int} (h : ¬ x < 128) : putN (k + 1) x = (x % 128 + 128) :: putN k (x / 128) := by simp [putN, h]
set_option maxHeartbeats 1000000 in
set_option maxRecDepth 100000 in
theorem wuint_gen (p : Option Addr) (x : Int) (h0 : 0 ≤ x) (h1 : x < 18446744073709551616) (Q : World → Prop)
    (hfix : ∀ (W : World) (A : Option Addr) (c : Nat), Below w.heap.size w W → Kd.R (Kd.int .u8) 5 W w.heap.size (fun _ => True) (.slice A (putNum x).length c) (putNum x) → Calls Tryd.prog 18 #[.pointer p, .slice A (putNum x).length c] W fun e w' => e = .returned (.tuple #[]) ∧ Q w') :
    Calls Tryd.prog 17 #[.pointer p, .int .u64 x] w fun e w' => e = .returned (.tuple #[]) ∧ Q w' := by
  have HF := Aside0.mk hfix
  clear hfix
  obtain ⟨z, hz⟩ : ∃ z, putN 9 x = z := ⟨_, rfl⟩
  have hzz : putNum x = z := hz
  rw [hzz] at HF
  have HZ := Aside0.mk hz
  clear hz hzz
  go_enter Tryd.func17, Tryd.ntmps17
  go_wp2
  go_loopg [1, 4] 9 (fun q v1 v4 wr => ∃ (y : Int) (A : Option Addr) (c : Nat) (l : List Int), v1 = .int .u64 y ∧ v4 = .slice A l.length c ∧ 0 ≤ y ∧ y < 18446744073709551616 ∧ q ≤ 9 ∧ l.length + q ≤ 9 ∧ Aside0 (y < 128 ^ (q + 1)) ∧ Aside0 (l ++ putN q y = z) ∧ Aside0 (Kd.R (Kd.int .u8) 5 wr w.heap.size (fun _ => True) (.slice A l.length c) l) ∧ Aside0 (Below w.heap.size w wr))
  case atStart => exact ⟨x, none, 0, [], rfl, rfl, h0, h1, Nat.le_refl _, by simp, ⟨by omega⟩, HZ, ⟨Kd.R_nil _ _ _ _ _⟩, ⟨Below.refl _ _⟩⟩
  case round =>
    clear HZ
    obtain ⟨y, A, c, l, rfl, rfl, hy0, hy1, hq, hlq, hy2, hz, hr, hb⟩ := hrel
    obtain ⟨q, hqq⟩ : ∃ q, q = gk := ⟨_, rfl⟩
    have hbyte : IntKind.u8.wrap y = y % 256 := IntKind.wrap_u8 y
    by_cases hlt : y < 128
    · have d1 : decide (128 ≤ y) = false := decide_eq_false (by omega)
      have hz2 : l ++ [y] = z := by rw [← putN_small gk hlt]; exact hz.out
      have hy256 : y % 256 = y := by omega
      have hzl : l.length + 1 = z.length := by rw [← hz2]; simp
      have HY := Aside0.mk (And.intro hz2 (And.intro hy256 hzl))
      clear hz2 hy256 hqq hzl
      go_wp2_with (first | ((with_reducible refine gate_builtin (b := .append) (xs := #[.tmp 16, .tmp 19]) rfl ?_); at_builtin; go_loud (refine Kd.R_append (Kd.int .u8) (w0 := w) w.heap.size rfl (.tmp 16) (.tmp 19) 25 5 (.int .u8 0) 1 rfl Tryd.underlying25 info_u8w rfl (by decide) (by decide) (.slice A l.length c) l (y % 256) [.int .u8 (y % 256)] (fun _ => True) (fun _ => False) rfl rfl rfl (fun _ hk => hk.elim) (fun _ _ => trivial) hr.out hb.out (below_size hb.out) (by omega) ?_; intro v1 w1 ho1 hb1 hg1 hat1; obtain ⟨vB, vd, rfl, _, _⟩ := Kd.R_reads ho1; have HO := Aside0.mk (And.intro ho1 hb1); clear ho1 hb1 hg1 hat1)) | (go_at_call 18; go_loud (have ho1 := HO.out.1; rw [HY.out.2.1, HY.out.1] at ho1; rw [HY.out.2.2]; refine (HF.out _ vB vd HO.out.2 ho1).mono ?_; rintro e w2 ⟨rfl, hq2⟩; have HQ := Aside0.mk hq2; clear hq2 ho1)))
      go_end0
      exact ⟨rfl, HQ.out⟩
    · have d1 : decide (128 ≤ y) = true := decide_eq_true (by omega)
      have hor := or_128 y hy0
      cases gk with
      | zero =>
        have h3 := hy2.out
        exact absurd h3 (by show ¬ y < 128 ^ 1; omega)
      | succ k =>
        have hz2 : (l ++ [y % 128 + 128]) ++ putN k (y / 128) = z := by have h3 := hz.out; rw [putN_great k hlt] at h3; rw [List.append_assoc]; exact h3
        have hy3 : y / 128 < 128 ^ (k + 1) := by have h3 := hy2.out; rw [pow_128] at h3; omega
        have HY := Aside0.mk (And.intro hz2 hy3)
        clear hz2 hy3 hqq
        go_wp2_with (first | ((with_reducible refine gate_builtin (b := .append) (xs := #[.tmp 7, .tmp 11]) rfl ?_); at_builtin; go_loud (refine Kd.R_append (Kd.int .u8) (w0 := w) w.heap.size rfl (.tmp 7) (.tmp 11) 25 5 (.int .u8 0) 1 rfl Tryd.underlying25 info_u8w rfl (by decide) (by decide) (.slice A l.length c) l (y % 128 + 128) [.int .u8 (y % 128 + 128)] (fun _ => True) (fun _ => False) rfl rfl rfl (fun _ hk => hk.elim) (fun _ _ => trivial) hr.out hb.out (below_size hb.out) (by omega) ?_; intro v1 w1 ho1 hb1 hg1 hat1; obtain ⟨vB, vd, rfl, _, _⟩ := Kd.R_reads ho1; have HO := Aside0.mk (And.intro ho1 hb1); clear ho1 hb1 hg1 hat1)))
        go_roundg k
        case measure => omega
        case rel => exact ⟨y / 128, vB, vd, l ++ [y % 128 + 128], by go_num, by simp, by omega, by omega, by omega, by simp; omega, ⟨HY.out.2⟩, ⟨HY.out.1⟩, ⟨HO.out.1⟩, ⟨HO.out.2⟩⟩
theorem wuint_nil (x : Int) (h0 : 0 ≤ x) (h1 : x < 18446744073709551616) : Calls Tryd.prog 17 #[.pointer none, .int .u64 x] w fun e w' => e = .returned (.tuple #[]) ∧ Below w.heap.size w w' := by
  refine wuint_gen none x h0 h1 (fun w' => Below w.heap.size w w') ?_
  intro W A c hb _
  refine (wfixed_nil _).mono ?_
  rintro e w' ⟨rfl, rfl⟩
  exact ⟨rfl, hb⟩
theorem putNum_byt {x : Int} (h0 : 0 ≤ x) (h1 : x < 18446744073709551616) : Byt (putNum x) := by
  refine putN_byt 9 x h0 ?_
  have : (128 : Int) ^ (9 + 1) = 1180591620717411303424 := by decide
  omega
theorem putNum_len (x : Int) : (putNum x).length ≤ 10 ∧ 1 ≤ (putNum x).length := putN_len 9 x
/-- What a writer's call leaves. -/
def Wrote (w0 w : World) (base : Nat) (F : Nat → Prop) (g : Nat) (zs : List Int) (e : Ending) (w' : World) : Prop := e = .returned (.tuple #[]) ∧ WrAt w' base (Or F w) g zs ∧ Below w0.heap.size w0 w' ∧ Kept w w' F
theorem Or.trans {w w1 : World} (hs : w.heap.size ≤ w1.heap.size) : ∀ k, Or F w1 k → Or F w k := fun k hk => by
  rcases hk with h | h
  · exact .inl h
  · exact .inr (by omega)
theorem Or.twice {w w1 : World} (hs : w.heap.size ≤ w1.heap.size) : ∀ k, Or (Or F w) w1 k → Or F w k := fun k hk => by
  rcases hk with h | h
  · exact h
  · exact .inr (by omega)
theorem wuint_calls {w0 : World} (hB : Below w0.heap.size w0 w) (hb0 : w0.heap.size ≤ base) (hd : WrAt w base F g xs) (x : Int) (h0 : 0 ≤ x) (h1 : x < 18446744073709551616) (hl : xs.length + 10 < 140737488355328) :
    Calls Tryd.prog 17 #[.pointer (some ⟨g, 0, none⟩), .int .u64 x] w (Wrote w0 w base F g (xs ++ putNum x)) := by
  refine (wuint_gen (some ⟨g, 0, none⟩) x h0 h1 (fun w' => WrAt w' base (Or F w) g (xs ++ putNum x) ∧ Below w0.heap.size w0 w' ∧ Kept w w' F) ?_)
  intro W A c hb hv
  have := (putNum_len x).1
  refine (wfixed_calls (below_step hB hb) hb0 (hd.below hb) A _ c rfl (Kd.R_reads' hv).2.2 (by omega) (putNum_byt h0 h1)).mono ?_
  rintro e w' ⟨rfl, h2, h3, h4⟩
  exact ⟨rfl, h2.mono (Or.trans hb.size), h3, (Kept.of_below hb F).then_ h4 (fun k h => .inl h)⟩
theorem wbytes_nil (A : Option Addr) (n c : Nat) (hn : n ≤ 9223372036854775807) : Calls Tryd.prog 19 #[.pointer none, .slice A n c] w fun e w' => e = .returned (.tuple #[]) ∧ Below w.heap.size w w' := by
  have hw : IntKind.u64.wrap (n : Int) = n := wraps_u64 _ (by omega) (by omega)
  go_enter Tryd.func19, Tryd.ntmps19
  go_wp2_with (first | (go_at_call 17; go_loud (refine (wuint_nil (n : Int) (by omega) (by omega)).mono ?_; rintro e w1 ⟨rfl, hb⟩; have HB := Aside0.mk hb; clear hb)) | (go_at_call 18; refine (wfixed_nil _).mono ?_; rintro e w2 ⟨rfl, rfl⟩))
  go_end0
  exact ⟨rfl, HB.out⟩
theorem wbytes_calls {w0 : World} (hB : Below w0.heap.size w0 w) (hb0 : w0.heap.size ≤ base) (hd : WrAt w base F g xs) (A : Option Addr) (n c : Nat) (hn : n = ys.length) (hr : Kd.C (Kd.int .u8) w A ys.length ys) (hA : ∀ ad, A = some ad → ¬ F ad.block) (hl : xs.length + ys.length + 10 < 140737488355328) (hy : Byt ys) :
    Calls Tryd.prog 19 #[.pointer (some ⟨g, 0, none⟩), .slice A n c] w (Wrote w0 w base F g (xs ++ putNum ys.length ++ ys)) := by
  have hw : IntKind.u64.wrap (n : Int) = n := wraps_u64 _ (by omega) (by omega)
  have h1 := Aside0.mk (wuint_calls hB hb0 hd (n : Int) (by omega) (by omega) (by omega))
  have HX := Aside0.mk (And.intro hn (And.intro hr (And.intro hA (And.intro hl (And.intro hy hb0)))))
  clear hB hb0 hd hn hr hA hl hy
  go_enter Tryd.func19, Tryd.ntmps19
  go_wp2_with (first | (go_at_call 17; go_loud (refine h1.out.mono ?_; rintro e w1 ⟨rfl, hd1, hb1, hk1⟩; have HX1 := Aside0.mk (And.intro hd1 (And.intro hb1 hk1)); clear hd1 hb1 hk1)) | (go_at_call 18; go_loud (obtain ⟨hn, hr, hA, hl, hy, hb0⟩ := HX.out; refine (wfixed_calls HX1.out.2.1 hb0 HX1.out.1 A n c hn (C_kept hr HX1.out.2.2 hA) (by rw [List.length_append]; have := (putNum_len (n : Int)).1; omega) hy).mono ?_; rintro e w2 ⟨rfl, hd2, hb2, hk2⟩; have HX2 := Aside0.mk (And.intro hd2 (And.intro hb2 hk2)); clear hd2 hb2 hk2 hn hr hA hl hy hb0)))
  go_end0
  obtain ⟨h2, h3, h4⟩ := HX2.out
  have hs := HX1.out.2.2.1
  rw [show (n : Int) = (ys.length : Int) by rw [HX.out.1]] at h2
  exact ⟨rfl, h2.mono (Or.twice hs), h3, HX1.out.2.2.then_ h4 (fun k hk => by rcases hk with h | h; exact .inl h; exact .inr h)⟩
theorem one_reads (w : World) (x : Int) : Kd.C (Kd.int .u8) (w.alloc (.cells #[.int .u8 x] 5)) (some ⟨w.heap.size, 0, none⟩) [x].length [x] := by
  have h : (w.alloc (.cells #[.int .u8 x] 5)).heap[w.heap.size]? = some (.cells #[.int .u8 x] 5 (0, 0)) := by simpa using heap_alloc_new w _
  refine Kd.C_of_reads (d := (0 : Int)) (h1 := fun _ => rfl) ⟨rfl, by simp, fun _ => ⟨_, rfl, fun j hj => ?_⟩⟩
  obtain rfl : j = 0 := by simpa using hj
  have ha : (⟨w.heap.size, 0, none⟩ : Addr).add 0 = ⟨w.heap.size, 0, none⟩ := by unfold Addr.add; split <;> simp_all
  rw [ha, blk_cell h]
  rfl
def bit (b : Bool) : Int := if b then 1 else 0
theorem wout_nil : Calls Tryd.prog 20 #[.pointer none] w fun e w' => e = .returned (.slice none 0 0) ∧ w = w' := by
  go_enter Tryd.func20, Tryd.ntmps20
  go_wp2
  go_ret
  exact ⟨rfl, rfl⟩
theorem wout_calls (hd : WrAt w base F g xs) : Calls Tryd.prog 20 #[.pointer (some ⟨g, 0, none⟩)] w fun e w' => ∃ v, e = .returned v ∧ Kd.R (Kd.int .u8) 5 w' w.heap.size (fun _ => True) v xs ∧ Below w.heap.size w w' := by
  obtain ⟨v, h1, h2, h3, h4, h5, h6⟩ := hd
  obtain ⟨vA, vc, rfl, hc, hC⟩ := Kd.R_reads h4
  have c0 : w.cell? ⟨g, 0, none⟩ = some (Value.slice vA xs.length vc) := (blk_cell h3 0).trans rfl
  have H := Aside0.mk (clone_calls vA vc xs w hC hc h5)
  clear h1 h2 h3 h4 h5 h6 hc hC
  go_enter Tryd.func20, Tryd.ntmps20
  go_wp2_with (first | (go_at_call 42; go_loud (refine H.out.mono ?_; rintro e w1 ⟨v, rfl, hv, hb, _⟩; obtain ⟨A', c', rfl, _, _⟩ := Kd.R_reads hv; have HV := Aside0.mk (And.intro hv hb); clear hv hb)))
  go_ret
  exact ⟨_, rfl, HV.out⟩
end
end Go.Proofs.YtlcanfniphdelaaDoor.Cod
