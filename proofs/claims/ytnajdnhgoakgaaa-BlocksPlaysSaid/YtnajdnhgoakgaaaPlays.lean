/- The law BlocksPlays. -/
import Derived.Test.YtnajdnhgoakgaaaBox
namespace Go.Proofs.Ytnajdnhgoakgaaa.Blk
open Go.RowKit Go.Proofs.YtnajdnhgoakgaaaW.PrintWords Go.Proofs.YtnajdnhgoakgaaaW.PrintLast Go.Proofs.YtnajdnhgoakgaaaW.PrintMore Go.Proofs.Ytnajdnhgoakgaaa.Mem Go.Proofs.Ytnajdnhgoakgaaa.Open
set_option linter.unusedVariables false
set_option linter.unusedSimpArgs false
set_option maxRecDepth 8000
set_option maxHeartbeats 4000000
section
variable {w : World}
def ActBox (w : World) (b : Nat) (q : A6) : Prop := w.heap[b]? = some (.cells #[.int .i64 q.k, .int .i64 q.i, .int .u8 q.s, .int .u8 q.l, .int .i64 q.n, .int .i64 q.t] 34 (0, 0))
theorem ActBox.cells {w : World} {b : Nat} {q : A6} (h : ActBox w b q) : w.cell? ⟨b, 0, none⟩ = some (.int .i64 q.k) ∧ w.cell? ⟨b, 1, none⟩ = some (.int .i64 q.i) ∧ w.cell? ⟨b, 2, none⟩ = some (.int .u8 q.s) ∧ w.cell? ⟨b, 3, none⟩ = some (.int .u8 q.l) ∧ w.cell? ⟨b, 4, none⟩ = some (.int .i64 q.n) ∧ w.cell? ⟨b, 5, none⟩ = some (.int .i64 q.t) :=
  ⟨(blk_cell h 0).trans rfl, (blk_cell h 1).trans rfl, (blk_cell h 2).trans rfl, (blk_cell h 3).trans rfl, (blk_cell h 4).trans rfl, (blk_cell h 5).trans rfl⟩
theorem ActBox.below {w w' : World} {b : Nat} {q : A6} (h : ActBox w b q) (hb : Below w.heap.size w w') : ActBox w' b q := (hb.block _ (blk_lt h)).trans h
/-- In the midst of a round: the disk is D, the document's still E. -/
structure St (w W : World) (g gw ba : Nat) (D E : DM) (q : A6) (F P : Nat → Prop) (A : Option Addr) (c : Nat) : Prop where
  d : DiskAt W F g D
  f : ∀ k, F k → w.heap.size ≤ k ∧ k < ba
  b : BoxAt W gw (.slice A E.L.length c) E
  r : Kd.R Kd.string 9 W w.heap.size P (.slice A E.L.length c) E.L
  p : ∀ k, P k → k < ba ∧ ¬ F k
  fg : ¬ F gw
  pg : ¬ P gw
  gl : w.heap.size ≤ gw
  gb : gw < ba
  w0 : Below w.heap.size w W
  a : ActBox W ba q
section
variable {w wr W W' W1 W2 : World} {g gw ba : Nat} {D D' E E' : DM} {q : A6} {F P : Nat → Prop} {A A' : Option Addr} {c c' : Nat}
theorem St.start (h : PlI w wr g gw D) (hb : Below wr.heap.size wr W) (ha : ActBox W wr.heap.size q) : ∃ F P A c, St w W g gw wr.heap.size D D q F P A c := by
  obtain ⟨F, P, A, c, h1, h2, h3, h4, h5, h6, h7, h8, h9⟩ := h
  exact ⟨F, P, A, c, h1.below hb, h2, h3.below hb, Kd.R_below h4 hb, h5, h6, h7, h8, blk_lt h3, below_step h9 hb, ha⟩
theorem St.below (h : St w W g gw ba D E q F P A c) (hb : Below W.heap.size W W') : St w W' g gw ba D E q F P A c :=
  ⟨h.d.below hb, h.f, h.b.below hb, Kd.R_below h.r hb, h.p, h.fg, h.pg, h.gl, h.gb, below_step h.w0 hb, h.a.below hb⟩
theorem St.fw (h : St w W g gw ba D E q F P A c) : ∀ k, F k → w.heap.size ≤ k := fun k hk => (h.f k hk).1
theorem St.disk (h : St w W g gw ba D E q F P A c) (hk : Kept W W' F) (hd : DiskAt W' F g D') (hb : Below w.heap.size w W') : St w W' g gw ba D' E q F P A c :=
  ⟨hd, h.f, h.b.kept hk h.fg, Kd.R_kept h.r hk (fun k h1 => (h.p k h1).2), h.p, h.fg, h.pg, h.gl, h.gb, hb, blk_kept h.a hk (fun e => by have := (h.f _ e).2; omega)⟩
theorem St.pl (h : St w W g gw ba D D q F P A c) : PlI w W g gw D := by
  have hba := blk_lt h.a
  exact ⟨F, P, A, c, h.d, fun k hk => ⟨(h.f k hk).1, by have := (h.f k hk).2; omega⟩, h.b, h.r, fun k hk => ⟨by have := (h.p k hk).1; omega, (h.p k hk).2⟩, h.fg, h.pg, h.gl, h.w0⟩
/-- The document's answer stands in its variable. -/
theorem St.done (h : St w W g gw ba D' E q F P A c) (hk1 : Kept W W1 P) (hr : Kd.R Kd.string 9 W1 w.heap.size (fun k => P k ∨ W.heap.size ≤ k) (.slice A' D'.L.length c') D'.L) (hk : Kept W1 W2 (fun k => k = gw)) (hb : BoxAt W2 gw (.slice A' D'.L.length c') D') (hB : Below w.heap.size w W2) :
    PlI w W2 g gw D' ∧ DiskAt W2 F g D' ∧ Kd.C Kd.string W2 A' D'.L.length D'.L ∧ D'.L.length ≤ c' := by
  have hba := blk_lt h.a
  have hgb := h.gb
  have hd1 : DiskAt W1 F g D' := h.d.kept hk1 (fun k h1 h2 => (h.p k h2).2 h1)
  have hng : ¬ (P gw ∨ W.heap.size ≤ gw) := fun e => by rcases e with e | e; exact h.pg e; omega
  refine ⟨pl_done hd1 (fun k hf => ⟨(h.f k hf).1, by have := (h.f k hf).2; have := hk1.1; omega⟩) hr (fun k hp hf => by rcases hp with e | e; exact (h.p k e).2 hf; have := (h.f k hf).2; omega) h.fg hng h.gl hk hb hB, hd1.kept hk (fun k h1 e => h.fg (by rw [← e]; exact h1)), ?_⟩
  have hr2 := Kd.R_reads' (Kd.R_kept hr hk (fun k h1 e => hng (by rw [← e]; exact h1)))
  exact ⟨hr2.2.2, hr2.2.1⟩
end
section
variable {ops : Array Oper} {rest : List Oper} {o : Oper} {a : Act} {Q : Exit → Act → World → Prop} {W : World}
theorem act_new (hgd : o.guard = none) (hrun : (execOp a.eval o).run Try.prog W = .ok (.value (.pointer (some ⟨W.heap.size, 0, none⟩))) (W.alloc (.cells #[.int .i64 0, .int .i64 0, .int .u8 0, .int .u8 0, .int .i64 0, .int .i64 0] 34)))
    (h : ∀ W', ActBox W' W.heap.size A6.none → Below W.heap.size W W' → wpList Try.prog ops Q rest (a.put o.dst (.pointer (some ⟨W.heap.size, 0, none⟩))) W') : wpList Try.prog ops Q (o :: rest) a W :=
  Kd.event_run hgd hrun (h _ (blk_new W _) (below_alloc (Below.refl _ _) _))
theorem act_put {q q0 : A6} (hgd : o.guard = none) (x y : Operand) (ho : o.op = .store 34 x y) {g : Nat} (hx : a.eval x = .pointer (some ⟨g, 0, none⟩)) (hy : a.eval y = .agg #[.int .i64 q.k, .int .i64 q.i, .int .u8 q.s, .int .u8 q.l, .int .i64 q.n, .int .i64 q.t]) (hb : ActBox W g q0)
    (h : ∀ W', ActBox W' g q → (∀ (B : Nat) (w0 : World), B ≤ g → Below B w0 W → Below B w0 W') → wpList Try.prog ops Q rest (a.put o.dst undef) W') : wpList Try.prog ops Q (o :: rest) a W :=
  wpList_store_row hgd 34 x y ho g #[.int .i64 q.k, .int .i64 q.i, .int .u8 q.s, .int .u8 q.l, .int .i64 q.n, .int .i64 q.t] hx hy 34 _ hb (by kernel_rfl) rfl (by simp [Value.oneCell'])
    (h _ (setRow_heap W g _ _ _ _ hb) (fun B w0 hB h => below_setRow h hB _))
end
theorem plays_law (n : Int) (hn : I64 n) (A : Option Addr) (m c : Nat) (l : List A6) (hm : m = l.length) (hp : ActsAt w A l) (hok : ∀ q ∈ l, q.Ok) :
    Calls Try.prog 3 #[.int .i64 n, .slice A m c] w fun e w' => e = .returned (.bool true) ∧ Below w.heap.size w w' := by
  have n0 : -9223372036854775808 ≤ n := hn.1
  have n1 : n ≤ 9223372036854775807 := hn.2
  have hmm : m ≤ 9223372036854775807 := by rw [hm]; exact hp.1
  have HP := Aside0.mk (And.intro hm (And.intro hp hok))
  clear hm hp hok hn
  by_cases h1 : n > 50 ∧ n ≤ 65536
  · have d1 : decide (50 < n) = true := decide_eq_true (by omega)
    have d2 : decide (n ≤ 65536) = true := decide_eq_true (by omega)
    clear h1
    go_enter Try.func3, Try.ntmps3
    go_wp2_with (go_at_call 13; go_loud (refine (awake_calls w).mono ?_; rintro e w1 ⟨rfl, hb1⟩; have HB1 := Aside0.mk hb1; clear hb1))
    go_ret
    exact ⟨rfl, HB1.out⟩
  · by_cases h2 : n < 1 ∨ 65536 < n
    · have HN := Aside0.mk h2
      have q1 : ((1 : Int) != 1) = false := by decide
      have hor : (50 < n ∧ n ≤ 65536) = False := eq_false (by omega)
      by_cases h3 : 50 < n
      · have d1 : decide (50 < n) = true := decide_eq_true h3
        have d2 : decide (n ≤ 65536) = false := decide_eq_false (by omega)
        clear h1 h2 h3
        go_enter Try.func3, Try.ntmps3
        go_wp2_with (first
          | (go_at_call 13; go_loud (refine (awake_calls w).mono ?_; rintro e w1 ⟨rfl, hb1⟩; have HB1 := Aside0.mk hb1; clear hb1))
          | (go_at_call 14; go_loud (have hx := new_no (w := w1) n HN.out; refine hx.mono ?_; clear hx; rintro e w2 ⟨rfl, rfl⟩))
          | (go_at_call 15; go_loud (have hx := r_new_no (w := w1) n HN.out; refine hx.mono ?_; clear hx; rintro e w3 ⟨v3, rfl, hv3, hb3⟩; obtain ⟨A3, c3, rfl, _, _⟩ := Kd.R_reads hv3; have HB3 := Aside0.mk (below_step HB1.out hb3); clear hv3 hb3))
          | ((with_reducible refine gate_dst (N := 8) rfl ?_); refine box_new rfl ?hr ?_; (case hr => first | (go_simp; done) | (go_simp; rfl)); go_loud (intro w4 hx4 hb4 hs4; have H4 := Aside0.mk (And.intro hx4 (And.intro hb4 hs4)); clear hx4 hb4 hs4))
          | ((with_reducible refine gate_store (ty := 30) (x := .tmp 8) (y := .tmp 38) rfl ?_); refine box_put rfl (.tmp 8) (.tmp 38) rfl rfl rfl H4.out.1 ?_; go_loud (intro w5 hx5 hk5 hb5 hs5; have H5 := Aside0.mk (hb5 _ _ HB3.out.size (below_step HB3.out H4.out.2.1)); clear hx5 hk5 hb5 hs5)))
        go_loopg [10] 0 (fun q v10 wr => v10 = .int .i64 0 ∧ Aside0 (Below w.heap.size w wr))
        case atStart => exact ⟨rfl, H5⟩
        case round =>
          clear H5
          obtain ⟨rfl, hI⟩ := hrel
          by_cases hm0 : 0 < m
          · have d3 : decide ((0 : Int) < (m : Int)) = true := decide_eq_true (by omega)
            have d3n : decide (0 < m) = true := decide_eq_true (by omega)
            go_wp2
            go_ret
            exact ⟨rfl, hI.out⟩
          · have d3 : decide ((0 : Int) < (m : Int)) = false := decide_eq_false (by omega)
            have d3n : decide (0 < m) = false := decide_eq_false (by omega)
            go_wp2
            go_ret
            exact ⟨rfl, hI.out⟩
      · have d1 : decide (50 < n) = false := decide_eq_false h3
        clear h1 h2 h3
        go_enter Try.func3, Try.ntmps3
        go_wp2_with (first
          | (go_at_call 13; go_loud (refine (awake_calls w).mono ?_; rintro e w1 ⟨rfl, hb1⟩; have HB1 := Aside0.mk hb1; clear hb1))
          | (go_at_call 14; go_loud (have hx := new_no (w := w1) n HN.out; refine hx.mono ?_; clear hx; rintro e w2 ⟨rfl, rfl⟩))
          | (go_at_call 15; go_loud (have hx := r_new_no (w := w1) n HN.out; refine hx.mono ?_; clear hx; rintro e w3 ⟨v3, rfl, hv3, hb3⟩; obtain ⟨A3, c3, rfl, _, _⟩ := Kd.R_reads hv3; have HB3 := Aside0.mk (below_step HB1.out hb3); clear hv3 hb3))
          | ((with_reducible refine gate_dst (N := 8) rfl ?_); refine box_new rfl ?hr ?_; (case hr => first | (go_simp; done) | (go_simp; rfl)); go_loud (intro w4 hx4 hb4 hs4; have H4 := Aside0.mk (And.intro hx4 (And.intro hb4 hs4)); clear hx4 hb4 hs4))
          | ((with_reducible refine gate_store (ty := 30) (x := .tmp 8) (y := .tmp 38) rfl ?_); refine box_put rfl (.tmp 8) (.tmp 38) rfl rfl rfl H4.out.1 ?_; go_loud (intro w5 hx5 hk5 hb5 hs5; have H5 := Aside0.mk (hb5 _ _ HB3.out.size (below_step HB3.out H4.out.2.1)); clear hx5 hk5 hb5 hs5)))
        go_loopg [10] 0 (fun q v10 wr => v10 = .int .i64 0 ∧ Aside0 (Below w.heap.size w wr))
        case atStart => exact ⟨rfl, H5⟩
        case round =>
          clear H5
          obtain ⟨rfl, hI⟩ := hrel
          by_cases hm0 : 0 < m
          · have d3 : decide ((0 : Int) < (m : Int)) = true := decide_eq_true (by omega)
            have d3n : decide (0 < m) = true := decide_eq_true (by omega)
            go_wp2
            go_ret
            exact ⟨rfl, hI.out⟩
          · have d3 : decide ((0 : Int) < (m : Int)) = false := decide_eq_false (by omega)
            have d3n : decide (0 < m) = false := decide_eq_false (by omega)
            go_wp2
            go_ret
            exact ⟨rfl, hI.out⟩
    · obtain ⟨N, rfl⟩ : ∃ N : Nat, n = N := ⟨n.toNat, by omega⟩
      have h50 : N ≤ 50 := by omega
      have HN : Aside0 (1 ≤ N ∧ N ≤ 65536) := ⟨by omega, by omega⟩
      have d1 : decide (50 < (N : Int)) = false := decide_eq_false (by omega)
      have d1n : decide (50 < N) = false := decide_eq_false (by omega)
      clear h1 h2 n0 n1
      go_enter Try.func3, Try.ntmps3
      go_wp2_with (first
        | (go_at_call 13; go_loud (refine (awake_calls w).mono ?_; rintro e w1 ⟨rfl, hb1⟩; have HB1 := Aside0.mk hb1; clear hb1))
        | (go_at_call 14; go_loud (have hx := new_calls (w := w1) N HN.out.1 HN.out.2; refine hx.mono ?_; clear hx; rintro e w2 ⟨g, rfl, hd2, hb2⟩; have H2 := Aside0.mk (And.intro hd2 hb2); clear hd2 hb2))
        | (go_at_call 15; go_loud (have hx := r_new (w := w2) N HN.out.1 HN.out.2; refine hx.mono ?_; clear hx; rintro e w3 ⟨v3, rfl, hv3, hb3⟩; obtain ⟨A3, c3, rfl, _, _⟩ := Kd.R_reads hv3; have H3 := Aside0.mk (And.intro hv3 hb3); have HB3 := Aside0.mk (below_step (below_step HB1.out H2.out.2) hb3); clear hv3 hb3))
        | ((with_reducible refine gate_dst (N := 8) rfl ?_); refine box_new rfl ?hr ?_; (case hr => first | (go_simp; done) | (go_simp; rfl)); go_loud (intro w4 hx4 hb4 hs4; have H4 := Aside0.mk (And.intro hx4 (And.intro hb4 hs4)); clear hx4 hb4 hs4))
        | ((with_reducible refine gate_store (ty := 30) (x := .tmp 8) (y := .tmp 38) rfl ?_); refine box_put rfl (.tmp 8) (.tmp 38) rfl rfl rfl H4.out.1 ?_; go_loud (intro w5 hx5 hk5 hb5 hs5; have H5 := Aside0.mk (And.intro hx5 (And.intro hk5 (And.intro (hb5 _ _ HB3.out.size (below_step HB3.out H4.out.2.1)) hs5))); clear hx5 hk5 hb5 hs5)))
      obtain ⟨gw, hgw⟩ : ∃ gw, gw = w3.heap.size := ⟨_, rfl⟩
      have HI0 : Aside0 (PlI w w5 g gw ⟨List.replicate N zero128, -1, 0, false⟩) := ⟨by
        obtain ⟨hd2, hb2⟩ := H2.out
        obtain ⟨hr3, hb3⟩ := H3.out
        obtain ⟨hx4, hb4, hs4⟩ := H4.out
        obtain ⟨hx5, hk5, hb5, hs5⟩ := H5.out
        have s1 := HB1.out.size
        have s2 := hb2.size
        have s3 := hb3.size
        have hd4 := ((hd2.cut (b := w1.heap.size) (fun k h => h)).below hb3).below hb4
        have hr4 := Kd.R_below (Kd.R_lower (Kd.R_bound hr3) (Nat.le_trans s1 s2)) hb4
        rw [hgw]
        exact pl_done (P := fun k => w2.heap.size ≤ k ∧ k < w3.heap.size) hd4 (fun k h => ⟨Nat.le_trans s1 h.2.1, by have := h.2.2; have := hb4.size; omega⟩) (Kd.R_mono hr4 (fun k h => ⟨h.2.1, h.2.2.1⟩)) (fun k h1 h2 => by have := h2.2.2; omega) (fun h => by have := h.2.2; omega) (fun h => by have := h.2; omega) (by omega) hk5 (by simpa using hx5) hb5⟩
      rw [← hgw]
      clear H2 H3 H4 H5 HB3 hgw
      go_loopg [10] m (fun q v10 wr => ∃ (i : Nat) (D : DM), v10 = .int .i64 i ∧ q + i = m ∧ Aside0 (PlI w wr g gw D))
      case atStart => exact ⟨0, _, rfl, by omega, HI0⟩
      case round =>
        clear HI0
        obtain ⟨i, D, rfl, hq, hI⟩ := hrel
        by_cases hlt : i < m ∧ i < 30
        · obtain ⟨hlt, h30⟩ := hlt
          have d2 : decide ((i : Int) < (m : Int)) = true := decide_eq_true (by omega)
          have d2n : decide (i < m) = true := decide_eq_true (by omega)
          have d3 : decide ((i : Int) < 30) = true := decide_eq_true (by omega)
          have hil : i < l.length := by have := HP.out.1; omega
          obtain ⟨ad, rfl, hat⟩ := HP.out.2.1.2 i hil
          obtain ⟨q, hqq⟩ : ∃ q, q = l.getD i A6.none := ⟨_, rfl⟩
          have hqo : q.Ok := HP.out.2.2 q (by rw [hqq, List.getD_eq_getElem?_getD, List.getElem?_eq_getElem hil]; exact List.getElem_mem hil)
          rw [← hqq] at hat
          have hbw : Below w.heap.size w wr := by obtain ⟨_, _, _, _, _, _, _, _, _, _, _, _, h⟩ := hI.out; exact h
          have hat2 := hat.below hbw
          obtain ⟨qk, qi, qs, ql, qn, qt⟩ := q
          obtain ⟨c0, c1, c2, c3, c4, c5⟩ := hat2
          dsimp only at c0 c1 c2 c3 c4 c5
          have e1 : wr.cell? ⟨(ad.add (i * 6)).block, (ad.add (i * 6)).off + 1, none⟩ = some (.int .i64 qi) := (show wr.cell? ((ad.add (i * 6)).add 1) = _ by rw [Go.Deep.add_add]; exact c1)
          have e2 : wr.cell? ⟨(ad.add (i * 6)).block, (ad.add (i * 6)).off + 2, none⟩ = some (.int .u8 qs) := (show wr.cell? ((ad.add (i * 6)).add 2) = _ by rw [Go.Deep.add_add]; exact c2)
          have e3 : wr.cell? ⟨(ad.add (i * 6)).block, (ad.add (i * 6)).off + 3, none⟩ = some (.int .u8 ql) := (show wr.cell? ((ad.add (i * 6)).add 3) = _ by rw [Go.Deep.add_add]; exact c3)
          have e4 : wr.cell? ⟨(ad.add (i * 6)).block, (ad.add (i * 6)).off + 4, none⟩ = some (.int .i64 qn) := (show wr.cell? ((ad.add (i * 6)).add 4) = _ by rw [Go.Deep.add_add]; exact c4)
          have e5 : wr.cell? ⟨(ad.add (i * 6)).block, (ad.add (i * 6)).off + 5, none⟩ = some (.int .i64 qt) := (show wr.cell? ((ad.add (i * 6)).add 5) = _ by rw [Go.Deep.add_add]; exact c5)
          obtain ⟨o0, o1, o2, o3, o4, o5⟩ := hqo
          dsimp only at o0 o1 o2 o3 o4 o5
          have HO := Aside0.mk (And.intro o0 (And.intro o1 (And.intro o2 (And.intro o3 (And.intro o4 o5)))))
          clear hat hqq hil hbw c1 c2 c3 c4 c5 o0 o1 o2 o3 o4 o5
          obtain ⟨q7, hq7⟩ : ∃ q7, q7 = bits .and .i64 qk 7 := ⟨_, rfl⟩
          have hqe : bits .and .i64 qk 7 = q7 := hq7.symm
          clear hq7
          go_upto_region 14 with (first
            | ((with_reducible refine gate_dst (N := 11) rfl ?_); refine act_new rfl ?hr ?_; (case hr => first | (go_simp; done) | (go_simp; rfl)); go_loud (intro w6 hx6 hb6; have H6 := Aside0.mk (And.intro hx6 hb6); clear hx6 hb6))
            | ((with_reducible refine gate_store (ty := 34) (x := .tmp 11) (y := .tmp 67) rfl ?_); refine act_put (q := ⟨qk, qi, qs, ql, qn, qt⟩) rfl (.tmp 11) (.tmp 67) rfl rfl rfl H6.out.1 ?_; go_loud (intro w7 hx7 hb7; have H7 := Aside0.mk (And.intro hx7 (hb7 _ _ (Nat.le_refl _) H6.out.2)); clear hx7 hb7)))
          obtain ⟨F, P, Av, cv, hst⟩ := St.start hI.out H7.out.2 H7.out.1
          obtain ⟨ba, hba⟩ : ∃ ba, ba = wr.heap.size := ⟨_, rfl⟩
          rw [← hba] at hst ⊢
          have HS := Aside0.mk hst
          obtain ⟨a0, a1, a2, a3, a4, a5⟩ := hst.a.cells
          clear hst hI H6 H7 hba c0 e1 e2 e3 e4 e5
          by_cases h03 : q7 = 0 ∨ q7 = 1 ∨ q7 = 2 ∨ q7 = 3
          · have hOK : D.Ok := by obtain ⟨_, _, _, _, _, h⟩ := HS.out.d; exact h
            have HOK := Aside0.mk hOK
            clear hOK
            have l0 : 0 ≤ ql := HO.out.2.2.2.1.1
            have l1 : ql ≤ 255 := HO.out.2.2.2.1.2
            obtain ⟨ln, rfl⟩ : ∃ ln : Nat, ql = ln := ⟨ql.toNat, by omega⟩
            have hw1 : wrap64 (ln : Int) = ln := IntWalk.wrap64_in _ ⟨by omega, by omega⟩
            by_cases hl30 : ln < 30
            · have k1 : decide ((ln : Int) < 30) = true := decide_eq_true (by omega)
              have k1n : decide (ln < 30) = true := decide_eq_true (by omega)
              rcases h03 with rfl | rfl | rfl | rfl
              all_goals
                obtain ⟨X, hX⟩ : ∃ X, X = fill qs ln := ⟨_, rfl⟩
                obtain ⟨D', hD'⟩ : ∃ D', D' = (D.write qi X).1 := ⟨_, rfl⟩
                obtain ⟨y, hy⟩ : ∃ y, y = (D.write qi X).2 := ⟨_, rfl⟩
                have y2 : (y != y) = false := by simp
                have HYY := Aside0.mk (And.intro hX (And.intro hD' hy))
                have HFL : Aside0 (∀ V : World, Calls Try.prog 16 #[.int .u8 qs, .int .i64 (ln : Int)] V fun e w' => ∃ v : Value, e = .returned v ∧ Kd.R (Kd.int .u8) 5 w' V.heap.size (fun _ => True) v (bytesOf X) ∧ Below V.heap.size V w') := ⟨fun V => by rw [hX]; exact filled_calls qs ln (by omega) V⟩
                clear hX hD' hy
                go_wp2_with (first
                  | (go_at_call 16; go_loud (refine (HFL.out w7).mono ?_; rintro e w8 ⟨v8, rfl, hv8, hb8⟩; obtain ⟨A8, c8, rfl, _, _⟩ := Kd.R_reads hv8; have hs8 := HS.out.below hb8; obtain ⟨_, b1, _, _, _, _⟩ := hs8.a.cells; have HS8 := Aside0.mk hs8; have HV8 := Aside0.mk hv8; clear hv8 hs8 hb8))
                  | (go_at_call 17; go_loud (have hbw7 := blk_lt HS.out.a; have hvb := Kd.R_bound HV8.out; have hap : ∀ k, (True ∧ w7.heap.size ≤ k ∧ k < w8.heap.size ∧ ∃ q, q ∈ 5 :: (Kd.int IntKind.u8).E ∧ ∃ cells, w8.heap[k]? = some (.cells cells q (0, 0))) → ¬ F k := (fun k h hf => by have h1 := h.2.1; have h2 := (HS.out.f k hf).2; omega); have hx := write_own HS8.out.w0 HS8.out.fw HS8.out.d qi hvb hap; rw [← HYY.out.2.1, ← HYY.out.2.2] at hx; refine hx.mono ?_; clear hx; rintro e w9 ⟨rfl, hd9, hb9, hk9⟩; have hs9 := HS8.out.disk hk9 hd9 hb9; obtain ⟨_, d1, _, _, _, _⟩ := hs9.a.cells; have hv9 := Kd.R_reads' (Kd.R_kept hvb hk9 hap); have hcv := conv_str (c := c8) rfl hv9.2.2 (Below.refl w9.heap.size w9); have HS9 := Aside0.mk hs9; clear hbw7 hvb hap hd9 hb9 hk9 hs9 hv9))
                  | ((with_reducible refine gate_dst (N := 96) rfl ?_); refine box_load rfl (.tmp 8) rfl rfl HS9.out.b ?_)
                  | (go_at_call 18; go_loud (have hx := r_write HS9.out.w0 HS9.out.r HOK.out qi X; rw [← HYY.out.2.1, ← HYY.out.2.2] at hx; refine hx.mono ?_; clear hx hcv; rintro e w10 ⟨v10, rfl, hr10, hb10, hk10⟩; obtain ⟨A10, c10, rfl, _, _⟩ := Kd.R_reads hr10; have H10 := Aside0.mk (And.intro hr10 (And.intro hb10 hk10)); clear hr10 hb10 hk10))
                  | ((with_reducible refine gate_dst (N := 15) rfl ?_); refine box_new rfl ?hr ?_; (case hr => first | (go_simp; done) | (go_simp; rfl)); go_loud (intro w11 hx11 hb11 hs11; have H11 := Aside0.mk (And.intro hx11 (And.intro hb11 hs11)); clear hx11 hb11 hs11))
                  | ((with_reducible refine gate_store (ty := 30) (x := .tmp 15) (y := .tmp 102) rfl ?_); refine box_put rfl (.tmp 15) (.tmp 102) rfl rfl rfl H11.out.1 ?_; go_loud (intro w12 hx12 hk12 hb12 hs12; have hgl := HS9.out.gl; have hgb := HS9.out.gb; have hba := blk_lt HS9.out.a; have h10s := H10.out.2.2.1; have hxg := ((HS9.out.b.kept H10.out.2.2 HS9.out.pg).below H11.out.2.1).kept hk12 (show ¬ gw = w10.heap.size by omega); have hkk : Kept w10 w12 (fun k => k = gw) := ((Kept.refl w10 _).below H11.out.2.1).then_ hk12 (fun k hk => .inr (by omega)); have hbb := hb12 _ _ (below_size H10.out.2.1) (below_step H10.out.2.1 H11.out.2.1); have H12 := Aside0.mk (And.intro hx12 (And.intro hxg (And.intro hkk hbb))); clear hx12 hk12 hb12 hs12 hgl hgb hba h10s hxg hkk hbb))
                  | ((with_reducible refine gate_dst (N := 104) rfl ?_); refine box_load rfl (.tmp 15) rfl rfl H12.out.1 ?_)
                  | ((with_reducible refine gate_store (ty := 30) (x := .tmp 8) (y := .tmp 104) rfl ?_); refine box_put rfl (.tmp 8) (.tmp 104) rfl rfl rfl H12.out.2.1 ?_; go_loud (intro w13 hx13 hk13 hb13 hs13; have HZ := Aside0.mk (HS9.out.done H10.out.2.2 H10.out.1 (H12.out.2.2.1.then_ hk13 (fun k hk => .inl hk)) hx13 (hb13 _ _ HS9.out.gl H12.out.2.2.2)); have HW := Aside0.mk hx13; clear hx13 hk13 hb13 hs13))
                  | ((with_reducible refine gate_dst (N := 149) rfl ?_); refine box_load rfl (.tmp 8) rfl rfl HW.out ?_)
                  | (go_at_call 25; go_loud (obtain ⟨p1, p2, p3, p4⟩ := HZ.out; have hx := like_calls p2 p3 p4; refine hx.mono ?_; clear hx; rintro e w20 ⟨rfl, hb20⟩; have HY := Aside0.mk (p1.below hb20); clear p1 p2 p3 p4 hb20)))
                go_roundg (m - (i + 1))
                case measure => omega
                case rel => exact ⟨i + 1, _, by go_num, by omega, HY⟩
            · have k1 : decide ((ln : Int) < 30) = false := decide_eq_false (by omega)
              have k1n : decide (ln < 30) = false := decide_eq_false (by omega)
              rcases h03 with rfl | rfl | rfl | rfl
              all_goals
                obtain ⟨X, hX⟩ : ∃ X, X = fill qs 128 := ⟨_, rfl⟩
                obtain ⟨D', hD'⟩ : ∃ D', D' = (D.write qi X).1 := ⟨_, rfl⟩
                obtain ⟨y, hy⟩ : ∃ y, y = (D.write qi X).2 := ⟨_, rfl⟩
                have y2 : (y != y) = false := by simp
                have HYY := Aside0.mk (And.intro hX (And.intro hD' hy))
                have HFL : Aside0 (∀ V : World, Calls Try.prog 16 #[.int .u8 qs, .int .i64 128] V fun e w' => ∃ v : Value, e = .returned v ∧ Kd.R (Kd.int .u8) 5 w' V.heap.size (fun _ => True) v (bytesOf X) ∧ Below V.heap.size V w') := ⟨fun V => by rw [hX]; exact filled_calls qs 128 (by omega) V⟩
                clear hX hD' hy
                go_wp2_with (first
                  | (go_at_call 16; go_loud (refine (HFL.out w7).mono ?_; rintro e w8 ⟨v8, rfl, hv8, hb8⟩; obtain ⟨A8, c8, rfl, _, _⟩ := Kd.R_reads hv8; have hs8 := HS.out.below hb8; obtain ⟨_, b1, _, _, _, _⟩ := hs8.a.cells; have HS8 := Aside0.mk hs8; have HV8 := Aside0.mk hv8; clear hv8 hs8 hb8))
                  | (go_at_call 17; go_loud (have hbw7 := blk_lt HS.out.a; have hvb := Kd.R_bound HV8.out; have hap : ∀ k, (True ∧ w7.heap.size ≤ k ∧ k < w8.heap.size ∧ ∃ q, q ∈ 5 :: (Kd.int IntKind.u8).E ∧ ∃ cells, w8.heap[k]? = some (.cells cells q (0, 0))) → ¬ F k := (fun k h hf => by have h1 := h.2.1; have h2 := (HS.out.f k hf).2; omega); have hx := write_own HS8.out.w0 HS8.out.fw HS8.out.d qi hvb hap; rw [← HYY.out.2.1, ← HYY.out.2.2] at hx; refine hx.mono ?_; clear hx; rintro e w9 ⟨rfl, hd9, hb9, hk9⟩; have hs9 := HS8.out.disk hk9 hd9 hb9; obtain ⟨_, d1, _, _, _, _⟩ := hs9.a.cells; have hv9 := Kd.R_reads' (Kd.R_kept hvb hk9 hap); have hcv := conv_str (c := c8) rfl hv9.2.2 (Below.refl w9.heap.size w9); have HS9 := Aside0.mk hs9; clear hbw7 hvb hap hd9 hb9 hk9 hs9 hv9))
                  | ((with_reducible refine gate_dst (N := 96) rfl ?_); refine box_load rfl (.tmp 8) rfl rfl HS9.out.b ?_)
                  | (go_at_call 18; go_loud (have hx := r_write HS9.out.w0 HS9.out.r HOK.out qi X; rw [← HYY.out.2.1, ← HYY.out.2.2] at hx; refine hx.mono ?_; clear hx hcv; rintro e w10 ⟨v10, rfl, hr10, hb10, hk10⟩; obtain ⟨A10, c10, rfl, _, _⟩ := Kd.R_reads hr10; have H10 := Aside0.mk (And.intro hr10 (And.intro hb10 hk10)); clear hr10 hb10 hk10))
                  | ((with_reducible refine gate_dst (N := 15) rfl ?_); refine box_new rfl ?hr ?_; (case hr => first | (go_simp; done) | (go_simp; rfl)); go_loud (intro w11 hx11 hb11 hs11; have H11 := Aside0.mk (And.intro hx11 (And.intro hb11 hs11)); clear hx11 hb11 hs11))
                  | ((with_reducible refine gate_store (ty := 30) (x := .tmp 15) (y := .tmp 102) rfl ?_); refine box_put rfl (.tmp 15) (.tmp 102) rfl rfl rfl H11.out.1 ?_; go_loud (intro w12 hx12 hk12 hb12 hs12; have hgl := HS9.out.gl; have hgb := HS9.out.gb; have hba := blk_lt HS9.out.a; have h10s := H10.out.2.2.1; have hxg := ((HS9.out.b.kept H10.out.2.2 HS9.out.pg).below H11.out.2.1).kept hk12 (show ¬ gw = w10.heap.size by omega); have hkk : Kept w10 w12 (fun k => k = gw) := ((Kept.refl w10 _).below H11.out.2.1).then_ hk12 (fun k hk => .inr (by omega)); have hbb := hb12 _ _ (below_size H10.out.2.1) (below_step H10.out.2.1 H11.out.2.1); have H12 := Aside0.mk (And.intro hx12 (And.intro hxg (And.intro hkk hbb))); clear hx12 hk12 hb12 hs12 hgl hgb hba h10s hxg hkk hbb))
                  | ((with_reducible refine gate_dst (N := 104) rfl ?_); refine box_load rfl (.tmp 15) rfl rfl H12.out.1 ?_)
                  | ((with_reducible refine gate_store (ty := 30) (x := .tmp 8) (y := .tmp 104) rfl ?_); refine box_put rfl (.tmp 8) (.tmp 104) rfl rfl rfl H12.out.2.1 ?_; go_loud (intro w13 hx13 hk13 hb13 hs13; have HZ := Aside0.mk (HS9.out.done H10.out.2.2 H10.out.1 (H12.out.2.2.1.then_ hk13 (fun k hk => .inl hk)) hx13 (hb13 _ _ HS9.out.gl H12.out.2.2.2)); have HW := Aside0.mk hx13; clear hx13 hk13 hb13 hs13))
                  | ((with_reducible refine gate_dst (N := 149) rfl ?_); refine box_load rfl (.tmp 8) rfl rfl HW.out ?_)
                  | (go_at_call 25; go_loud (obtain ⟨p1, p2, p3, p4⟩ := HZ.out; have hx := like_calls p2 p3 p4; refine hx.mono ?_; clear hx; rintro e w20 ⟨rfl, hb20⟩; have HY := Aside0.mk (p1.below hb20); clear p1 p2 p3 p4 hb20)))
                go_roundg (m - (i + 1))
                case measure => omega
                case rel => exact ⟨i + 1, _, by go_num, by omega, HY⟩
          · have z0 : (q7 == 0) = false := beq_eq_false_iff_ne.2 (by omega)
            have z1 : (q7 == 1) = false := beq_eq_false_iff_ne.2 (by omega)
            have z2 : (q7 == 2) = false := beq_eq_false_iff_ne.2 (by omega)
            have z3 : (q7 == 3) = false := beq_eq_false_iff_ne.2 (by omega)
            by_cases h45 : q7 = 4 ∨ q7 = 5
            · clear h03
              go_wp2_with (first
            | (go_at_call 19; go_loud (have hx := stop_calls HS.out.w0 HS.out.fw HS.out.d qn qt HO.out.2.2.2.2.1.2; refine hx.mono ?_; clear hx; rintro e w8 ⟨rfl, hd8, hb8, hk8⟩; have hs8 := HS.out.disk hk8 hd8 hb8; obtain ⟨_, _, _, _, b4, b5⟩ := hs8.a.cells; have HS8 := Aside0.mk hs8; clear hd8 hb8 hk8 hs8))
            | ((with_reducible refine gate_dst (N := 117) rfl ?_); refine box_load rfl (.tmp 8) rfl rfl HS8.out.b ?_)
            | (go_at_call 20; go_loud (have hx := r_stop HS8.out.w0 HS8.out.r qn qt; refine hx.mono ?_; clear hx; rintro e w9 ⟨v9, rfl, hr9, hb9, hk9⟩; obtain ⟨A9, c9, rfl, _, _⟩ := Kd.R_reads hr9; have H9 := Aside0.mk (And.intro hr9 (And.intro hb9 hk9)); clear hr9 hb9 hk9))
            | ((with_reducible refine gate_store (ty := 30) (x := .tmp 8) (y := .tmp 122) rfl ?_); refine box_put rfl (.tmp 8) (.tmp 122) rfl rfl rfl (HS8.out.b.kept H9.out.2.2 HS8.out.pg) ?_; go_loud (intro w10 hx10 hk10 hb10 hs10; have HZ := Aside0.mk (HS8.out.done H9.out.2.2 H9.out.1 hk10 hx10 (hb10 _ _ HS8.out.gl H9.out.2.1)); have HW := Aside0.mk hx10; clear hx10 hk10 hb10 hs10))
            | ((with_reducible refine gate_dst (N := 149) rfl ?_); refine box_load rfl (.tmp 8) rfl rfl HW.out ?_)
            | (go_at_call 25; go_loud (obtain ⟨p1, p2, p3, p4⟩ := HZ.out; have hx := like_calls p2 p3 p4; refine hx.mono ?_; clear hx; rintro e w20 ⟨rfl, hb20⟩; have HY := Aside0.mk (p1.below hb20); clear p1 p2 p3 p4 hb20)))
              all_goals
                go_roundg (m - (i + 1))
                case measure => omega
                case rel => exact ⟨i + 1, _, by go_num, by omega, HY⟩
            · have z4 : (q7 == 4) = false := beq_eq_false_iff_ne.2 (by omega)
              have z5 : (q7 == 5) = false := beq_eq_false_iff_ne.2 (by omega)
              by_cases h6 : q7 = 6
              · have z6 : (q7 == 6) = true := beq_iff_eq.2 h6
                clear h03 h45 h6
                obtain ⟨Y, hY⟩ : ∃ Y, Y = D.read qi := ⟨_, rfl⟩
                obtain ⟨y, hy⟩ : ∃ y, y = D.fine qi := ⟨_, rfl⟩
                have y1 : (Y.toList != Y.toList) = false := by simp
                have y2 : (y != y) = false := by simp
                have HYY := Aside0.mk (And.intro hY hy)
                clear hY hy
                go_wp2_with (first
            | (go_at_call 21; go_loud (have hx := read_any HS.out.d qi; rw [← HYY.out.1, ← HYY.out.2] at hx; refine hx.mono ?_; clear hx; rintro e w8 ⟨v8, rfl, hv8, hb8⟩; obtain ⟨A8, c8, rfl, _, hC8⟩ := Kd.R_reads hv8; have hcv := fun (V : World) (hV : Below w8.heap.size w8 V) => conv_str (c := c8) rfl hC8 hV; have hs8 := HS.out.below hb8; obtain ⟨_, b1, _, _, _, _⟩ := hs8.a.cells; have HS8 := Aside0.mk hs8; have HC8 := Aside0.mk hcv; clear hv8 hC8 hcv hs8 hb8))
            | ((with_reducible refine gate_dst (N := 133) rfl ?_); refine box_load rfl (.tmp 8) rfl rfl HS8.out.b ?_)
            | (go_at_call 22; go_loud (have hrd := Kd.R_reads' HS8.out.r; have hx := r_read qi hrd.2.2 hrd.2.1; rw [← HYY.out.1, ← HYY.out.2] at hx; refine hx.mono ?_; clear hx hrd; rintro e w9 ⟨rfl, hb9⟩; have hcv9 := HC8.out w9 hb9; have hs9 := HS8.out.below hb9; have HW := Aside0.mk hs9.b; have hrd := Kd.R_reads' hs9.r; have HZ := Aside0.mk (And.intro (hs9.pl) (And.intro hs9.d (And.intro hrd.2.2 hrd.2.1))); clear hb9 hs9 hrd))
            | ((with_reducible refine gate_dst (N := 149) rfl ?_); refine box_load rfl (.tmp 8) rfl rfl HW.out ?_)
            | (go_at_call 25; go_loud (obtain ⟨p1, p2, p3, p4⟩ := HZ.out; have hx := like_calls p2 p3 p4; refine hx.mono ?_; clear hx; rintro e w20 ⟨rfl, hb20⟩; have HY := Aside0.mk (p1.below hb20); clear p1 p2 p3 p4 hb20)))
                go_roundg (m - (i + 1))
                case measure => omega
                case rel => exact ⟨i + 1, _, by go_num, by omega, HY⟩
              · have z6 : (q7 == 6) = false := beq_eq_false_iff_ne.2 (by omega)
                clear h03 h45 h6
                go_wp2_with (first
            | (go_at_call 23; go_loud (have hx := restart_calls HS.out.w0 HS.out.fw HS.out.d; refine hx.mono ?_; clear hx; rintro e w8 ⟨rfl, hd8, hb8, hk8⟩; have hs8 := HS.out.disk hk8 hd8 hb8; have HS8 := Aside0.mk hs8; clear hd8 hb8 hk8 hs8))
            | ((with_reducible refine gate_dst (N := 73) rfl ?_); refine box_load rfl (.tmp 8) rfl rfl HS8.out.b ?_)
            | (go_at_call 24; go_loud (have hx := r_restart HS8.out.w0 HS8.out.r; refine hx.mono ?_; clear hx; rintro e w9 ⟨v9, rfl, hr9, hb9, hk9⟩; obtain ⟨A9, c9, rfl, _, _⟩ := Kd.R_reads hr9; have H9 := Aside0.mk (And.intro hr9 (And.intro hb9 hk9)); clear hr9 hb9 hk9))
            | ((with_reducible refine gate_store (ty := 30) (x := .tmp 8) (y := .tmp 74) rfl ?_); refine box_put rfl (.tmp 8) (.tmp 74) rfl rfl rfl (HS8.out.b.kept H9.out.2.2 HS8.out.pg) ?_; go_loud (intro w10 hx10 hk10 hb10 hs10; have HZ := Aside0.mk (HS8.out.done H9.out.2.2 H9.out.1 hk10 hx10 (hb10 _ _ HS8.out.gl H9.out.2.1)); have HW := Aside0.mk hx10; clear hx10 hk10 hb10 hs10))
            | ((with_reducible refine gate_dst (N := 149) rfl ?_); refine box_load rfl (.tmp 8) rfl rfl HW.out ?_)
            | (go_at_call 25; go_loud (obtain ⟨p1, p2, p3, p4⟩ := HZ.out; have hx := like_calls p2 p3 p4; refine hx.mono ?_; clear hx; rintro e w20 ⟨rfl, hb20⟩; have HY := Aside0.mk (p1.below hb20); clear p1 p2 p3 p4 hb20)))
                go_roundg (m - (i + 1))
                case measure => omega
                case rel => exact ⟨i + 1, _, by go_num, by omega, HY⟩
        · have HB := Aside0.mk (show Below w.heap.size w wr by obtain ⟨_, _, _, _, _, _, _, _, _, _, _, _, h⟩ := hI.out; exact h)
          clear hI
          by_cases him : i < m
          · have d2 : decide ((i : Int) < (m : Int)) = true := decide_eq_true (by omega)
            have d2n : decide (i < m) = true := decide_eq_true (by omega)
            have d3 : decide ((i : Int) < 30) = false := decide_eq_false (by omega)
            go_wp2
            go_ret
            exact ⟨rfl, HB.out⟩
          · have d2 : decide ((i : Int) < (m : Int)) = false := decide_eq_false (by omega)
            have d2n : decide (i < m) = false := decide_eq_false (by omega)
            go_wp2
            go_ret
            exact ⟨rfl, HB.out⟩
end
end Go.Proofs.Ytnajdnhgoakgaaa.Blk
