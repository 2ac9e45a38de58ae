/- The law WalBlocks. -/
import Derived.Test.YtnajdnhgoakgaaaAwk9
import Derived.Test.YtnajdnhgoakgaaaRef9
namespace Go.Proofs.Ytnajdnhgoakgaaa.Wal
open Go.RowKit Go.Proofs.YtnajdnhgoakgaaaW.PrintWords Go.Proofs.YtnajdnhgoakgaaaW.PrintLast Go.Proofs.YtnajdnhgoakgaaaW.PrintMore Go.Proofs.Ytnajdnhgoakgaaa.Mem Go.Proofs.Ytnajdnhgoakgaaa.PWal Go.Proofs.Ytnajdnhgoakgaaa.Blk
set_option linter.unusedVariables false
set_option linter.unusedSimpArgs false
set_option maxRecDepth 100000
set_option maxHeartbeats 8000000
section
variable {P : Program} {ops : Array Oper} {rest : List Oper} {o : Oper} {a : Act} {Q : Exit → Act → World → Prop}
/-- '[]byte(s)' of a string: a new row. -/
theorem str_event {w0 W : World} {base : Nat} {src dst e : TypeId} {x : Operand} {s : ByteArray} (hgd : o.guard = none) (ho : o.op = .convert src dst x) (hx : a.eval x = .string s) {u : TypeDesc} (hsr : P.underlying src = some u) (hds : P.underlying dst = some (.slice e)) (he : P.underlying e = some (.int .u8)) (hs : s.size ≤ 9223372036854775807) (HB : Below base w0 W) (hbase : base ≤ W.heap.size)
    (h : ∀ (W' : World) (c : Nat), Below base w0 W' → Below W.heap.size W W' → s.size ≤ c → W.heap.size < W'.heap.size → Kd.C (Kd.int .u8) W' (some ⟨W.heap.size, 0, none⟩) s.size (bytesOf s) → (∀ j, j < s.size → W'.frozen? ⟨W.heap.size, j, none⟩ = false) → wpList P ops Q rest (a.put o.dst (.slice (some ⟨W.heap.size, 0, none⟩) s.size c)) W') :
    wpList P ops Q (o :: rest) a W := by
  have hrun := Lib.run_convert_string_bytes (P := P) W src dst e s hsr hds he
  refine Kd.event_run hgd (v := .slice (some ⟨W.heap.size, 0, none⟩) s.size (grownCap W s.size 0 e)) (w1 := Lib.bytesWorld W e s) ?_ (h _ _ (bytes_below HB hbase e s) (bytes_below (Below.refl _ _) (Nat.le_refl _) e s) ?_ (by rw [Lib.bytesWorld_size]; omega) (Kd.C_of_reads (d := (0 : Int)) (h1 := fun _ => rfl) (bytes_reads W e s hs)) ?_)
  · unfold execOp
    simp [ho, hx, hrun]
  · exact grownCap_ge W s.size 0 e
  · intro j hj
    unfold World.frozen?
    rw [Lib.bytesWorld_at_new]
    have : (Lib.bytesCells W e s).size = s.size + (grownCap W s.size 0 e - s.size) := by simp [Lib.bytesCells]
    simp only [Bool.and_eq_false_imp, decide_eq_true_eq]
    intro h1
    simp; omega
end
theorem C_set {w : World} {g i : Nat} {l : List Int} (v : Int) (h : Kd.C (Kd.int .u8) w (some ⟨g, 0, none⟩) l.length l) (hi : i < l.length) : Kd.C (Kd.int .u8) (w.setCell ⟨g, i, none⟩ (.int .u8 v)) (some ⟨g, 0, none⟩) l.length (l.set i v) := by
  refine ⟨by rw [List.length_set], h.2.1, fun _ => ⟨_, rfl, fun j p hj => ⟨[.int .u8 p], rfl, rfl, fun q u hu => ?_⟩⟩⟩
  have hjl : j < l.length := by
    have := (List.getElem?_eq_some_iff.1 hj).1
    rwa [List.length_set] at this
  cases q with
  | succ q => simp at hu
  | zero =>
    obtain rfl : Value.int .u8 p = u := by simpa using hu
    rw [add_z, show j * (Kd.int IntKind.u8).sz + 0 = j by show j * 1 + 0 = j; omega]
    by_cases hji : i = j
    · subst hji
      rw [List.getElem?_set_self hi] at hj
      cases hj
      have hc := cell_C h i hi
      rw [add_z] at hc
      exact World.cell?_setCell_same _ _ _ hc
    · rw [List.getElem?_set_ne hji] at hj
      have hc := cell_C h j hjl
      rw [add_z, List.getD_eq_getElem?_getD, hj] at hc
      exact (World.cell?_setCell_other _ _ _ _ (by intro e; cases e; exact hji rfl)).trans hc
theorem bits_xor (x y : Int) : 0 ≤ bits .xor .u8 x y ∧ bits .xor .u8 x y ≤ 255 := by
  unfold bits
  rw [IntKind.wrap_u8]
  omega
/-- Some bytes, as the law has them: in a row of its own. -/
structure CAt (w wr : World) (g m c : Nat) (cb : List Int) : Prop where
  bl : Below w.heap.size w wr
  ms : m = cb.length
  mc : m ≤ c
  by_ : Byt cb
  ml : cb.length ≤ 200
  rd_ : Kd.C (Kd.int .u8) wr (some ⟨g, 0, none⟩) cb.length cb
section
variable {w : World}
theorem blocks_law {b pt : List Int} {A B : Option Addr} {c d : Nat} (hb : Kd.C (Kd.int .u8) w A b.length b) (hy : Byt b) (hp : Kd.C (Kd.int .u8) w B pt.length pt) (hpy : Byt pt) (n : Int) (hn0 : 0 ≤ n) (hn1 : n ≤ 18446744073709551615) (en : Bool) (at_ x : Int) (ha0 : 0 ≤ at_) (ha1 : at_ ≤ 255) (own : Bool) (hbl : b.length < 140737488355328) (hpl : pt.length < 140737488355328) :
    Calls Try.prog 10 #[.slice A b.length c, .int .u64 n, .slice B pt.length d, .bool en, .int .u8 at_, .int .u8 x, .bool own] w fun e w' => e = .returned (.bool true) ∧ Below w.heap.size w w' := by
  obtain ⟨bl, hbl2⟩ : ∃ k, k = b.length := ⟨_, rfl⟩
  obtain ⟨pl, hpl2⟩ : ∃ k, k = pt.length := ⟨_, rfl⟩
  have HX := Aside0.mk (And.intro hb (And.intro hy (And.intro hbl2 (And.intro hp (And.intro hpy (And.intro hpl2 (And.intro hn0 hn1)))))))
  rw [← hbl2, ← hpl2]
  rw [← hbl2] at hbl
  rw [← hpl2] at hpl
  clear hb hy hp hpy hbl2 hpl2 hn0 hn1
  by_cases hbig : 200 < bl ∨ 110 < pl
  · have d0 : decide ((bl : Int) > 200) = true ∨ (decide ((bl : Int) > 200) = false ∧ decide ((pl : Int) > 110) = true) := by
      by_cases h1 : 200 < bl
      · exact .inl (decide_eq_true (by omega))
      · exact .inr ⟨decide_eq_false (by omega), decide_eq_true (by omega)⟩
    clear hbig
    rcases d0 with d1 | ⟨d1, d2⟩
    all_goals
      go_enter Try.func10, Try.ntmps10
      go_wp2_with (first | (go_at_call 28; go_loud (refine (awake_calls w).mono ?_; rintro e w1 ⟨rfl, hb0⟩; have HB := Aside0.mk hb0; clear hb0)))
      go_ret
      exact ⟨rfl, HB.out⟩
  · have d1 : decide ((bl : Int) > 200) = false := decide_eq_false (by omega)
    have d2 : decide ((pl : Int) > 110) = false := decide_eq_false (by omega)
    have hbl3 : bl ≤ 200 := by omega
    have hpl3 : pl ≤ 110 := by omega
    clear hbig
    obtain ⟨t, ht⟩ : ∃ t : Nat, (t : Int) = at_ % 128 := ⟨(at_ % 128).toNat, by omega⟩
    have ht2 : t < 128 := by omega
    go_enter Try.func10, Try.ntmps10
    go_upto_if 36 with (first
      | (go_at_call 28; go_loud (refine (awake_calls w).mono ?_; rintro e w1 ⟨rfl, hb0⟩; have hcv := conv_nums (wd := w1) (c := c) (n := bl) HX.out.2.1 HX.out.2.2.1 HX.out.1 hb0; have H1 := Aside0.mk hb0; clear hb0))
      | ((with_reducible refine gate_dst (N := 35) rfl ?_); go_loud (refine str_event (s := strOfNums b) (w0 := w) (base := w.heap.size) rfl rfl rfl Try.underlying9 Try.underlying35 Try.underlying5 (by rw [str_size, ← HX.out.2.2.1]; omega) H1.out (below_size H1.out) ?_; intro w2 c2 hb2 hbb2 hc2 hs2 hC2 hfz2; rw [bytesOf_str HX.out.2.1] at hC2; rw [str_size] at hC2 hc2 ⊢; have H2 := Aside0.mk (show CAt w w2 w1.heap.size bl c2 b from CAt.mk hb2 HX.out.2.2.1 (by rw [HX.out.2.2.1]; exact hc2) HX.out.2.1 (by rw [← HX.out.2.2.1]; omega) hC2); obtain ⟨g2, hg2⟩ : ∃ g, g = w1.heap.size := ⟨_, rfl⟩; rw [← hg2] at H2 ⊢; rw [← HX.out.2.2.1]; clear hcv hb2 hbb2 hc2 hs2 hC2 hfz2 hg2)))
    go_cut [16] (fun v16 wc => ∃ (g m c : Nat) (cb : List Int), v16 = .slice (some ⟨g, 0, none⟩) m c ∧ Aside0 (CAt w wc g m c cb))
    case first =>
      cases own
      · go_wp2
        go_meet
        case rel => exact ⟨_, _, _, _, rfl, H2⟩
      · have hcv := conv_nums (wd := w2) (c := d) (n := pl) HX.out.2.2.2.2.1 HX.out.2.2.2.2.2.1 HX.out.2.2.2.1 H2.out.bl
        obtain ⟨l, hl⟩ : ∃ l, l = laidM n pt en := ⟨_, rfl⟩
        have hll : l.length = 128 := by rw [hl]; exact laidM_len n en (by rw [← HX.out.2.2.2.2.2.1]; omega)
        have hly : Byt l := by rw [hl]; exact laidM_byt en HX.out.2.2.2.2.1 (by rw [← HX.out.2.2.2.2.2.1]; omega)
        have HL := Aside0.mk (And.intro hl (And.intro hll hly))
        have hmod : at_ % 128 = (t : Int) := ht.symm
        obtain ⟨q, hq⟩ : ∃ q, q = l.getD t 0 := ⟨_, rfl⟩
        have HQ := Aside0.mk hq
        clear hl hll hly hq ht
        go_wp2_with (first
          | (go_at_call 38; go_loud (have hx := r9block_calls (w := w2) HX.out.2.2.2.2.2.2.1 HX.out.2.2.2.2.2.2.2 (strOfNums pt) (by rw [str_size, ← HX.out.2.2.2.2.2.1]; exact hpl3) en; rw [bytesOf_str HX.out.2.2.2.2.1, ← HL.out.1] at hx; refine hx.mono ?_; clear hx; rintro e w3 ⟨rfl, hb3⟩; have H3 := Aside0.mk (below_step H2.out.bl hb3); clear hb3 hcv))
          | ((with_reducible refine gate_dst (N := 42) rfl ?_); go_loud (refine str_event (s := strOfNums l) (w0 := w) (base := w.heap.size) rfl rfl rfl Try.underlying9 Try.underlying35 Try.underlying5 (by rw [str_size, HL.out.2.1]; omega) H3.out (below_size H3.out) ?_; intro w4 c4 hb4 hbb4 hc4 hs4 hC4 hfz4; rw [bytesOf_str HL.out.2.2] at hC4; rw [str_size] at hC4 hc4 hfz4 ⊢; have H4 := Aside0.mk (CAt.mk hb4 rfl hc4 HL.out.2.2 (by rw [HL.out.2.1]; omega) hC4); have hg3 := below_size H3.out; obtain ⟨g4, hg4⟩ : ∃ g, g = w3.heap.size := ⟨_, rfl⟩; rw [← hg4] at H4 hC4 hfz4 hg3 ⊢; have HG := Aside0.mk hg3; have e1 : w4.cell? ⟨g4, t, none⟩ = some (.int .u8 q) := (by have h := cell_C hC4 t (by rw [HL.out.2.1]; exact ht2); rw [add_z] at h; rw [HQ.out]; exact h); have f1 : w4.frozen? ⟨g4, t, none⟩ = false := hfz4 t (by rw [HL.out.2.1]; exact ht2); rw [HL.out.2.1]; clear hb4 hbb4 hc4 hs4 hC4 hfz4 hg4 hg3)))
        go_meet
        case rel =>
          refine ⟨g4, 128, c4, l.set t (bits .xor .u8 q x), rfl, ⟨⟨below_set H4.out.bl HG.out, by rw [List.length_set]; exact HL.out.2.1.symm, by have := H4.out.mc; rw [HL.out.2.1] at this; exact this, ?_, by rw [List.length_set, HL.out.2.1]; omega, ?_⟩⟩⟩
          · intro y hy
            rcases List.mem_or_eq_of_mem_set hy with hy | hy
            · exact HL.out.2.2 y hy
            · rw [hy]; exact bits_xor q x
          · rw [List.length_set]
            exact C_set _ H4.out.rd_ (by rw [HL.out.2.1]; exact ht2)
    case rest =>
      clear H2
      obtain ⟨g, m, c3, cb, rfl, H5⟩ := hcut
      have hm := H5.out.ms
      have hm2 := H5.out.ml
      have HMS := Aside0.mk hm
      have hm3 : m ≤ 200 := by rw [hm]; exact hm2
      obtain ⟨k, hk⟩ : ∃ k, k = (readM cb).1 := ⟨_, rfl⟩
      obtain ⟨nb, hnb⟩ : ∃ k, k = blocksM ((m : Int) * 3) := ⟨_, rfl⟩
      have HK := Aside0.mk (And.intro hk hnb)
      clear hm hm2 hk hnb ht
      go_wp2_with (first
        | (go_at_call 39; go_loud (have hx := whole_calls (w := wc) (some ⟨g, 0, none⟩) c3 H5.out.rd_ (by rw [← HMS.out]; exact H5.out.mc) H5.out.by_; rw [← HMS.out, ← HK.out.1] at hx; refine hx.mono ?_; clear hx; rintro e w6 ⟨rfl, hb6⟩; have hcv := conv_nums (wd := w6) (c := c3) (n := m) H5.out.by_ HMS.out H5.out.rd_ hb6; have H6 := Aside0.mk (below_step H5.out.bl hb6); clear hb6))
        | (go_at_call 40; go_loud (have hx := r9read_calls (w := w6) (strOfNums cb); rw [bytesOf_str H5.out.by_, ← HK.out.1] at hx; refine hx.mono ?_; clear hx; rintro e w7 ⟨rfl, hb7⟩; have H7 := Aside0.mk (below_step H6.out hb7); clear hb7 hcv))
        | (go_at_call 35; go_loud (have hx := blocks_calls (w := w7) ((m : Int) * 3) (by omega); rw [← HK.out.2] at hx; refine hx.mono ?_; clear hx; rintro e w8 ⟨rfl, hb8⟩; have H8 := Aside0.mk (below_step H7.out hb8); clear hb8))
        | (go_at_call 41; go_loud (have hx := r9blocks_calls (w := w8) ((m : Int) * 3) (by omega); rw [← HK.out.2] at hx; refine hx.mono ?_; clear hx; rintro e w9 ⟨rfl, hb9⟩; have H9 := Aside0.mk (below_step H8.out hb9); clear hb9)))
      go_ret
      exact ⟨rfl, H9.out⟩
def InR (w : World) (a : Option Addr) (len cap : Nat) (zs : List Int) : Prop :=
  (a = none ∧ len = 0 ∧ cap = 0 ∧ zs = []) ∨
  ∃ x, a = some x ∧ len ≤ cap ∧ cap ≤ maxLen ∧ zs.length = cap ∧ (∀ i, i < zs.length → w.cell? (x.add i) = some (.int .u8 (zs.getD i 0))) ∧ ∀ n ∈ zs, (Lit.int .u8 n).wf = true
theorem row_in {a : Option Addr} {len cap : Nat} {zs : List Int} (h : InR w a len cap zs) (hl : len * 1 ≤ 140737488351232) : ∃ xs, len = xs.length ∧ Kd.C (Kd.int .u8) w a xs.length xs ∧ len ≤ cap ∧ Byt xs := by
  obtain ⟨l0, rfl, hr0, hm0, hw0, hc0⟩ := ReadsInt.ofRowC h
  exact ⟨l0, rfl, Kd.C_of_reads (d := (0 : Int)) (h1 := fun _ => rfl) hr0, hc0, byt_of_wf hw0⟩
theorem blocks_row {A B : Option Addr} {len cap len2 cap2 : Nat} {z z2 : List Int} (h : InR w A len cap z) (y : len * 1 ≤ 140737488351232) (h2 : InR w B len2 cap2 z2) (y2 : len2 * 1 ≤ 140737488351232) {n at_ x : Int} (hn : 0 ≤ n ∧ n ≤ 18446744073709551615) (en : Bool) (ha : 0 ≤ at_ ∧ at_ ≤ 255) (own : Bool) :
    Calls Try.prog 10 #[.slice A len cap, .int .u64 n, .slice B len2 cap2, .bool en, .int .u8 at_, .int .u8 x, .bool own] w fun e w' => e = .returned (.bool true) ∧ Below w.heap.size w w' := by
  obtain ⟨b, rfl, hb, _, hy⟩ := row_in h y
  obtain ⟨pt, rfl, hp, _, hpy⟩ := row_in h2 y2
  exact blocks_law hb hy hp hpy n hn.1 hn.2 en at_ x ha.1 ha.2 own (by omega) (by omega)
end
end Go.Proofs.Ytnajdnhgoakgaaa.Wal
