/- The document's log: Add, where it writes. -/
import Derived.Test.YtnajdnhgoakgaaaRAddN
import Derived.Test.YtnajdnhgoakgaaaAddGo
namespace Go.Proofs.Ytnajdnhgoakgaaa.Blk
open Go.RowKit Go.Proofs.YtnajdnhgoakgaaaW.PrintWords Go.Proofs.YtnajdnhgoakgaaaW.PrintLast Go.Proofs.YtnajdnhgoakgaaaW.PrintMore Go.Proofs.Ytnajdnhgoakgaaa.Mem Go.Proofs.Ytnajdnhgoakgaaa.Open Go.Proofs.Ytnajdnhgoakgaaa.Wal
set_option linter.unusedVariables false
set_option linter.unusedSimpArgs false
set_option maxRecDepth 100000
set_option maxHeartbeats 8000000
theorem str_ext {b : List Int} (hb : Byt b) (i j : Nat) : (strOfNums b).extract i j = strOfNums ((b.take j).drop i) := by
  rw [← str_bytesOf ((strOfNums b).extract i j), bytesOf_extract, bytesOf_str hb]
theorem byt_drop {b : List Int} (hb : Byt b) (k : Nat) : Byt (b.drop k) := fun x hx => hb x (List.mem_of_mem_drop hx)
section
variable {w0 w wr W : World} {g3 g4 g6 g7 : Nat} {v0 u0 v u : Value} {D : DM} {R : RL}
theorem AS.setE (h : AS w0 w wr g3 g4 g6 g7 v0 u0 v u D R) (z : Int) : AS w0 w (wr.setCell ⟨g4, 6, none⟩ (.int .i64 z)) g3 g4 g6 g7 v0 u0 v u D { R with e := z } := by
  obtain ⟨a1, a2, a3, a4⟩ := h.gs
  have hk := kept_set wr g4 6 (.int .i64 z)
  refine ⟨below_set h.bl (by have := h.b0; omega), h.kp.then_ hk (fun k e => .inr (by omega)), h.b0, h.d.kept hk (by omega), ?_, h.d6.kept hk (by omega), h.l7.kept hk (by omega), h.gs, Kd.R_kept h.vr hk (fun k hv e => by have := (h.vo k hv).2; omega), Kd.R_kept h.ur hk (fun k hv e => by have := (h.uo k hv).2; omega), h.vo, h.vw, h.uo⟩
  have := blk_set h.l 6 (.int .i64 z)
  exact this
theorem AS.setF (h : AS w0 w wr g3 g4 g6 g7 v0 u0 v u D R) (z : Int) : AS w0 w (wr.setCell ⟨g4, 2, none⟩ (.int .u64 z)) g3 g4 g6 g7 v0 u0 v u D { R with first := z } := by
  obtain ⟨a1, a2, a3, a4⟩ := h.gs
  have hk := kept_set wr g4 2 (.int .u64 z)
  refine ⟨below_set h.bl (by have := h.b0; omega), h.kp.then_ hk (fun k e => .inr (by omega)), h.b0, h.d.kept hk (by omega), ?_, h.d6.kept hk (by omega), h.l7.kept hk (by omega), h.gs, Kd.R_kept h.vr hk (fun k hv e => by have := (h.vo k hv).2; omega), Kd.R_kept h.ur hk (fun k hv e => by have := (h.uo k hv).2; omega), h.vo, h.vw, h.uo⟩
  have := blk_set h.l 2 (.int .u64 z)
  exact this
theorem AS.setX (h : AS w0 w wr g3 g4 g6 g7 v0 u0 v u D R) (z : Int) : AS w0 w (wr.setCell ⟨g4, 3, none⟩ (.int .u64 z)) g3 g4 g6 g7 v0 u0 v u D { R with next := z } := by
  obtain ⟨a1, a2, a3, a4⟩ := h.gs
  have hk := kept_set wr g4 3 (.int .u64 z)
  refine ⟨below_set h.bl (by have := h.b0; omega), h.kp.then_ hk (fun k e => .inr (by omega)), h.b0, h.d.kept hk (by omega), ?_, h.d6.kept hk (by omega), h.l7.kept hk (by omega), h.gs, Kd.R_kept h.vr hk (fun k hv e => by have := (h.vo k hv).2; omega), Kd.R_kept h.ur hk (fun k hv e => by have := (h.uo k hv).2; omega), h.vo, h.vw, h.uo⟩
  have := blk_set h.l 3 (.int .u64 z)
  exact this
theorem AS.setH (h : AS w0 w wr g3 g4 g6 g7 v0 u0 v u D R) (z : Int) : AS w0 w (wr.setCell ⟨g4, 4, none⟩ (.int .i64 z)) g3 g4 g6 g7 v0 u0 v u D { R with hv := z } := by
  obtain ⟨a1, a2, a3, a4⟩ := h.gs
  have hk := kept_set wr g4 4 (.int .i64 z)
  refine ⟨below_set h.bl (by have := h.b0; omega), h.kp.then_ hk (fun k e => .inr (by omega)), h.b0, h.d.kept hk (by omega), ?_, h.d6.kept hk (by omega), h.l7.kept hk (by omega), h.gs, Kd.R_kept h.vr hk (fun k hv e => by have := (h.vo k hv).2; omega), Kd.R_kept h.ur hk (fun k hv e => by have := (h.uo k hv).2; omega), h.vo, h.vw, h.uo⟩
  have := blk_set h.l 4 (.int .i64 z)
  exact this
/-- The records, one more, stand in a row of their own. -/
theorem AS.setL (h : AS w0 w wr g3 g4 g6 g7 v0 u0 v u D R) (hb : Below wr.heap.size wr W) {u' : Value} {l' : List ByteArray} {ok : Nat → Prop} (hu : Kd.R Kd.string 9 W wr.heap.size ok u' l') : AS w0 w (W.setCell ⟨g4, 5, none⟩ u') g3 g4 g6 g7 v0 u0 v u' D { R with l := l' } := by
  obtain ⟨a1, a2, a3, a4⟩ := h.gs
  have h' := h.below hb
  have hk := kept_set W g4 5 u'
  have hz := h.kp.1
  have hl7 := blk_lt h.l7
  have hlu := own_lt_ hu
  have hlv := own_lt_ h.vr
  have hb0 := h.b0
  refine ⟨below_set h'.bl (by omega), h'.kp.then_ hk (fun k e => .inr (by omega)), h.b0, h'.d.kept hk (by omega), ?_, h'.d6.kept hk (by omega), h'.l7.kept hk (by omega), h.gs, Kd.R_kept h'.vr hk (fun k hv e => by have := (h.vo k hv).2; omega), ?_, fun k hv => ⟨(h.vo k hv).1, (h.vo k hv).2.1, (h.vo k hv).2.2.1, (h.vo k hv).2.2.2.1, (h.vo k hv).2.2.2.2.1, fun hu2 => by have := (hlu k hu2).1; have := (hlv k hv).2; omega⟩, h.vw, fun k hu2 => ?_⟩
  · have := blk_set h'.l 5 u'
    exact this
  · exact Kd.R_kept (Kd.R_lower (R_tight hu) (by omega)) hk (fun k hu2 e => by have := (hlu k hu2).1; omega)
  · have := (hlu k hu2).1
    exact ⟨.inr (by omega), by omega, by omega, by omega, by omega⟩
/-- The disk is written. -/
theorem AS.setD (h : AS w0 w wr g3 g4 g6 g7 v0 u0 v u D R) {A : Option Addr} {n c : Nat} {D' : DM} (hb : Below w0.heap.size w0 W) (hk : Kept wr W (Own v)) (hr : Kd.R Kd.string 9 W w0.heap.size (fun k => Own v k ∨ wr.heap.size ≤ k) (.slice A n c) D'.L) : AS w0 w (putD W g3 (.slice A n c) D') g3 g4 g6 g7 v0 u0 (.slice A n c) u D' R := by
  obtain ⟨a1, a2, a3, a4⟩ := h.gs
  have hl3 := blk_lt h.d
  have hl4 := blk_lt h.l
  have hl6 := blk_lt h.d6
  have hl7 := blk_lt h.l7
  have hnv : ∀ g, (g = g3 ∨ g = g4 ∨ g = g6 ∨ g = g7) → ¬ Own v g := fun g hg hv => by have := (h.vo g hv).2; omega
  have d3 := h.d.kept hk (hnv g3 (.inl rfl))
  have k3 := putD_kept W g3 (.slice A n c) D'
  have hlu := own_lt_ h.ur
  have hz := h.kp.1
  have hru : Kd.R Kd.string 9 W w0.heap.size (Own u) u R.l := Kd.R_kept h.ur hk (fun k hu hv => (h.vo k hv).2.2.2.2.2 hu)
  have hown : ∀ k, Own (.slice A n c) k → (Own v k ∨ wr.heap.size ≤ k) := fun k hk => hr.1 k hk
  refine ⟨putD_below hb (by have := h.b0; omega) _ _, (h.kp.then_ hk (fun k hv => (h.vo k hv).1)).then_ k3 (fun k e => .inr (by omega)), h.b0, putD_box d3 _ _, (h.l.kept hk (hnv g4 (.inr (.inl rfl)))).kept k3 (by omega), (h.d6.kept hk (hnv g6 (.inr (.inr (.inl rfl))))).kept k3 (by omega), (h.l7.kept hk (hnv g7 (.inr (.inr (.inr rfl))))).kept k3 (by omega), h.gs, Kd.R_kept (R_tight hr) k3 (fun k hv e => ?_), Kd.R_kept hru k3 (fun k hu e => by have := (h.uo k hu).2; omega), fun k hv => ?_, h.vw, h.uo⟩
  · rcases hown k hv with h1 | h1
    · exact hnv k (.inl e) h1
    · omega
  · rcases hown k hv with h1 | h1
    · exact h.vo k h1
    · exact ⟨.inr (by omega), by omega, by omega, by omega, by omega, fun hu => by have := (hlu k hu).2; omega⟩
end
theorem ok_w {D : DM} (h : D.Ok) (i : Int) {s : ByteArray} (hs : s.size = 128) : (D.write i s).1.Ok := by
  unfold DM.write
  by_cases hf : D.fine i = 0
  · obtain ⟨_, h0, h1⟩ := fine_0 hf
    obtain ⟨hz1, _⟩ := blk_at h h0 h1
    have h2 := h.t1
    have h3 := h.t2
    rw [if_neg (by rw [hf]; simp), if_neg (by rw [hs]; simp)]
    split
    · exact ⟨set_ok h.sz _ _ (torn_size hs hz1 (by omega)), by simpa using h.n1, by simpa using h.n2, h.l1, h.l2, h.t1, h.t2⟩
    · refine ⟨set_ok h.sz _ _ hs, by simpa using h.n1, by simpa using h.n2, ?_, ?_, h.t1, h.t2⟩
      · have := h.l1; show -1 ≤ (if D.left > 0 then D.left - 1 else D.left); split <;> omega
      · have := h.l2; show (if D.left > 0 then D.left - 1 else D.left) ≤ _; split <;> omega
  · rw [if_pos hf]; exact h
theorem info_st : (Try.prog.info? 9).map (fun i => (i.zero, i.size, i.bytes)) = some (some (.string ByteArray.empty), 1, 16) := by kernel_rfl
theorem npc_blocks (b : List Int) : (npc b : Int) = blocksM b.length := by
  unfold npc blocksM pieces
  split
  · rw [if_pos (by omega)]; rfl
  · rw [if_neg (by omega)]; omega
theorem rest_next {b : List Int} (i : Nat) : (b.drop (110 * i)).drop (Wal.partAt b i).length = b.drop (110 * (i + 1)) := by
  rw [List.drop_drop]
  by_cases h : 110 * (i + 1) ≤ b.length
  · rw [partAt_len]
    unfold pieceLen
    congr 1
    omega
  · rw [List.drop_of_length_le (by rw [partAt_len]; unfold pieceLen; omega), List.drop_of_length_le (by omega)]
section
variable {w0 w : World} {A B : Option Addr} {m c q d : Nat} {D : DM} {fr n fi nx hv : Int} {l : List ByteArray} {b : List Int}
def raddG (D : DM) (fr n fi nx hv : Int) (l : List ByteArray) (b : List Int) : DM × RL × Int :=
  if (wrs (fr + hv) nx b 0 (npc b) D).2 = 0 then ((wrs (fr + hv) nx b 0 (npc b) D).1, ⟨fr, n, if hv = 0 then nx else fi, nx + npc b, hv + npc b, l ++ [strOfNums b], 0⟩, 0)
  else ((wrs (fr + hv) nx b 0 (npc b) D).1, ⟨fr, n, fi, nx, hv, l, (wrs (fr + hv) nx b 0 (npc b) D).2⟩, (wrs (fr + hv) nx b 0 (npc b) D).2)

theorem radd_go {np : Nat} (hp : RPre w0 w (.slice A m c) (.slice B q d) D ⟨fr, n, fi, nx, hv, l, 0⟩) (hok : D.Ok) (hy : Byt b) (hX : b.length ≤ 100000) (hnp : np = npc b) (hb : 0 ≤ hv ∧ hv ≤ n ∧ n ≤ 65536 ∧ 0 ≤ fr ∧ fr + n ≤ 65536) (hf : ¬ n - hv < np) (hx0 : 0 < nx) (hw : nx + np ≤ 18446744073709551615) (hl : l.length ≤ 65536) :
    Calls Try.prog 43 #[dv (.slice A m c) D, lv (.slice B q d) ⟨fr, n, fi, nx, hv, l, 0⟩, .string (strOfNums b)] w fun e w' => ∃ v u, e = .returned (.tuple #[dv v (raddG D fr n fi nx hv l b).1, lv u (raddG D fr n fi nx hv l b).2.1, .int .i64 (raddG D fr n fi nx hv l b).2.2]) ∧ APost w0 w w' (.slice A m c) (.slice B q d) v u (raddG D fr n fi nx hv l b).1 (raddG D fr n fi nx hv l b).2.1 := by
  have hm : m = D.L.length := (Kd.R_reads' hp.vr).1
  have hq : q = l.length := (Kd.R_reads' hp.ur).1
  have HP := Aside0.mk (And.intro hp (And.intro hok (And.intro hy (And.intro hX (And.intro hnp (And.intro hm (And.intro hq hl)))))))
  obtain ⟨X, hXX⟩ : ∃ X, X = strOfNums b := ⟨_, rfl⟩
  have HXX := Aside0.mk hXX
  obtain ⟨bl, hbl⟩ : ∃ k, k = b.length := ⟨_, rfl⟩
  have hXs : X.size = bl := by rw [hXX, str_size, hbl]
  have HB := Aside0.mk (And.intro hbl (And.intro hXs (show blocksM bl = (np : Int) by rw [hbl, hnp]; exact (npc_blocks b).symm)))
  obtain ⟨hb0, hb1, hb2, hb3, hb4⟩ := hb
  have hnp1 : 1 ≤ np := by rw [hnp]; exact npc_pos b
  have d2 : decide ((np : Int) > n - hv) = false := decide_eq_false hf
  have hu1 : IntKind.u64.wrap (np : Int) = np := wraps_u64 _ (by omega) (by omega)
  have hu2 : IntKind.u64.wrap (18446744073709551615 - nx) = 18446744073709551615 - nx := wraps_u64 _ (by omega) (by omega)
  have d3 : (nx == 0) = false := beq_eq_false_iff_ne.2 (by omega)
  have d4 : decide ((np : Int) > 18446744073709551615 - nx) = false := decide_eq_false (by omega)
  have HN := Aside0.mk (And.intro hf (And.intro hw hx0))
  have hblm : (bl : Int) ≤ 100000 := by omega
  have hnpm : (np : Int) ≤ 65536 := by omega
  obtain ⟨a0, ha0⟩ : ∃ a, a = fr + hv := ⟨_, rfl⟩
  have HA0 := Aside0.mk ha0
  have hwa : wrap64 (fr + hv) = a0 := by rw [ha0]; exact IntWalk.wrap64_in _ ⟨by omega, by omega⟩
  have ha1 : 0 ≤ a0 ∧ a0 + np ≤ 65536 := by omega
  rw [← hXX]
  clear hp hok hy hX hnp hm hq hXX hbl hXs hf hw hl ha0
  go_enter Try.func43, Try.ntmps43
  go_upto_region 10 with (first
    | ((with_reducible refine gate_dst (N := 3) rfl ?_); refine box_event ?hg (N := 3) ?hd (cs := #[.slice A m c, .int .i64 D.left, .int .i64 D.torn, .bool D.down]) (t := 30) ?hr ?_; (case hd => rfl); (case hg => rfl); (case hr => first | (go_simp; done) | (go_simp; rfl)); intro g3 hg3 w1 hbox hb1; have H1 := Aside0.mk (And.intro (show BoxAt w1 g3 (.slice A m c) D from hbox) (And.intro hb1 hg3)); clear hbox hb1 hg3)
    | ((with_reducible refine gate_dst (N := 4) rfl ?_); refine box_event ?hg (N := 4) ?hd (cs := lcs (.slice B q d) ⟨fr, n, fi, nx, hv, l, 0⟩) (t := 75) ?hr ?_; (case hd => rfl); (case hg => rfl); (case hr => first | (go_simp; done) | (go_simp; rfl)); intro g4 hg4 w2 hbox hb2; have H2 := Aside0.mk (And.intro (show LBox w2 g4 (.slice B q d) ⟨fr, n, fi, nx, hv, l, 0⟩ from hbox) (And.intro (H1.out.1.below hb2) (And.intro (below_step H1.out.2.1 hb2) (And.intro hg4 (show w.heap.size ≤ g3 ∧ g3 < g4 by rw [hg4, ← H1.out.2.2]; exact ⟨Nat.le_refl _, by rw [H1.out.2.2]; exact blk_lt (by rw [← H1.out.2.2]; exact H1.out.1)⟩))))); clear hbox hb2 hg4)
    | ((with_reducible refine gate_dst (N := 6) rfl ?_); refine box_new ?hg ?hr ?_; (case hg => rfl); (case hr => first | kernel_rfl | (go_simp; done) | (go_simp; rfl)); intro w3 hb3 hbl3 hs3; obtain ⟨g6, hg6⟩ : ∃ g, g = w2.heap.size := ⟨_, rfl⟩; rw [← hg6] at hb3 ⊢; have H3 := Aside0.mk (And.intro hb3 (And.intro (H2.out.1.below hbl3) (And.intro (H2.out.2.1.below hbl3) (And.intro (below_step H2.out.2.2.1 hbl3) (And.intro (show g4 < g6 by rw [hg6]; exact blk_lt H2.out.1) H2.out.2.2.2.2))))); clear hb3 hbl3 hs3 hg6)
    | ((with_reducible refine gate_dst (N := 7) rfl ?_); refine lbox_new ?hg ?hr ?_; (case hg => rfl); (case hr => first | kernel_rfl | (go_simp; done) | (go_simp; rfl)); intro w4 hb4 hbl4 hs4; obtain ⟨g7, hg7⟩ : ∃ g, g = w3.heap.size := ⟨_, rfl⟩; rw [← hg7] at hb4 ⊢; have H4 := Aside0.mk (as_of HP.out.1 hb4 (H3.out.1.below hbl4) (H3.out.2.1.below hbl4) (H3.out.2.2.1.below hbl4) (below_step H3.out.2.2.2.1 hbl4) H3.out.2.2.2.2.2.1 H3.out.2.2.2.2.2.2 H3.out.2.2.2.2.1 (by rw [hg7]; exact blk_lt H3.out.1)); obtain ⟨c0, c1, c2, c3, c4, c5, c6⟩ := H4.out.l.cells; clear hb4 hbl4 hs4 hg7)
    | (go_at_call 41; go_loud (have hx := r9blocks_calls (w := w4) (bl : Int) (by omega); rw [HB.out.2.2] at hx; rw [HB.out.2.1]; refine hx.mono ?_; clear hx; rintro e w8 ⟨rfl, hb8⟩; have H8 := Aside0.mk (H4.out.below hb8); clear c0 c1 c2 c3 c4 c5 c6 hb8; obtain ⟨c0, c1, c2, c3, c4, c5, c6⟩ := H8.out.l.cells)))
  go_loopg [10, 11] np (fun q' v10 v11 wr => ∃ (i : Nat) (Ai : Option Addr) (ci : Nat) (Di : DM), v10 = .string (strOfNums (b.drop (110 * i))) ∧ v11 = .int .i64 i ∧ q' + i = np ∧ Aside0 (AS w0 w wr g3 g4 g6 g7 (.slice A m c) (.slice B q d) (.slice Ai m ci) (.slice B q d) Di ⟨fr, n, fi, nx, hv, l, 0⟩ ∧ wrs a0 nx b i (np - i) Di = wrs a0 nx b 0 np D ∧ Di.Ok ∧ Di.L.length = m))
  case atStart => exact ⟨0, A, c, D, by rw [HXX.out]; rfl, rfl, by omega, ⟨H8.out, rfl, HP.out.2.1, HP.out.2.2.2.2.2.1.symm⟩⟩
  case round =>
    clear H8 c0 c1 c2 c3 c4 c5 c6
    obtain ⟨i, Ai, ci, Di, rfl, rfl, hq', hI⟩ := hrel
    by_cases hlt : i < np
    · have d5 : decide ((i : Int) < (np : Int)) = true := decide_eq_true (by omega)
      have d5n : decide (i < np) = true := decide_eq_true (by omega)
      obtain ⟨Y, hY⟩ : ∃ Y, Y = strOfNums (b.drop (110 * i)) := ⟨_, rfl⟩
      obtain ⟨Z, hZ⟩ : ∃ Z, Z = strOfNums (Wal.partAt b i) := ⟨_, rfl⟩
      obtain ⟨Y2, hY2⟩ : ∃ Y, Y = strOfNums (b.drop (110 * (i + 1))) := ⟨_, rfl⟩
      obtain ⟨yl, hyl⟩ : ∃ k, k = Y.size := ⟨_, rfl⟩
      obtain ⟨zl, hzl⟩ : ∃ k, k = Z.size := ⟨_, rfl⟩
      have hzl2 : zl = (Wal.partAt b i).length := by rw [hzl, hZ, str_size]
      have hyl2 : yl = (b.drop (110 * i)).length := by rw [hyl, hY, str_size]
      have hzy : zl ≤ yl ∧ zl ≤ 110 ∧ yl ≤ 100000 := by
        have h1 := HP.out.2.2.2.1
        rw [hzl2, hyl2, partAt_len, List.length_drop]; unfold pieceLen; omega
      have hcut1 : 110 < yl → Y.extract 0 110 = Z := fun _ => by rw [hY, hZ, str_ext (byt_drop HP.out.2.2.1 _), List.drop_zero]; rfl
      have hcut2 : ¬ 110 < yl → Y = Z := fun h => by rw [hY, hZ]; unfold Wal.partAt; rw [List.take_of_length_le (by omega)]
      have hcut3 : Y.extract zl yl = Y2 := by rw [hyl2, hY, hY2, str_ext (byt_drop HP.out.2.2.1 _), List.take_of_length_le (Nat.le_refl _), hzl2, rest_next]
      have HC := Aside0.mk (And.intro hcut1 (And.intro hcut2 (And.intro hcut3 (And.intro hZ (And.intro hzl hY2)))))
      have HYS := Aside0.mk (And.intro hyl hzl)
      have hYs : Y.size = yl := hyl.symm
      have hZs : Z.size = zl := hzl.symm
      rw [← hY]
      clear hY hZ hY2 hyl hzl hzl2 hyl2 hcut1 hcut2 hcut3
      go_upto_if 56 with (fail)
      go_cut [12] (fun v12 wc => v12 = .string Z ∧ wr = wc)
      case first =>
        by_cases h110 : 110 < yl
        · have d6 : decide ((110 : Int) < (yl : Int)) = true := decide_eq_true (by omega)
          have hq2 : (110 : Int) ≤ (yl : Int) := by omega
          have HH := Aside0.mk (And.intro (HC.out.1 h110) h110)
          clear h110
          go_wp2
          all_goals (first | (have := HH.out.2; exfalso; omega) | (go_meet; case rel => exact ⟨by rw [← HH.out.1], rfl⟩))
        · have d6 : decide ((110 : Int) < (yl : Int)) = false := decide_eq_false (by omega)
          have HH := Aside0.mk (And.intro (HC.out.2.1 h110) h110)
          clear h110
          go_wp2
          all_goals (first | (have := HH.out.2; exfalso; omega) | (go_meet; case rel => exact ⟨by rw [← HH.out.1], rfl⟩))
      case rest =>
        obtain ⟨rfl, rfl⟩ := hcut
        have hq3 : (zl : Int) ≤ (yl : Int) := by omega
        go_upto_region 15 with (fail)
        go_cut [10] (fun v10 wc => v10 = .string Y2 ∧ wr = wc)
        case first =>
          go_wp2
          go_meet
          case rel => exact ⟨by rw [← HC.out.2.2.1], rfl⟩
        case rest =>
          obtain ⟨rfl, rfl⟩ := hcut
          obtain ⟨ai, hai⟩ : ∃ n, n = a0 + i := ⟨_, rfl⟩
          obtain ⟨ni, hni⟩ : ∃ n, n = nx + i := ⟨_, rfl⟩
          obtain ⟨nm, hnm⟩ : ∃ n, n = (np : Int) - 1 := ⟨_, rfl⟩
          obtain ⟨en, hen⟩ : ∃ e, e = decide (i = npc b - 1) := ⟨_, rfl⟩
          have hw1 : wrap64 (a0 + (i : Int)) = ai := by rw [hai]; exact IntWalk.wrap64_in _ ⟨by omega, by omega⟩
          have hw2 : wrap64 ((np : Int) - 1) = nm := by rw [hnm]; exact IntWalk.wrap64_in _ ⟨by omega, by omega⟩
          have hnb : 0 ≤ ni ∧ ni ≤ 18446744073709551615 := by have := HN.out.2.1; omega
          have hu3 : IntKind.u64.wrap (i : Int) = i := wraps_u64 _ (by omega) (by omega)
          have hu4 : IntKind.u64.wrap (nx + (i : Int)) = ni := by rw [hni] at hnb ⊢; exact wraps_u64 _ hnb.1 (by have := hnb.2; omega)
          have heq : ((i : Int) == nm) = en := by
            rw [hen, hnm, ← HP.out.2.2.2.2.1, Bool.eq_iff_iff, beq_iff_eq, decide_eq_true_iff]
            omega
          have HNN := Aside0.mk (And.intro hai (And.intro hni (And.intro hen (And.intro hnb (show ni = nx + i ∧ zl ≤ 110 from ⟨hni, hzy.2.1⟩)))))
          clear hai hni hnm hen hnb
          go_upto_region 17 with (fail)
          obtain ⟨wx, hwx⟩ : ∃ wx, wx = wr.drew := ⟨_, rfl⟩
          have HX := Aside0.mk (hI.out.1.below (show Below wr.heap.size wr wx by rw [hwx]; exact below_drew1 (Below.refl _ _)))
          refine start_ (n := 25) (S := (fun w' => BoxAt w' g3 (.slice Ai m ci) Di ∧ LBox w' g4 (.slice B q d) ⟨fr, n, fi, nx, hv, l, 0⟩)) (ds := [23]) #[false, false, false, false, false, false, false, false, false, false, false, false, false, false, false, false, false, false, false, false, false, false, false, false, false] (by kernel_rfl) rfl (by kernel_rfl) ((by rw [← hwx]; exact ⟨HX.out.d, HX.out.l⟩)) (fun hHeld => ?_)
          rw [← hwx] at hHeld ⊢
          clear hwx
          refine take_ (i := 0) (N := some 64) (v := dv (.slice Ai m ci) Di) (a' := ?_) #[true, false, false, false, false, false, false, false, false, false, false, false, false, false, false, false, false, false, false, false, false, false, false, false, false] rfl rfl (by kernel_rfl) (fun _ _ _ h => h) (Or.inl ⟨by rfl, fun w' s0 => ?ld⟩) hHeld ?_ ?_
          case ld => exact loadD s0.1 (.tmp 3) rfl rfl
          rotate_left
          · simp only [Act.put, List.setIfInBounds_toArray, List.set_cons_zero, List.set_cons_succ, i64_w, i32_w]
            rfl
          refine pure_ (i := 1) (N := some 65) (v := ?_) (a' := ?_) #[true, true, false, false, false, false, false, false, false, false, false, false, false, false, false, false, false, false, false, false, false, false, false, false, false] rfl rfl (by kernel_rfl) (fun _ _ _ h => h) (Or.inl ⟨by rfl, ?_⟩) ?_ ?_
          rotate_left
          · intro w'
            go_simp
            with_reducible rfl
          rotate_left
          · simp only [Act.put, List.setIfInBounds_toArray, List.set_cons_zero, List.set_cons_succ, i64_w, i32_w]
            rfl
          refine take_ (i := 2) (N := some 66) (v := ?_) (a' := ?_) #[true, true, true, false, false, false, false, false, false, false, false, false, false, false, false, false, false, false, false, false, false, false, false, false, false] rfl rfl (by kernel_rfl) (fun _ _ _ h => h) (Or.inl ⟨by rfl, ?_⟩) hHeld ?_ ?_
          rotate_left
          · rintro w' s0
            obtain ⟨e0, e1, e2, e3, e4, e5, e6⟩ := s0.2.cells
            go_simp
            with_reducible rfl
          rotate_left
          · simp only [Act.put, List.setIfInBounds_toArray, List.set_cons_zero, List.set_cons_succ, i64_w, i32_w]
            rfl
          refine pure_ (i := 3) (N := some 67) (v := ?_) (a' := ?_) #[true, true, true, true, false, false, false, false, false, false, false, false, false, false, false, false, false, false, false, false, false, false, false, false, false] rfl rfl (by kernel_rfl) (fun _ _ _ h => h) (Or.inl ⟨by rfl, ?_⟩) ?_ ?_
          rotate_left
          · intro w'
            go_simp
            with_reducible rfl
          rotate_left
          · simp only [Act.put, List.setIfInBounds_toArray, List.set_cons_zero, List.set_cons_succ, i64_w, i32_w]
            rfl
          refine take_ (i := 4) (N := some 68) (v := ?_) (a' := ?_) #[true, true, true, true, true, false, false, false, false, false, false, false, false, false, false, false, false, false, false, false, false, false, false, false, false] rfl rfl (by kernel_rfl) (fun _ _ _ h => h) (Or.inl ⟨by rfl, ?_⟩) hHeld ?_ ?_
          rotate_left
          · rintro w' s0
            obtain ⟨e0, e1, e2, e3, e4, e5, e6⟩ := s0.2.cells
            go_simp
            with_reducible rfl
          rotate_left
          · simp only [Act.put, List.setIfInBounds_toArray, List.set_cons_zero, List.set_cons_succ, i64_w, i32_w]
            rfl
          refine pure_ (i := 5) (N := some 69) (v := ?_) (a' := ?_) #[true, true, true, true, true, true, false, false, false, false, false, false, false, false, false, false, false, false, false, false, false, false, false, false, false] rfl rfl (by kernel_rfl) (fun _ _ _ h => h) (Or.inl ⟨by rfl, ?_⟩) ?_ ?_
          rotate_left
          · intro w'
            go_simp
            with_reducible rfl
          rotate_left
          · simp only [Act.put, List.setIfInBounds_toArray, List.set_cons_zero, List.set_cons_succ, i64_w, i32_w]
            rfl
          refine pure_ (i := 6) (N := some 70) (v := ?_) (a' := ?_) #[true, true, true, true, true, true, true, false, false, false, false, false, false, false, false, false, false, false, false, false, false, false, false, false, false] rfl rfl (by kernel_rfl) (fun _ _ _ h => h) (Or.inl ⟨by rfl, ?_⟩) ?_ ?_
          rotate_left
          · intro w'
            go_simp
            with_reducible rfl
          rotate_left
          · simp only [Act.put, List.setIfInBounds_toArray, List.set_cons_zero, List.set_cons_succ, i64_w, i32_w]
            rfl
          refine pure_ (i := 7) (N := some 71) (v := ?_) (a' := ?_) #[true, true, true, true, true, true, true, true, false, false, false, false, false, false, false, false, false, false, false, false, false, false, false, false, false] rfl rfl (by kernel_rfl) (fun _ _ _ h => h) (Or.inl ⟨by rfl, ?_⟩) ?_ ?_
          rotate_left
          · intro w'
            go_simp
            with_reducible rfl
          rotate_left
          · simp only [Act.put, List.setIfInBounds_toArray, List.set_cons_zero, List.set_cons_succ, i64_w, i32_w]
            rfl
          refine pure_ (i := 8) (N := some 72) (v := ?_) (a' := ?_) #[true, true, true, true, true, true, true, true, true, false, false, false, false, false, false, false, false, false, false, false, false, false, false, false, false] rfl rfl (by kernel_rfl) (fun _ _ _ h => h) (Or.inl ⟨by rfl, ?_⟩) ?_ ?_
          rotate_left
          · intro w'
            go_simp
            with_reducible rfl
          rotate_left
          · simp only [Act.put, List.setIfInBounds_toArray, List.set_cons_zero, List.set_cons_succ, i64_w, i32_w]
            rfl
          refine take_ (i := 9) (N := some 73) (v := ?_) (a' := ?_) #[true, true, true, true, true, true, true, true, true, true, false, false, false, false, false, false, false, false, false, false, false, false, false, false, false] rfl rfl (by kernel_rfl) (fun _ _ _ h => h) (Or.inl ⟨by rfl, ?_⟩) hHeld ?_ ?_
          rotate_left
          · rintro w' s0
            obtain ⟨e0, e1, e2, e3, e4, e5, e6⟩ := s0.2.cells
            go_simp
            with_reducible rfl
          rotate_left
          · simp only [Act.put, List.setIfInBounds_toArray, List.set_cons_zero, List.set_cons_succ, i64_w, i32_w]
            rfl
          refine pure_ (i := 10) (N := some 74) (v := ?_) (a' := ?_) #[true, true, true, true, true, true, true, true, true, true, true, false, false, false, false, false, false, false, false, false, false, false, false, false, false] rfl rfl (by kernel_rfl) (fun _ _ _ h => h) (Or.inl ⟨by rfl, ?_⟩) ?_ ?_
          rotate_left
          · intro w'
            go_simp
            with_reducible rfl
          rotate_left
          · simp only [Act.put, List.setIfInBounds_toArray, List.set_cons_zero, List.set_cons_succ, i64_w, i32_w]
            rfl
          refine pure_ (i := 11) (N := some 75) (v := ?_) (a' := ?_) #[true, true, true, true, true, true, true, true, true, true, true, true, false, false, false, false, false, false, false, false, false, false, false, false, false] rfl rfl (by kernel_rfl) (fun _ _ _ h => h) (Or.inl ⟨by rfl, ?_⟩) ?_ ?_
          rotate_left
          · intro w'
            go_simp
            with_reducible rfl
          rotate_left
          · simp only [Act.put, List.setIfInBounds_toArray, List.set_cons_zero, List.set_cons_succ, i64_w, i32_w]
            rfl
          refine pure_ (i := 12) (N := some 76) (v := ?_) (a' := ?_) #[true, true, true, true, true, true, true, true, true, true, true, true, true, false, false, false, false, false, false, false, false, false, false, false, false] rfl rfl (by kernel_rfl) (fun _ _ _ h => h) (Or.inl ⟨by rfl, ?_⟩) ?_ ?_
          rotate_left
          · intro w'
            go_simp
            with_reducible rfl
          rotate_left
          · simp only [Act.put, List.setIfInBounds_toArray, List.set_cons_zero, List.set_cons_succ, i64_w, i32_w]
            rfl
          refine pure_ (i := 13) (N := some 77) (v := ?_) (a' := ?_) #[true, true, true, true, true, true, true, true, true, true, true, true, true, true, false, false, false, false, false, false, false, false, false, false, false] rfl rfl (by kernel_rfl) (fun _ _ _ h => h) (Or.inl ⟨by rfl, ?_⟩) ?_ ?_
          rotate_left
          · intro w'
            go_simp
            with_reducible rfl
          rotate_left
          · simp only [Act.put, List.setIfInBounds_toArray, List.set_cons_zero, List.set_cons_succ, i64_w, i32_w]
            rfl
          refine pure_ (i := 14) (N := some 78) (v := ?_) (a' := ?_) #[true, true, true, true, true, true, true, true, true, true, true, true, true, true, true, false, false, false, false, false, false, false, false, false, false] rfl rfl (by kernel_rfl) (fun _ _ _ h => h) (Or.inl ⟨by rfl, ?_⟩) ?_ ?_
          rotate_left
          · intro w'
            go_simp
            with_reducible rfl
          rotate_left
          · simp only [Act.put, List.setIfInBounds_toArray, List.set_cons_zero, List.set_cons_succ, i64_w, i32_w]
            rfl
          refine pure_ (i := 15) (N := some 79) (v := ?_) (a' := ?_) #[true, true, true, true, true, true, true, true, true, true, true, true, true, true, true, true, false, false, false, false, false, false, false, false, false] rfl rfl (by kernel_rfl) (fun _ _ _ h => h) (Or.inl ⟨by rfl, ?_⟩) ?_ ?_
          rotate_left
          · intro w'
            go_simp
            with_reducible rfl
          rotate_left
          · simp only [Act.put, List.setIfInBounds_toArray, List.set_cons_zero, List.set_cons_succ, i64_w, i32_w]
            rfl
          refine pure_ (i := 16) (N := some 80) (v := ?_) (a' := ?_) #[true, true, true, true, true, true, true, true, true, true, true, true, true, true, true, true, true, false, false, false, false, false, false, false, false] rfl rfl (by kernel_rfl) (fun _ _ _ h => h) (Or.inl ⟨by rfl, ?_⟩) ?_ ?_
          rotate_left
          · intro w'
            go_simp
            with_reducible rfl
          rotate_left
          · simp only [Act.put, List.setIfInBounds_toArray, List.set_cons_zero, List.set_cons_succ, i64_w, i32_w]
            rfl
          refine pure_ (i := 17) (N := some 81) (v := ?_) (a' := ?_) #[true, true, true, true, true, true, true, true, true, true, true, true, true, true, true, true, true, true, false, false, false, false, false, false, false] rfl rfl (by kernel_rfl) (fun _ _ _ h => h) (Or.inl ⟨by rfl, ?_⟩) ?_ ?_
          rotate_left
          · intro w'
            go_simp
            with_reducible rfl
          rotate_left
          · simp only [Act.put, List.setIfInBounds_toArray, List.set_cons_zero, List.set_cons_succ, i64_w, i32_w]
            rfl
          refine one_ (i := 18) (N := some 82) #[true, true, true, true, true, true, true, true, true, true, true, true, true, true, true, true, true, true, true, false, false, false, false, false, false] rfl rfl (by kernel_rfl) (by decide) (fun K hK => ?_)
          have hx := r9block_calls (w := wx) (n := ni) HNN.out.2.2.2.1.1 HNN.out.2.2.2.1.2 Z (by have h1 := HYS.out.2; have h2 := HNN.out.2.2.2.2.2; omega) en
          rw [show strOfNums (laidM ni (bytesOf Z) en) = blkS nx b i by rw [HC.out.2.2.2.1, bytesOf_str (partAt_byt HP.out.2.2.1 i), HNN.out.2.1, HNN.out.2.2.1]; rfl] at hx
          obtain ⟨Sb, hSb⟩ : ∃ s, s = blkS nx b i := ⟨_, rfl⟩
          rw [← hSb] at hx
          have HSB := Aside0.mk (And.intro hSb (show Sb.size = 128 by rw [hSb]; exact blkS_size nx b i))
          clear hSb
          refine goes_ Try.func38 (by kernel_rfl) rfl #[.int .u64 ni, .string Z, .bool en] (by rfl) rfl rfl (by (try simp only [List.map_toArray, List.map_cons, List.map_nil]); rfl) ?_
          refine hx.mono ?_
          clear hx
          rintro x w9 ⟨rfl, hb9⟩
          refine ⟨_, rfl, ?_⟩
          have H9 := Aside0.mk (HX.out.below hb9)
          clear hb9
          refine hK.out _ _ (⟨H9.out.d, H9.out.l⟩) (fun hHeld => ?_)
          clear hK K
          refine norm_ (a' := ?_) ?_ ?_
          rotate_left
          · show Act.put _ (some 82) _ = _
            simp only [Act.put, List.setIfInBounds_toArray, List.set_cons_zero, List.set_cons_succ, i64_w, i32_w]
            rfl
          refine one_ (i := 19) (N := some 83) #[true, true, true, true, true, true, true, true, true, true, true, true, true, true, true, true, true, true, true, true, false, false, false, false, false] rfl rfl (by kernel_rfl) (by decide) (fun K hK => ?_)
          have hx := r_write (w := w9) (w0 := w0) (P := Own (.slice Ai m ci)) H9.out.bl H9.out.vr hI.out.2.2.1 ai Sb
          obtain ⟨D2, hD2⟩ : ∃ D, D = (Di.write ai Sb).1 := ⟨_, rfl⟩
          obtain ⟨q2, hq2⟩ : ∃ q, q = (Di.write ai Sb).2 := ⟨_, rfl⟩
          have hok2 : D2.Ok := by rw [hD2]; exact ok_w hI.out.2.2.1 ai HSB.out.2
          have hln2 : D2.L.length = m := by rw [hD2, ok_write hI.out.2.2.1]; exact hI.out.2.2.2
          rw [← hD2, ← hq2] at hx
          have HW2 := Aside0.mk (And.intro hD2 (And.intro hq2 (And.intro hok2 hln2)))
          clear hD2 hq2 hok2
          refine goes_ Try.func18 (by kernel_rfl) rfl #[dv (.slice Ai m ci) Di, .int .i64 (wrap64 (a0 + (i : Int))), .string Sb] (by rfl) rfl rfl (by (try simp only [List.map_toArray, List.map_cons, List.map_nil]); rfl) ?_
          rw [hw1]
          refine hx.mono ?_
          clear hx
          rintro x w10 ⟨v10, rfl, hr10, hb10, hk10⟩
          obtain ⟨A10, c10, rfl, _, _⟩ := Kd.R_reads hr10
          rw [hln2] at hr10 ⊢
          refine ⟨_, rfl, ?_⟩
          have hgs := H9.out.gs
          have hov := H9.out.vo
          have H10 := Aside0.mk (And.intro (H9.out.setD hb10 hk10 hr10) (show BoxAt w10 g3 (.slice Ai m ci) Di ∧ LBox w10 g4 (.slice B q d) ⟨fr, n, fi, nx, hv, l, 0⟩ from ⟨H9.out.d.kept hk10 (fun hk => (hov g3 hk).2.1 rfl), H9.out.l.kept hk10 (fun hk => (hov g4 hk).2.2.1 rfl)⟩))
          clear hr10 hb10 hk10 hgs hov hln2
          refine hK.out _ _ (H10.out.2) (fun hHeld => ?_)
          clear hK K
          refine norm_ (a' := ?_) ?_ ?_
          rotate_left
          · show Act.put _ (some 83) _ = _
            simp only [Act.put, List.setIfInBounds_toArray, List.set_cons_zero, List.set_cons_succ, i64_w, i32_w]
            rfl
          refine pure_ (i := 20) (N := some 63) (v := ?_) (a' := ?_) #[true, true, true, true, true, true, true, true, true, true, true, true, true, true, true, true, true, true, true, true, true, false, false, false, false] rfl rfl (by kernel_rfl) (fun _ _ _ h => h) (Or.inl ⟨by rfl, ?_⟩) ?_ ?_
          rotate_left
          · intro w'
            go_simp
            with_reducible rfl
          rotate_left
          · simp only [Act.put, List.setIfInBounds_toArray, List.set_cons_zero, List.set_cons_succ, i64_w, i32_w]
            rfl
          refine pure_ (i := 21) (N := some 84) (v := ?_) (a' := ?_) #[true, true, true, true, true, true, true, true, true, true, true, true, true, true, true, true, true, true, true, true, true, true, false, false, false] rfl rfl (by kernel_rfl) (fun _ _ _ h => h) (Or.inl ⟨by rfl, ?_⟩) ?_ ?_
          rotate_left
          · intro w'
            go_simp
            with_reducible rfl
          rotate_left
          · simp only [Act.put, List.setIfInBounds_toArray, List.set_cons_zero, List.set_cons_succ, i64_w, i32_w]
            rfl
          refine pure_ (i := 22) (N := some 85) (v := ?_) (a' := ?_) #[true, true, true, true, true, true, true, true, true, true, true, true, true, true, true, true, true, true, true, true, true, true, true, false, false] rfl rfl (by kernel_rfl) (fun _ _ _ h => h) (Or.inl ⟨by rfl, ?_⟩) ?_ ?_
          rotate_left
          · intro w'
            go_simp
            with_reducible rfl
          rotate_left
          · simp only [Act.put, List.setIfInBounds_toArray, List.set_cons_zero, List.set_cons_succ, i64_w, i32_w]
            rfl
          refine last_ (i := 23) (N := none) #[true, true, true, true, true, true, true, true, true, true, true, true, true, true, true, true, true, true, true, true, true, true, true, true, false] rfl rfl (by kernel_rfl) (by decide) (fun K hK => ?_)
          refine skip_ (w1 := putD w10 g3 (.slice A10 m c10) D2) (by rfl) rfl (storeD H10.out.2.1 (.tmp 3) (.tmp 84) rfl rfl rfl) ?_
          obtain ⟨w11, hw11⟩ : ∃ w, w = putD w10 g3 (.slice A10 m c10) D2 := ⟨_, rfl⟩
          have h11 := H10.out.1
          rw [← hw11] at h11 ⊢
          clear hw11
          have H11 := Aside0.mk h11
          clear h11
          refine hK.out _ _ ?_
          clear hK K
          refine pure_ (i := 24) (N := some 13) (v := ?_) (a' := ?_) #[true, true, true, true, true, true, true, true, true, true, true, true, true, true, true, true, true, true, true, true, true, true, true, true, true] rfl rfl (by kernel_rfl) (fun _ _ _ h => h) (Or.inl ⟨by rfl, ?_⟩) ?_ ?_
          rotate_left
          · intro w'
            go_simp
            with_reducible rfl
          rotate_left
          · simp only [Act.put, List.setIfInBounds_toArray, List.set_cons_zero, List.set_cons_succ, i64_w, i32_w]
            rfl
          refine done_ (by kernel_rfl) ?_
          by_cases hq0 : q2 = 0
          · have d8 : (q2 != 0) = false := bne_eq_false_iff_eq.2 hq0
            have HQ0 := Aside0.mk hq0
            clear hq0 hHeld
            go_wp2
            go_roundg (np - (i + 1))
            case measure => omega
            case rel =>
              refine ⟨i + 1, A10, c10, D2, by rw [HC.out.2.2.2.2.2], by go_num, by omega, ⟨⟨H11.out, ?_, HW2.out.2.2.1, HW2.out.2.2.2⟩⟩⟩
              have hst := hI.out.2.1
              have hz : (Di.write (a0 + (i : Int)) (blkS nx b i)).2 = 0 := by rw [← HNN.out.1, ← HSB.out.1, ← HW2.out.2.1]; exact HQ0.out
              rw [show np - i = (np - (i + 1)) + 1 by omega, Wal.wrs_yes hz, ← HNN.out.1, ← HSB.out.1, ← HW2.out.1] at hst
              exact hst
          · have d8 : (q2 != 0) = true := bne_iff_ne.2 hq0
            have HQ0 := Aside0.mk hq0
            have hst := hI.out.2.1
            have hz : ¬ (Di.write (a0 + (i : Int)) (blkS nx b i)).2 = 0 := by rw [← HNN.out.1, ← HSB.out.1, ← HW2.out.2.1]; exact hq0
            rw [show np - i = (np - (i + 1)) + 1 by omega, Wal.wrs_no hz, ← HNN.out.1, ← HSB.out.1] at hst
            have hG : raddG D fr n fi nx hv l b = (D2, ⟨fr, n, fi, nx, hv, l, q2⟩, q2) := by
              unfold raddG
              rw [← HA0.out, ← HP.out.2.2.2.2.1, ← hst, ← HW2.out.1, ← HW2.out.2.1, if_neg hq0]
            have c6 : w11.cell? ⟨g4, 6, none⟩ = some (.int .i64 0) := (blk_cell H11.out.l 6).trans rfl
            have f6 : w11.frozen? ⟨g4, 6, none⟩ = false := blk_frozen H11.out.l 6
            have HG := Aside0.mk hG
            clear hq0 hHeld hst hz hG
            go_upto_region 20 with (fail)
            obtain ⟨w12, hw12⟩ : ∃ w, w = w11.setCell ⟨g4, 6, none⟩ (.int .i64 q2) := ⟨_, rfl⟩
            have H12 := Aside0.mk (show AS w0 w w12 g3 g4 g6 g7 (.slice A m c) (.slice B q d) (.slice A10 m c10) (.slice B q d) D2 ⟨fr, n, fi, nx, hv, l, q2⟩ by rw [hw12]; exact H11.out.setE q2)
            rw [← hw12]
            clear hw12 c6 f6
            obtain ⟨wd, hwd⟩ : ∃ wd, wd = w12.drew := ⟨_, rfl⟩
            have HD := Aside0.mk (H12.out.below (show Below w12.heap.size w12 wd by rw [hwd]; exact below_drew1 (Below.refl _ _)))
            refine start_ (n := 6) (S := fun w' => BoxAt w' g3 (.slice A10 m c10) D2 ∧ LBox w' g4 (.slice B q d) ⟨fr, n, fi, nx, hv, l, q2⟩) (ds := []) #[false, false, false, false, false, false] (by kernel_rfl) rfl (by kernel_rfl) (by rw [← hwd]; exact ⟨HD.out.d, HD.out.l⟩) (fun hHeld => ?_)
            rw [← hwd] at hHeld ⊢
            clear hwd
            refine take_ (i := 0) (N := some 90) (v := dv (.slice A10 m c10) D2) (a' := ?_) #[true, false, false, false, false, false] rfl rfl (by kernel_rfl) (fun _ _ _ h => h) (Or.inl ⟨by rfl, fun w' s0 => ?ld⟩) hHeld ?_ ?_
            case ld => exact loadD s0.1 (.tmp 3) rfl rfl
            rotate_left
            · simp only [Act.put, List.setIfInBounds_toArray, List.set_cons_zero, List.set_cons_succ, i64_w, i32_w]
              rfl
            refine take_ (i := 1) (N := some 91) (v := lv (.slice B q d) ⟨fr, n, fi, nx, hv, l, q2⟩) (a' := ?_) #[true, true, false, false, false, false] rfl rfl (by kernel_rfl) (fun _ _ _ h => h) (Or.inl ⟨by rfl, fun w' s0 => ?ld⟩) hHeld ?_ ?_
            case ld => exact loadL s0.2 (.tmp 4) rfl rfl
            rotate_left
            · simp only [Act.put, List.setIfInBounds_toArray, List.set_cons_zero, List.set_cons_succ, i64_w, i32_w]
              rfl
            refine pure_ (i := 2) (N := some 92) (v := ?_) (a' := ?_) #[true, true, true, false, false, false] rfl rfl (by kernel_rfl) (fun _ _ _ h => h) (Or.inl ⟨by rfl, ?_⟩) ?_ ?_
            rotate_left
            · intro w'
              go_simp
              with_reducible rfl
            rotate_left
            · simp only [Act.put, List.setIfInBounds_toArray, List.set_cons_zero, List.set_cons_succ, i64_w, i32_w]
              rfl
            refine one_ (i := 3) (N := none) #[true, true, true, true, false, false] rfl rfl (by kernel_rfl) (by decide) (fun K hK => ?_)
            refine skip_ (w1 := putD wd g6 (.slice A10 m c10) D2) (by rfl) rfl (storeD HD.out.d6 (.tmp 6) (.tmp 90) rfl rfl rfl) ?_
            have k5 := putD_kept wd g6 (.slice A10 m c10) D2
            have b5 := putD_box HD.out.d6 (.slice A10 m c10) D2
            have u5 := putD_below HD.out.bl (show w0.heap.size ≤ g6 by have h1 := HD.out.gs; have h2 := HD.out.b0; omega) (.slice A10 m c10) D2
            obtain ⟨w5, hw5⟩ : ∃ w5, w5 = putD wd g6 (.slice A10 m c10) D2 := ⟨_, rfl⟩
            rw [← hw5] at k5 b5 u5 ⊢
            have H5 := Aside0.mk (And.intro k5 (And.intro b5 u5))
            have HS5 := Aside0.mk (show BoxAt w5 g3 (.slice A10 m c10) D2 ∧ LBox w5 g4 (.slice B q d) ⟨fr, n, fi, nx, hv, l, q2⟩ from ⟨HD.out.d.kept k5 (by have h1 := HD.out.gs; omega), HD.out.l.kept k5 (by have h1 := HD.out.gs; omega)⟩)
            clear hw5 k5 b5 u5
            refine hK.out _ _ (HS5.out) (fun hHeld => ?_)
            clear hK K
            refine one_ (i := 4) (N := none) #[true, true, true, true, true, false] rfl rfl (by kernel_rfl) (by decide) (fun K hK => ?_)
            have HL7 := Aside0.mk (HD.out.l7.kept H5.out.1 (show ¬ g7 = g6 by have h1 := HD.out.gs; omega))
            refine skip_ (w1 := putL w5 g7 (.slice B q d) ⟨fr, n, fi, nx, hv, l, q2⟩) (by rfl) rfl (storeL HL7.out (.tmp 7) (.tmp 91) rfl rfl rfl) ?_
            have k6 := putL_kept w5 g7 (.slice B q d) ⟨fr, n, fi, nx, hv, l, q2⟩
            have b6 := putL_box HL7.out (.slice B q d) ⟨fr, n, fi, nx, hv, l, q2⟩
            have u6 := putL_below H5.out.2.2 (show w0.heap.size ≤ g7 by have h1 := HD.out.gs; have h2 := HD.out.b0; omega) (.slice B q d) ⟨fr, n, fi, nx, hv, l, q2⟩
            obtain ⟨w6, hw6⟩ : ∃ w6, w6 = putL w5 g7 (.slice B q d) ⟨fr, n, fi, nx, hv, l, q2⟩ := ⟨_, rfl⟩
            rw [← hw6] at k6 b6 u6 ⊢
            have H6 := Aside0.mk (And.intro b6 (And.intro (H5.out.2.1.kept k6 (show ¬ g6 = g7 by have h1 := HD.out.gs; omega)) (HD.out.post ((H5.out.1.mono (fun k e => Or.inl e)).then_ k6 (fun k e => .inl (.inr e))) u6)))
            have HS6 := Aside0.mk (show BoxAt w6 g3 (.slice A10 m c10) D2 ∧ LBox w6 g4 (.slice B q d) ⟨fr, n, fi, nx, hv, l, q2⟩ from ⟨HS5.out.1.kept k6 (by have h1 := HD.out.gs; omega), HS5.out.2.kept k6 (by have h1 := HD.out.gs; omega)⟩)
            clear hw6 k6 b6 u6
            refine hK.out _ _ (HS6.out) (fun hHeld => ?_)
            clear hK K
            refine pure_ (i := 5) (N := some 8) (v := ?_) (a' := ?_) #[true, true, true, true, true, true] rfl rfl (by kernel_rfl) (fun _ _ _ h => h) (Or.inl ⟨by rfl, ?_⟩) ?_ ?_
            rotate_left
            · intro w'
              go_simp
              with_reducible rfl
            rotate_left
            · simp only [Act.put, List.setIfInBounds_toArray, List.set_cons_zero, List.set_cons_succ, i64_w, i32_w]
              rfl
            refine done_ (by kernel_rfl) ?_
            go_wp2
            refine bodyPost_ret (results_list (rs := [.cell 6 30, .cell 7 75, .tmp 8]) rfl (by simp) (.cell g6 30 _ (0, 0) _ rfl H6.out.2.1 Try.underlying30 rfl (by kernel_rfl) (.cell g7 75 _ (0, 0) _ rfl H6.out.1 Try.underlying75 rfl (by kernel_rfl) (.tmp .nil)))) rfl ?_
            rw [HG.out]
            exact ⟨_, _, rfl, H6.out.2.2⟩
    · have hin : i = np := by omega
      have hst := hI.out.2.1
      rw [hin, Nat.sub_self] at hst
      obtain ⟨f1, hf1⟩ : ∃ x, x = (if hv = 0 then nx else fi) := ⟨_, rfl⟩
      obtain ⟨xn, hxn⟩ : ∃ x, x = nx + np := ⟨_, rfl⟩
      obtain ⟨hn, hhn⟩ : ∃ x, x = hv + np := ⟨_, rfl⟩
      obtain ⟨l2, hl2⟩ : ∃ x, x = l ++ [X] := ⟨_, rfl⟩
      have hG : raddG D fr n fi nx hv l b = (Di, ⟨fr, n, f1, xn, hn, l2, 0⟩, 0) := by
        unfold raddG
        rw [← HA0.out, ← HP.out.2.2.2.2.1, ← hst, hf1, hxn, hhn, hl2, HXX.out]
        exact if_pos rfl
      have HG := Aside0.mk hG
      have d5 : decide ((i : Int) < (np : Int)) = false := decide_eq_false (by omega)
      have hwh : wrap64 (hv + (np : Int)) = hn := by rw [hhn]; exact IntWalk.wrap64_in _ ⟨by omega, by omega⟩
      have hux : IntKind.u64.wrap (nx + (np : Int)) = xn := by have := HN.out.2.1; rw [hxn]; exact wraps_u64 _ (by omega) (by omega)
      have HL2 := Aside0.mk (And.intro hl2 (And.intro hf1 hhn))
      clear hst hG hxn hhn hl2 hf1
      obtain ⟨_, _, c2, c3, c4, c5, _⟩ := hI.out.1.l.cells
      go_upto_region 24 with (first
        | ((with_reducible refine gate_builtin (b := .append) (xs := #[.tmp 93, .tmp 95]) rfl ?_); at_builtin; go_loud (refine Kd.R_append_row Value.string ByteArray.empty (h1 := fun _ => rfl) (w0 := wr) (W := wr) wr.heap.size ?q1 (.tmp 93) (.tmp 95) 28 9 (.string ByteArray.empty) 16 ?q2 Try.underlying28 ?q3 ?q4 (by decide) (.slice none 0 0) ([] : List ByteArray) l B q d (fun _ => True) ?q5 ?q6 (fun _ _ => trivial) ?aH ?aR ?aB ?aS ?aL ?_; (case q1 => rfl); (case q2 => rfl); (case q3 => exact info_st); (case q4 => rfl); (case q5 => rfl); (case q6 => rfl); (case aH => exact Kd.R_nil _ _ _ _ _); (case aR => have h1 := Kd.R_reads' hI.out.1.ur; rw [h1.1]; exact h1.2.2); (case aB => exact Below.refl _ _); (case aS => exact Nat.le_refl _); (case aL => have h1 := HP.out.2.2.2.2.2.2; simp only [List.length_nil]; omega); intro v1 w1 ho1 hb1 hg1 hat1; rw [List.nil_append] at ho1; obtain ⟨A1, k1, rfl, _, _⟩ := Kd.R_reads ho1; have HO1 := Aside0.mk (And.intro ho1 hb1); clear ho1 hb1 hg1 hat1))
        | ((with_reducible refine gate_builtin (b := .append) (xs := #[.tmp 97, .tmp 99]) rfl ?_); at_builtin; go_loud (refine Kd.R_append Kd.string (w0 := wr) (W := w1) wr.heap.size ?q1 (.tmp 97) (.tmp 99) 28 9 (.string ByteArray.empty) 16 ?q2 Try.underlying28 ?q3 ?q4 (by decide) (by decide) (.slice A1 l.length k1) l X [.string X] (fun _ => True) (fun _ => False) ?q5 ?q6 ?aM (fun _ hk => hk.elim) (fun _ _ => trivial) ?aH ?aB ?aS ?aL ?_; (case q1 => rfl); (case q2 => rfl); (case q3 => exact info_st); (case q4 => rfl); (case q5 => rfl); (case q6 => rfl); (case aM => exact (show Kd.M Kd.string _ _ _ X [.string X] from rfl)); (case aH => exact HO1.out.1); (case aB => exact HO1.out.2); (case aS => exact HO1.out.2.size); (case aL => have h1 := HP.out.2.2.2.2.2.2; omega); intro v2 w2 ho2 hb2 hg2 hat2; obtain ⟨A2, k2, rfl, _, _⟩ := Kd.R_reads ho2; rw [← HL2.out.1] at ho2 ⊢; have H2 := Aside0.mk (And.intro (hI.out.1.setL hb2 ho2) (hI.out.1.below hb2)); clear c2 c3 c4 c5 ho2 hb2 hg2 hat2; obtain ⟨_, _, _, _, _, c5, _⟩ := H2.out.2.l.cells; have f5 := blk_frozen H2.out.2.l 5)))
      obtain ⟨n2, hn2⟩ : ∃ x, x = l2.length := ⟨_, rfl⟩
      have H2' := H2.out.1
      rw [← hn2] at H2' ⊢
      obtain ⟨w3, hw3⟩ : ∃ x, x = w2.setCell ⟨g4, 5, none⟩ (.slice A2 n2 k2) := ⟨_, rfl⟩
      rw [← hw3] at H2' ⊢
      have H3 := Aside0.mk H2'
      clear hw3 hn2 H2' c5 f5
      obtain ⟨_, _, c2, c3, c4, _, _⟩ := H3.out.l.cells
      have f2 := blk_frozen H3.out.l 2
      by_cases hv0 : hv = 0
      · have d9 : (hv == 0) = true := beq_iff_eq.2 hv0
        have HF1 := Aside0.mk (show f1 = nx by rw [HL2.out.2.1, if_pos hv0])
        clear hv0
        go_upto_region 26 with (fail)
        obtain ⟨w4, hw4⟩ : ∃ x, x = w3.setCell ⟨g4, 2, none⟩ (.int .u64 nx) := ⟨_, rfl⟩
        have H4 := Aside0.mk (show AS w0 w w4 g3 g4 g6 g7 (.slice A m c) (.slice B q d) (.slice Ai m ci) (.slice A2 n2 k2) Di ⟨fr, n, f1, nx, hv, l2, 0⟩ by rw [hw4, HF1.out]; exact H3.out.setF nx)
        rw [← hw4]
        clear hw4 c2 c3 c4 f2
        obtain ⟨_, _, _, _, c4, _, _⟩ := H4.out.l.cells
        have f4 := blk_frozen H4.out.l 4
        go_upto_region 27 with (fail)
        obtain ⟨w5, hw5⟩ : ∃ x, x = w4.setCell ⟨g4, 4, none⟩ (.int .i64 (hv + np)) := ⟨_, rfl⟩
        have H5 := Aside0.mk (show AS w0 w w5 g3 g4 g6 g7 (.slice A m c) (.slice B q d) (.slice Ai m ci) (.slice A2 n2 k2) Di ⟨fr, n, f1, nx, hn, l2, 0⟩ by rw [hw5, HL2.out.2.2]; exact H4.out.setH _)
        rw [← hw5]
        clear hw5 c4 f4
        obtain ⟨_, _, _, c3, _, _, _⟩ := H5.out.l.cells
        have f3 := blk_frozen H5.out.l 3
        go_upto_region 28 with (fail)
        obtain ⟨w6, hw6⟩ : ∃ x, x = w5.setCell ⟨g4, 3, none⟩ (.int .u64 xn) := ⟨_, rfl⟩
        have H6 := Aside0.mk (show AS w0 w w6 g3 g4 g6 g7 (.slice A m c) (.slice B q d) (.slice Ai m ci) (.slice A2 n2 k2) Di ⟨fr, n, f1, xn, hn, l2, 0⟩ by rw [hw6]; exact H5.out.setX xn)
        rw [← hw6]
        clear hw6 c3 f3
        obtain ⟨wd, hwd⟩ : ∃ wd, wd = w6.drew := ⟨_, rfl⟩
        have HD := Aside0.mk (H6.out.below (show Below w6.heap.size w6 wd by rw [hwd]; exact below_drew1 (Below.refl _ _)))
        refine start_ (n := 5) (S := fun w' => BoxAt w' g3 (.slice Ai m ci) Di ∧ LBox w' g4 (.slice A2 n2 k2) ⟨fr, n, f1, xn, hn, l2, 0⟩) (ds := []) #[false, false, false, false, false] (by kernel_rfl) rfl (by kernel_rfl) (by rw [← hwd]; exact ⟨HD.out.d, HD.out.l⟩) (fun hHeld => ?_)
        rw [← hwd] at hHeld ⊢
        clear hwd
        refine take_ (i := 0) (N := some 119) (v := dv (.slice Ai m ci) Di) (a' := ?_) #[true, false, false, false, false] rfl rfl (by kernel_rfl) (fun _ _ _ h => h) (Or.inl ⟨by rfl, fun w' s0 => ?ld⟩) hHeld ?_ ?_
        case ld => exact loadD s0.1 (.tmp 3) rfl rfl
        rotate_left
        · simp only [Act.put, List.setIfInBounds_toArray, List.set_cons_zero, List.set_cons_succ, i64_w, i32_w]
          rfl
        refine take_ (i := 1) (N := some 120) (v := lv (.slice A2 n2 k2) ⟨fr, n, f1, xn, hn, l2, 0⟩) (a' := ?_) #[true, true, false, false, false] rfl rfl (by kernel_rfl) (fun _ _ _ h => h) (Or.inl ⟨by rfl, fun w' s0 => ?ld⟩) hHeld ?_ ?_
        case ld => exact loadL s0.2 (.tmp 4) rfl rfl
        rotate_left
        · simp only [Act.put, List.setIfInBounds_toArray, List.set_cons_zero, List.set_cons_succ, i64_w, i32_w]
          rfl
        refine one_ (i := 2) (N := none) #[true, true, true, false, false] rfl rfl (by kernel_rfl) (by decide) (fun K hK => ?_)
        refine skip_ (w1 := putD wd g6 (.slice Ai m ci) Di) (by rfl) rfl (storeD HD.out.d6 (.tmp 6) (.tmp 119) rfl rfl rfl) ?_
        have k5 := putD_kept wd g6 (.slice Ai m ci) Di
        have b5 := putD_box HD.out.d6 (.slice Ai m ci) Di
        have u5 := putD_below HD.out.bl (show w0.heap.size ≤ g6 by have h1 := HD.out.gs; have h2 := HD.out.b0; omega) (.slice Ai m ci) Di
        obtain ⟨w5, hw5⟩ : ∃ w5, w5 = putD wd g6 (.slice Ai m ci) Di := ⟨_, rfl⟩
        rw [← hw5] at k5 b5 u5 ⊢
        have H5 := Aside0.mk (And.intro k5 (And.intro b5 u5))
        have HS5 := Aside0.mk (show BoxAt w5 g3 (.slice Ai m ci) Di ∧ LBox w5 g4 (.slice A2 n2 k2) ⟨fr, n, f1, xn, hn, l2, 0⟩ from ⟨HD.out.d.kept k5 (by have h1 := HD.out.gs; omega), HD.out.l.kept k5 (by have h1 := HD.out.gs; omega)⟩)
        clear hw5 k5 b5 u5
        refine hK.out _ _ (HS5.out) (fun hHeld => ?_)
        clear hK K
        refine one_ (i := 3) (N := none) #[true, true, true, true, false] rfl rfl (by kernel_rfl) (by decide) (fun K hK => ?_)
        have HL7 := Aside0.mk (HD.out.l7.kept H5.out.1 (show ¬ g7 = g6 by have h1 := HD.out.gs; omega))
        refine skip_ (w1 := putL w5 g7 (.slice A2 n2 k2) ⟨fr, n, f1, xn, hn, l2, 0⟩) (by rfl) rfl (storeL HL7.out (.tmp 7) (.tmp 120) rfl rfl rfl) ?_
        have k6 := putL_kept w5 g7 (.slice A2 n2 k2) ⟨fr, n, f1, xn, hn, l2, 0⟩
        have b6 := putL_box HL7.out (.slice A2 n2 k2) ⟨fr, n, f1, xn, hn, l2, 0⟩
        have u6 := putL_below H5.out.2.2 (show w0.heap.size ≤ g7 by have h1 := HD.out.gs; have h2 := HD.out.b0; omega) (.slice A2 n2 k2) ⟨fr, n, f1, xn, hn, l2, 0⟩
        obtain ⟨w6, hw6⟩ : ∃ w6, w6 = putL w5 g7 (.slice A2 n2 k2) ⟨fr, n, f1, xn, hn, l2, 0⟩ := ⟨_, rfl⟩
        rw [← hw6] at k6 b6 u6 ⊢
        have HZ := Aside0.mk (And.intro b6 (And.intro (H5.out.2.1.kept k6 (show ¬ g6 = g7 by have h1 := HD.out.gs; omega)) (HD.out.post ((H5.out.1.mono (fun k e => Or.inl e)).then_ k6 (fun k e => .inl (.inr e))) u6)))
        have HS6 := Aside0.mk (show BoxAt w6 g3 (.slice Ai m ci) Di ∧ LBox w6 g4 (.slice A2 n2 k2) ⟨fr, n, f1, xn, hn, l2, 0⟩ from ⟨HS5.out.1.kept k6 (by have h1 := HD.out.gs; omega), HS5.out.2.kept k6 (by have h1 := HD.out.gs; omega)⟩)
        clear hw6 k6 b6 u6
        refine hK.out _ _ (HS6.out) (fun hHeld => ?_)
        clear hK K
        refine pure_ (i := 4) (N := some 8) (v := ?_) (a' := ?_) #[true, true, true, true, true] rfl rfl (by kernel_rfl) (fun _ _ _ h => h) (Or.inl ⟨by rfl, ?_⟩) ?_ ?_
        rotate_left
        · intro w'
          go_simp
          with_reducible rfl
        rotate_left
        · simp only [Act.put, List.setIfInBounds_toArray, List.set_cons_zero, List.set_cons_succ, i64_w, i32_w]
          rfl
        refine done_ (by kernel_rfl) ?_
        go_wp2
        refine bodyPost_ret (results_list (rs := [.cell 6 30, .cell 7 75, .tmp 8]) rfl (by simp) (.cell g6 30 _ (0, 0) _ rfl HZ.out.2.1 Try.underlying30 rfl (by kernel_rfl) (.cell g7 75 _ (0, 0) _ rfl HZ.out.1 Try.underlying75 rfl (by kernel_rfl) (.tmp .nil)))) rfl ?_
        rw [HG.out]
        exact ⟨_, _, rfl, HZ.out.2.2⟩
      · have d9 : (hv == 0) = false := beq_eq_false_iff_ne.2 hv0
        have HF1 := Aside0.mk (show f1 = fi by rw [HL2.out.2.1, if_neg hv0])
        clear hv0
        go_upto_region 26 with (fail)
        obtain ⟨w4, hw4⟩ : ∃ x, x = w3 := ⟨_, rfl⟩
        have H4 := Aside0.mk (show AS w0 w w4 g3 g4 g6 g7 (.slice A m c) (.slice B q d) (.slice Ai m ci) (.slice A2 n2 k2) Di ⟨fr, n, f1, nx, hv, l2, 0⟩ by rw [hw4, HF1.out]; exact H3.out)
        rw [← hw4]
        clear hw4 c2 c3 c4 f2
        obtain ⟨_, _, _, _, c4, _, _⟩ := H4.out.l.cells
        have f4 := blk_frozen H4.out.l 4
        go_upto_region 27 with (fail)
        obtain ⟨w5, hw5⟩ : ∃ x, x = w4.setCell ⟨g4, 4, none⟩ (.int .i64 (hv + np)) := ⟨_, rfl⟩
        have H5 := Aside0.mk (show AS w0 w w5 g3 g4 g6 g7 (.slice A m c) (.slice B q d) (.slice Ai m ci) (.slice A2 n2 k2) Di ⟨fr, n, f1, nx, hn, l2, 0⟩ by rw [hw5, HL2.out.2.2]; exact H4.out.setH _)
        rw [← hw5]
        clear hw5 c4 f4
        obtain ⟨_, _, _, c3, _, _, _⟩ := H5.out.l.cells
        have f3 := blk_frozen H5.out.l 3
        go_upto_region 28 with (fail)
        obtain ⟨w6, hw6⟩ : ∃ x, x = w5.setCell ⟨g4, 3, none⟩ (.int .u64 xn) := ⟨_, rfl⟩
        have H6 := Aside0.mk (show AS w0 w w6 g3 g4 g6 g7 (.slice A m c) (.slice B q d) (.slice Ai m ci) (.slice A2 n2 k2) Di ⟨fr, n, f1, xn, hn, l2, 0⟩ by rw [hw6]; exact H5.out.setX xn)
        rw [← hw6]
        clear hw6 c3 f3
        obtain ⟨wd, hwd⟩ : ∃ wd, wd = w6.drew := ⟨_, rfl⟩
        have HD := Aside0.mk (H6.out.below (show Below w6.heap.size w6 wd by rw [hwd]; exact below_drew1 (Below.refl _ _)))
        refine start_ (n := 5) (S := fun w' => BoxAt w' g3 (.slice Ai m ci) Di ∧ LBox w' g4 (.slice A2 n2 k2) ⟨fr, n, f1, xn, hn, l2, 0⟩) (ds := []) #[false, false, false, false, false] (by kernel_rfl) rfl (by kernel_rfl) (by rw [← hwd]; exact ⟨HD.out.d, HD.out.l⟩) (fun hHeld => ?_)
        rw [← hwd] at hHeld ⊢
        clear hwd
        refine take_ (i := 0) (N := some 119) (v := dv (.slice Ai m ci) Di) (a' := ?_) #[true, false, false, false, false] rfl rfl (by kernel_rfl) (fun _ _ _ h => h) (Or.inl ⟨by rfl, fun w' s0 => ?ld⟩) hHeld ?_ ?_
        case ld => exact loadD s0.1 (.tmp 3) rfl rfl
        rotate_left
        · simp only [Act.put, List.setIfInBounds_toArray, List.set_cons_zero, List.set_cons_succ, i64_w, i32_w]
          rfl
        refine take_ (i := 1) (N := some 120) (v := lv (.slice A2 n2 k2) ⟨fr, n, f1, xn, hn, l2, 0⟩) (a' := ?_) #[true, true, false, false, false] rfl rfl (by kernel_rfl) (fun _ _ _ h => h) (Or.inl ⟨by rfl, fun w' s0 => ?ld⟩) hHeld ?_ ?_
        case ld => exact loadL s0.2 (.tmp 4) rfl rfl
        rotate_left
        · simp only [Act.put, List.setIfInBounds_toArray, List.set_cons_zero, List.set_cons_succ, i64_w, i32_w]
          rfl
        refine one_ (i := 2) (N := none) #[true, true, true, false, false] rfl rfl (by kernel_rfl) (by decide) (fun K hK => ?_)
        refine skip_ (w1 := putD wd g6 (.slice Ai m ci) Di) (by rfl) rfl (storeD HD.out.d6 (.tmp 6) (.tmp 119) rfl rfl rfl) ?_
        have k5 := putD_kept wd g6 (.slice Ai m ci) Di
        have b5 := putD_box HD.out.d6 (.slice Ai m ci) Di
        have u5 := putD_below HD.out.bl (show w0.heap.size ≤ g6 by have h1 := HD.out.gs; have h2 := HD.out.b0; omega) (.slice Ai m ci) Di
        obtain ⟨w5, hw5⟩ : ∃ w5, w5 = putD wd g6 (.slice Ai m ci) Di := ⟨_, rfl⟩
        rw [← hw5] at k5 b5 u5 ⊢
        have H5 := Aside0.mk (And.intro k5 (And.intro b5 u5))
        have HS5 := Aside0.mk (show BoxAt w5 g3 (.slice Ai m ci) Di ∧ LBox w5 g4 (.slice A2 n2 k2) ⟨fr, n, f1, xn, hn, l2, 0⟩ from ⟨HD.out.d.kept k5 (by have h1 := HD.out.gs; omega), HD.out.l.kept k5 (by have h1 := HD.out.gs; omega)⟩)
        clear hw5 k5 b5 u5
        refine hK.out _ _ (HS5.out) (fun hHeld => ?_)
        clear hK K
        refine one_ (i := 3) (N := none) #[true, true, true, true, false] rfl rfl (by kernel_rfl) (by decide) (fun K hK => ?_)
        have HL7 := Aside0.mk (HD.out.l7.kept H5.out.1 (show ¬ g7 = g6 by have h1 := HD.out.gs; omega))
        refine skip_ (w1 := putL w5 g7 (.slice A2 n2 k2) ⟨fr, n, f1, xn, hn, l2, 0⟩) (by rfl) rfl (storeL HL7.out (.tmp 7) (.tmp 120) rfl rfl rfl) ?_
        have k6 := putL_kept w5 g7 (.slice A2 n2 k2) ⟨fr, n, f1, xn, hn, l2, 0⟩
        have b6 := putL_box HL7.out (.slice A2 n2 k2) ⟨fr, n, f1, xn, hn, l2, 0⟩
        have u6 := putL_below H5.out.2.2 (show w0.heap.size ≤ g7 by have h1 := HD.out.gs; have h2 := HD.out.b0; omega) (.slice A2 n2 k2) ⟨fr, n, f1, xn, hn, l2, 0⟩
        obtain ⟨w6, hw6⟩ : ∃ w6, w6 = putL w5 g7 (.slice A2 n2 k2) ⟨fr, n, f1, xn, hn, l2, 0⟩ := ⟨_, rfl⟩
        rw [← hw6] at k6 b6 u6 ⊢
        have HZ := Aside0.mk (And.intro b6 (And.intro (H5.out.2.1.kept k6 (show ¬ g6 = g7 by have h1 := HD.out.gs; omega)) (HD.out.post ((H5.out.1.mono (fun k e => Or.inl e)).then_ k6 (fun k e => .inl (.inr e))) u6)))
        have HS6 := Aside0.mk (show BoxAt w6 g3 (.slice Ai m ci) Di ∧ LBox w6 g4 (.slice A2 n2 k2) ⟨fr, n, f1, xn, hn, l2, 0⟩ from ⟨HS5.out.1.kept k6 (by have h1 := HD.out.gs; omega), HS5.out.2.kept k6 (by have h1 := HD.out.gs; omega)⟩)
        clear hw6 k6 b6 u6
        refine hK.out _ _ (HS6.out) (fun hHeld => ?_)
        clear hK K
        refine pure_ (i := 4) (N := some 8) (v := ?_) (a' := ?_) #[true, true, true, true, true] rfl rfl (by kernel_rfl) (fun _ _ _ h => h) (Or.inl ⟨by rfl, ?_⟩) ?_ ?_
        rotate_left
        · intro w'
          go_simp
          with_reducible rfl
        rotate_left
        · simp only [Act.put, List.setIfInBounds_toArray, List.set_cons_zero, List.set_cons_succ, i64_w, i32_w]
          rfl
        refine done_ (by kernel_rfl) ?_
        go_wp2
        refine bodyPost_ret (results_list (rs := [.cell 6 30, .cell 7 75, .tmp 8]) rfl (by simp) (.cell g6 30 _ (0, 0) _ rfl HZ.out.2.1 Try.underlying30 rfl (by kernel_rfl) (.cell g7 75 _ (0, 0) _ rfl HZ.out.1 Try.underlying75 rfl (by kernel_rfl) (.tmp .nil)))) rfl ?_
        rw [HG.out]
        exact ⟨_, _, rfl, HZ.out.2.2⟩
end
end Go.Proofs.Ytnajdnhgoakgaaa.Blk
