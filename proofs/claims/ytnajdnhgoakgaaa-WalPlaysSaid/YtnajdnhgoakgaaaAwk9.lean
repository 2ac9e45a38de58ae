/- 'awake' of layer 9. -/
import Derived.Test.YtnajdnhgoakgaaaSys
import Derived.Test.YtnajdnhgoakgaaaConv
namespace Go.Proofs.Ytnajdnhgoakgaaa.Wal
open Go.RowKit Go.Proofs.YtnajdnhgoakgaaaW.PrintWords Go.Proofs.YtnajdnhgoakgaaaW.PrintLast Go.Proofs.YtnajdnhgoakgaaaW.PrintMore Go.Proofs.Ytnajdnhgoakgaaa.Mem Go.Proofs.Ytnajdnhgoakgaaa.PWal Go.Proofs.Ytnajdnhgoakgaaa.Blk Go.Proofs.Ytnajdnhgoakgaaa.Conv
set_option linter.unusedVariables false
set_option linter.unusedSimpArgs false
set_option maxRecDepth 8000
set_option maxHeartbeats 4000000
theorem C_kept {w w' : World} {S : Nat → Prop} {A : Option Addr} {n : Nat} {xs : List Int} (h : Kd.C (Kd.int .u8) w A n xs) (hk : Kept w w' S) (hs : ∀ ad, A = some ad → ¬ S ad.block) : Kd.C (Kd.int .u8) w' A n xs := by
  obtain ⟨q1, q2, q3⟩ := h
  refine ⟨q1, q2, fun hp => ?_⟩
  obtain ⟨ad, e1, hc0⟩ := q3 hp
  refine ⟨ad, e1, fun j p hj => ?_⟩
  obtain ⟨cc, hl, hkk, hcell⟩ := hc0 j p hj
  refine ⟨cc, hl, hkk, fun i u hu => ?_⟩
  have hq := hcell i u hu
  refine Go.Proofs.YtnajdnhgoakgaaaW.PrintWords.cell_kept hq hk ?_
  have hb : (ad.add (j * (Kd.int IntKind.u8).sz + i)).block = ad.block := by unfold Addr.add; split <;> rfl
  rw [hb]
  exact hs ad e1
theorem made_u8 (n : Nat) : madeCells (Value.cells (.int .u8 0)) n = (List.replicate n (Value.int .u8 0)).toArray := by
  apply Array.ext
  · simp [madeCells, Value.cells]
  · intro i h1 h2
    simp [madeCells, Value.cells, Nat.mod_one]
theorem run_make_bytes (n : Nat) (h : n < 140737488355328) (W : World) : (Instr.makeSlice 35 (.int .i64 (n : Int)) (.int .i64 (n : Int))).run Try.prog W = .ok (.slice (some ⟨W.heap.size, 0, none⟩) n n) (W.alloc (.cells (List.replicate n (Value.int .u8 0)).toArray 5)) := by
  obtain ⟨i, hi, hzz⟩ := Option.map_eq_some_iff.1 info_u8
  simp only [Prod.mk.injEq] at hzz
  obtain ⟨hz, hz1, hz2⟩ := hzz
  have h := run_make (P := Try.prog) W 35 5 i _ Try.underlying35 hi hz .i64 .i64 (n : Int) (n : Int) (by omega) (by omega) (by rw [hz2]; omega) (by omega)
  rw [hz1, Nat.mul_one, made_u8, Int.toNat_natCast] at h
  exact h
/-! ### a log that is begun -/
theorem begin_live {D : DM} {fr n least : Int} (hok : D.Ok) (nb : ¬ bad D fr n) (up : D.down = false) (h0 : 0 ≤ least) (hm : mostM (rowsD D fr n) < 18446744073709551615) :
    Live D (beginM D fr n least) ∧ (beginM D fr n least).next = mx2 (mostM (rowsD D fr n) + 1) least := by
  have m0 := most_0 (rowsD D fr n)
  have e : openN D fr n = mostM (rowsD D fr n) + 1 := wraps_u64 _ (by omega) (by omega)
  have hnx : (beginM D fr n least).next = mx2 (mostM (rowsD D fr n) + 1) least := by
    show beginN D fr n least = _
    unfold beginN
    rw [e, if_pos (by omega)]
  have hl := mx2_l (mostM (rowsD D fr n) + 1) least
  refine ⟨⟨hok, nb, up, rfl, by rw [hnx]; omega, Int.le_refl _, by show (0 : Int) ≤ n; unfold bad at nb; omega, fun r hr => ?_, 0, 0, rfl, fun h => absurd rfl h, Int.le_refl _, by rw [hnx]; omega⟩, hnx⟩
  have := most_mem (show r ∈ rowsD D fr n from hr)
  rw [hnx]
  omega
theorem open_full {D : DM} {L : LM} (h : Live D L) (tk : Tk D L) (fu : Full D L) (hx : L.next ≤ 18446744073709551615) :
    (openM D L.fr L.n).l = L.l ∧ (openM D L.fr L.n).hv = L.hv ∧ (openM D L.fr L.n).next = L.next ∧ (L.hv ≠ 0 → (openM D L.fr L.n).first = L.first) := by
  refine ⟨tk.l, tk.hv, ?_, tk.first⟩
  have h1 := h.x1
  show IntKind.u64.wrap (mostM (rowsD D L.fr L.n) + 1) = L.next
  rw [fu]
  exact wraps_u64 _ (by omega) (by omega)
theorem zero_val : valB ((bytesOf zero128).take 8) = 0 ∧ valB ((bytesOf zero128).drop 120) = 0 := by decide +kernel
theorem zero_most (k : Nat) (l t : Int) (d : Bool) (fr n : Int) : mostM (rowsD ⟨List.replicate k zero128, l, t, d⟩ fr n) = 0 := by
  have h1 := most_0 (rowsD ⟨List.replicate k zero128, l, t, d⟩ fr n)
  have h2 : mostM (rowsD ⟨List.replicate k zero128, l, t, d⟩ fr n) ≤ 0 := most_ub (Int.le_refl _) (fun b hb => by
    obtain ⟨s, hs, rfl⟩ := List.mem_map.1 hb
    have := List.eq_of_mem_replicate (List.mem_of_mem_drop (List.mem_of_mem_take hs))
    rw [this]
    have := zero_val
    omega)
  omega
theorem zero_ok (k : Nat) (h1 : 1 ≤ k) (h2 : k ≤ 65536) : (⟨List.replicate k zero128, -1, 0, false⟩ : DM).Ok :=
  ⟨fun s hs => by rw [List.eq_of_mem_replicate hs]; decide +kernel, by show 1 ≤ (List.replicate k zero128).length; rw [List.length_replicate]; exact h1, by show (List.replicate k zero128).length ≤ _; rw [List.length_replicate]; exact h2, by show (-1 : Int) ≤ -1; omega, by show (-1 : Int) ≤ _; omega, by show (0 : Int) ≤ 0; omega, by show (0 : Int) ≤ 128; omega⟩
/-! ### what 'awake' does -/
def awkD : DM := ⟨List.replicate 8 zero128, -1, 0, false⟩
def awkL : LM := beginM awkD 2 4 5
def b1 : List Int := [97, 98, 99]
def b2 : List Int := List.replicate 111 0
theorem byt_b1 : Byt b1 := by intro x hx; simp [b1] at hx; omega
theorem byt_b2 : Byt b2 := by intro x hx; rw [List.eq_of_mem_replicate hx]; omega
def awkD1 : DM := (addM awkD awkL b1).1
def awkD2 : DM := (addM awkD1 (awkL.added b1) b2).1
def awkL2 : LM := (awkL.added b1).added b2
theorem awk_nb : ¬ bad awkD 2 4 := by unfold bad; decide +kernel
theorem awk_e : allE awkD 2 4 = 0 := by unfold allE; rw [if_neg awk_nb]; rfl
theorem awk_live : Live awkD awkL ∧ awkL.next = 5 := by
  have z := begin_live (D := awkD) (fr := 2) (n := 4) (least := 5) (zero_ok 8 (by omega) (by omega)) awk_nb rfl (by omega) (by unfold awkD; rw [zero_most]; decide)
  refine ⟨z.1, z.2.trans ?_⟩
  unfold awkD
  rw [zero_most]
  rfl
theorem awk_add1 : (addM awkD awkL b1).2.2 = 0 ∧ (addM awkD awkL b1).2.1 = awkL.added b1 ∧ Live awkD1 (awkL.added b1) ∧ awkD1.left < 0 := by
  have z := add_done (b := b1) awk_live.1 (by decide) byt_b1 (by decide) (by rw [awk_live.2]; decide)
  exact ⟨z.1, z.2.1, z.2.2.1, by show (addM awkD awkL b1).1.left < 0; rw [z.2.2.2.2.2.1]; decide⟩
theorem awk_nx1 : (awkL.added b1).next = 6 := by show awkL.next + _ = 6; rw [awk_live.2]; decide
theorem awk_add2 : (addM awkD1 (awkL.added b1) b2).2.2 = 0 ∧ (addM awkD1 (awkL.added b1) b2).2.1 = awkL2 ∧ Live awkD2 awkL2 ∧ Tk awkD2 awkL2 ∧ Full awkD2 awkL2 := by
  have z := add_done (b := b2) awk_add1.2.2.1 awk_add1.2.2.2 byt_b2 (by decide) (by rw [awk_nx1]; decide)
  exact ⟨z.1, z.2.1, z.2.2.1, z.2.2.2.1, z.2.2.2.2.1⟩
theorem awk_nx2 : awkL2.next = 8 := by show (awkL.added b1).next + _ = 8; rw [awk_nx1]; decide
theorem awk_open : (openM awkD2 2 4).l = [b1, b2] ∧ (openM awkD2 2 4).next = 8 ∧ (openM awkD2 2 4).First = 5 ∧ (openM awkD2 2 4).n - (openM awkD2 2 4).hv = 1 := by
  obtain ⟨_, _, h1, h2, h3⟩ := awk_add2
  have z := open_full h1 h2 h3 (by rw [awk_nx2]; decide)
  have hl : (openM awkD2 2 4).l = [b1, b2] := z.1.trans rfl
  refine ⟨hl, z.2.2.1.trans awk_nx2, ?_, ?_⟩
  · unfold LM.First
    rw [if_neg (by rw [hl]; decide)]
    exact (z.2.2.2 (by decide)).trans (by show (awkL.added b1).first = 5; exact awk_live.2)
  · rw [show (openM awkD2 2 4).hv = awkL2.hv from z.2.1]
    decide
theorem awk_o3 : allE awkD2 2 4 = 0 := by
  obtain ⟨_, _, h1, _⟩ := awk_add2
  unfold allE
  rw [if_neg (show ¬ bad awkD2 2 4 from h1.nb), h1.up]
  rfl
theorem awk_s : (strOfNums b1).toList = [97, 98, 99] := by kernel_rfl
theorem krow_at {w : World} {e base : Nat} {ok : Nat → Prop} {v : Value} {l : List (List Int)} (h : KR.R e w base ok v l) (hn : 0 < l.length) : ∃ g c, v = .slice (some ⟨g, 0, none⟩) l.length c ∧ l.length ≤ c ∧ ∀ i : Nat, i < l.length → ∃ A0 c0, w.cell? ⟨g, i, none⟩ = some (.slice A0 (l.getD i []).length c0) ∧ Kd.C (Kd.int .u8) w A0 (l.getD i []).length (l.getD i []) := by
  obtain ⟨A, c, rfl, hc, hC⟩ := Kd.R_reads h
  obtain ⟨h0, inner, ho, hr⟩ := h
  rcases ho.2 with ⟨h2, _⟩ | ⟨g, cap, cur, h2, hg, hh, r⟩
  · injection h2 with _ h3 _
    omega
  · injection h2 with h3 h4 h5
    subst h3
    refine ⟨g, c, rfl, hc, fun i hi => ?_⟩
    obtain ⟨ad, A0, c0, e1, e2, _, e3⟩ := at_L1 hC (i : Int) (by omega) (by omega)
    cases e1
    refine ⟨A0, c0, ?_, e3⟩
    rw [add_z] at e2
    exact e2
set_option maxRecDepth 100000 in
theorem awake_calls (w : World) : Calls Try.prog 28 #[] w fun e w' => e = .returned (.bool true) ∧ Below w.heap.size w w' := by
  have hnew : Calls Try.prog 14 #[.int .i64 8] w _ := Dk.new (w0 := w) (Below.refl _ _) 8 (by omega) (by omega)
  have hmk : ∀ W : World, (Instr.makeSlice 35 (.int .i64 111) (.int .i64 111)).run Try.prog W = .ok (.slice (some ⟨W.heap.size, 0, none⟩) 111 111) (W.alloc (.cells (List.replicate 111 (Value.int .u8 0)).toArray 5)) := run_make_bytes 111 (by omega)
  go_enter Try.func28, Try.ntmps28
  go_wp2_with (first
    | (go_at_call 14; go_loud (refine hnew.mono ?_; rintro e w1 ⟨g, rfl, hd, _⟩; clear hnew; have H1 := Aside0.mk (show Dk w w1 _ g awkD from hd); clear hd))
    | (go_at_call 29; go_loud (have hx := H1.out.begin_ 2 4 5 (by omega) (by omega); rw [awk_e] at hx; refine hx.mono ?_; clear hx; rintro e w2 ⟨v, rfl, _, h2, _⟩; obtain ⟨gl, rfl, hs⟩ := h2 rfl; have H2 := Aside0.mk (show Sys w w2 _ g gl awkD awkL from hs); clear h2 hs H1))
    | ((with_reducible refine gate_dst (N := 30) rfl ?_); go_loud (refine Kd.R_lit (Kd.int .u8) _ 5 ?hg (N := 30) ?hd (xs := b1) (inner := [.int .u8 97, .int .u8 98, .int .u8 99]) (ok := fun k => w2.heap.size ≤ k) (okp := fun _ => False) ?hr ?hp (fun _ hk => hk.elim) (Nat.le_refl _) (Below.refl _ _) (Nat.le_refl _) (by decide) ?_; (case hd => rfl); (case hg => rfl); (case hr => first | (go_simp; done) | (go_simp; rfl)); (case hp => exact Reps.one (show Kd.M (Kd.int .u8) _ _ _ 97 [.int .u8 97] from rfl) (Reps.one (show Kd.M (Kd.int .u8) _ _ _ 98 [.int .u8 98] from rfl) (Reps.one (show Kd.M (Kd.int .u8) _ _ _ 99 [.int .u8 99] from rfl) (Reps.none _ _)))); intro v3 w3 ho3 hb3 hg3 hnew3; obtain ⟨A3, c3, rfl, _, _⟩ := Kd.R_reads ho3; have H3 := Aside0.mk (And.intro ho3 hb3); clear ho3 hb3 hg3 hnew3))
    | ((with_reducible refine gate_dst (N := 31) rfl ?_); go_loud (refine conv_event (w0 := w2) (base := w2.heap.size) rfl rfl Try.underlying35 Try.underlying5 rfl H3.out.1 (by decide) H3.out.2 (below_size H3.out.2) ?_; intro w4 hn4 hc4 hC4 hg4 hb4; have H4 := Aside0.mk (And.intro hC4 (And.intro hb4 (And.intro H3.out.1 hc4))); clear hn4 hc4 hC4 hg4 hb4))
    | (go_at_call 30; have _t := H5; go_loud (obtain ⟨g6, hg6⟩ : ∃ g6, g6 = w5.heap.size := ⟨_, rfl⟩; have hb6 : Below w5.heap.size w5 (w5.alloc (.cells (nums .u8 b2).toArray 5)) := (Below.refl _ _).alloc (Nat.le_refl _) _; have hx := (H5.out.below hb6).add (b := b2) (A := some ⟨w5.heap.size, 0, none⟩) (c := 111) (fun W hk => C_blk (blk_kept (blk_new w5 _) hk (fun hE => by have := (H5.out.ed _ hE).2; omega)) (by decide)) (by decide) (by decide) byt_b2; rw [awk_add2.1] at hx; refine hx.mono ?_; clear hx; rintro e w7 ⟨rfl, hs7, _⟩; rw [awk_add2.2.1] at hs7; have H7 := Aside0.mk (show Sys w w7 _ g gl awkD2 awkL2 from hs7); clear hs7 hb6))
    | (go_at_call 30; go_loud (have hx := (H2.out.below H4.out.2.1).add (b := b1) (A := A3) (c := c3) (fun W hk => C_kept H4.out.1 hk (fun ad ea hE => by have h1 := H4.out.2.2.1.1 ad.block (by rw [ea]; rfl); have h2 := (H2.out.ed _ hE).2; omega)) H4.out.2.2.2 (by decide) byt_b1; rw [awk_add1.1] at hx; refine hx.mono ?_; clear hx; rintro e w5 ⟨rfl, hs5, _⟩; rw [awk_add1.2.1] at hs5; have H5 := Aside0.mk (show Sys w w5 _ g gl awkD1 (awkL.added b1) from hs5); clear hs5))
    | (go_at_call 36; go_loud (have hx := H7.out.dk.open_ 2 4; rw [awk_o3] at hx; refine hx.mono ?_; clear hx; rintro e w8 ⟨v, rfl, _, h2, _⟩; obtain ⟨gm, rfl, hs⟩ := h2 rfl; have H8 := Aside0.mk (show Sys w w8 _ g gm awkD2 (openM awkD2 2 4) from hs); clear h2 hs H7))
    | (go_at_call 31; go_loud (have hx := H8.out.records; rw [awk_open.1] at hx; refine hx.mono ?_; clear hx; rintro e w9 ⟨v9, rfl, hr9, hb9⟩; obtain ⟨gr, cr, rfl, _, hat⟩ := krow_at hr9 (by decide); have H9 := Aside0.mk (H8.out.below hb9); obtain ⟨A0, c0, q0, q1⟩ := hat 0 (by decide); obtain ⟨A1, c1, q2, _⟩ := hat 1 (by decide); have hcv := conv_nums (c := c0) (n := 3) byt_b1 rfl q1 (Below.refl _ _); have e0 : w9.cell? ⟨gr, 0, none⟩ = some (.slice A0 3 c0) := q0; have e1 : w9.cell? ⟨gr, 1, none⟩ = some (.slice A1 111 c1) := q2; have hs2 := awk_s; clear hr9 hb9 hat q0 q1 q2))
    | (go_at_call 32; go_loud (have hx := H9.out.next; rw [awk_open.2.1] at hx; refine hx.mono ?_; clear hx; rintro e w' ⟨rfl, rfl⟩))
    | (go_at_call 33; go_loud (have hx := H9.out.first; rw [awk_open.2.2.1] at hx; refine hx.mono ?_; clear hx; rintro e w' ⟨rfl, rfl⟩))
    | (go_at_call 34; go_loud (have hx := H9.out.free; rw [awk_open.2.2.2] at hx; refine hx.mono ?_; clear hx; rintro e w10 ⟨rfl, hb10⟩; have H10 := Aside0.mk (H9.out.below hb10); clear hb10))
    | (go_at_call 35; go_loud (refine (blocks_calls 111 (by omega)).mono ?_; rintro e w11 ⟨rfl, hb11⟩; have H11 := Aside0.mk (H10.out.below hb11); clear hb11; have hbl : blocksM 111 = 2 := by decide)))
  go_ret
  exact ⟨rfl, H11.out.bl⟩
end Go.Proofs.Ytnajdnhgoakgaaa.Wal
