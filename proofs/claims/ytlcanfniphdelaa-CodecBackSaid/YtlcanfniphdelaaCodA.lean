/- 'awake' of layer 1. -/
import Derived.Test.YtlcanfniphdelaaCodJ
import Derived.Test.YtlcanfniphdelaaConv
import Derived.ChangeKeysEq
namespace Go.Proofs.Ytlcanfniphdelaa.Cod
open Go.RowKit Go.Proofs.YtlcanfniphdelaaW.PrintWords Go.Proofs.YtlcanfniphdelaaW.PrintLast Go.Proofs.YtlcanfniphdelaaW.PrintMore Go.Proofs.Ytlcanfniphdelaa.Mem Go.Proofs.Ytlcanfniphdelaa.PCod Go.Proofs.Ytlcanfniphdelaa.Conv
set_option linter.unusedVariables false
set_option linter.unusedSimpArgs false
section
variable {w : World} {R : RM} {b r xs : List Int}
theorem own_at {w : World} {e base : Nat} {ok : Nat → Prop} {v : Value} {xs : List Int} (h : Kd.R (Kd.int .u8) e w base ok v xs) (hn : 0 < xs.length) : ∃ b c, v = .slice (some ⟨b, 0, none⟩) xs.length c ∧ base ≤ b ∧ b < w.heap.size ∧ ok b ∧ xs.length ≤ c ∧ ∀ i : Nat, i < xs.length → w.cell? ⟨b, i, none⟩ = some (.int .u8 (rd xs i)) := by
  obtain ⟨A, c, rfl, hc, hC⟩ := Kd.R_reads h
  have hB := Kd.R_bound h
  obtain ⟨h0, inner, ho, hr⟩ := h
  rcases ho.2 with ⟨h2, _⟩ | ⟨g, cap, cur, h2, hg, hh, r⟩
  · injection h2 with _ h3 _
    omega
  · injection h2 with h3 h4 h5
    subst h3
    refine ⟨g, c, rfl, hg, blk_lt hh, h0 g (by simp [Value.ownBlock]), hc, fun i hi => ?_⟩
    obtain ⟨ad, e1, e2⟩ := Kd.at_int hC i (by omega) (by omega)
    cases e1
    rw [← e2]
    congr 1
    unfold Addr.add
    split <;> simp_all
/-- A row as a string, in any later world. -/
theorem conv_row {w wd : World} {A : Option Addr} {c : Nat} {n : Nat} {xs : List Int} (hn : n = xs.length) (h : Kd.C (Kd.int .u8) w A xs.length xs) (hb : Below w.heap.size w wd) :
    (convert 27 9 (.slice A n c)).run Try.prog wd = .ok (.string (S xs)) wd := by
  subst hn
  exact Kd.C_string (P := Try.prog) (w := wd) (src := 27) (dst := 9) (e := 5) Try.underlying27 Try.underlying5 Try.underlying9 (Kd.C_below h hb)
theorem awk_b : ([] ++ putNum 300 ++ [bit true] ++ putNum (([120, 121] : List Int).length : Int) ++ [120, 121]) = [172, 2, 1, 2, 120, 121] := by kernel_rfl
theorem awk_u : (⟨[172, 2, 1, 2, 120, 121], 0⟩ : RM).uint = (⟨[1, 2, 120, 121], 0⟩, 300) := by kernel_rfl
theorem awk_o : (⟨[1, 2, 120, 121], 0⟩ : RM).bool = (⟨[2, 120, 121], 0⟩, true) := by kernel_rfl
theorem awk_y : (⟨[2, 120, 121], 0⟩ : RM).bytes 5 = (⟨[], 0⟩, [120, 121]) := by kernel_rfl
theorem awk_e : (⟨[], 0⟩ : RM).end_ = 0 := by kernel_rfl
theorem awk_l : (⟨[1], 0⟩ : RM).end_ = 12 := by kernel_rfl
theorem awk_s : (S [120, 121]).toList = [120, 121] := by kernel_rfl
theorem byt2 : Byt [120, 121] := by intro x hx; simp at hx; omega
theorem byt1 : Byt [1] := by intro x hx; simp at hx; omega
theorem byt6 : Byt [172, 2, 1, 2, 120, 121] := by intro x hx; simp at hx; omega
set_option maxHeartbeats 2000000 in
set_option maxRecDepth 100000 in
theorem awake_calls : Calls Try.prog 9 #[] w fun e w' => e = .returned (.bool true) ∧ Below w.heap.size w w' := by
  go_enter Try.func9, Try.ntmps9
  go_wp2_with (first
    | (go_at_call 10; go_loud (refine (newWriter_calls (w := w)).mono ?_; rintro e w1 ⟨rfl, hd1, hb1⟩; have H1 := Aside0.mk (And.intro hd1 hb1); clear hd1 hb1))
    | (go_at_call 11; go_loud (refine (wuint_calls H1.out.2 (Nat.le_refl _) H1.out.1 300 (by omega) (by omega) (by simp)).mono ?_; rintro e w2 ⟨rfl, hd2, hb2, hk2⟩; have H2 := Aside0.mk (And.intro hd2.cut hb2); clear hd2 hb2 hk2))
    | (go_at_call 15; go_loud (refine (wbool_calls H2.out.2 (Nat.le_refl _) H2.out.1 true (by decide)).mono ?_; rintro e w3 ⟨rfl, hd3, hb3, hk3⟩; have H3 := Aside0.mk (And.intro hd3.cut hb3); clear hd3 hb3 hk3))
    | ((with_reducible refine gate_dst (N := 13) rfl ?_); go_loud (refine Kd.R_lit (Kd.int .u8) _ 5 ?hg (N := 13) ?hd (xs := ([120, 121] : List Int)) (inner := [.int .u8 120, .int .u8 121]) (ok := fun k => w3.heap.size ≤ k) (okp := fun _ => False) ?hr ?hp (fun _ hk => hk.elim) (Nat.le_refl _) (Below.refl _ _) (Nat.le_refl _) (by simp) ?_; (case hd => rfl); (case hg => rfl); (case hr => first | (go_simp; done) | (go_simp; rfl)); (case hp => exact Reps.one (show Kd.M (Kd.int .u8) _ _ _ 120 [.int .u8 120] from rfl) (Reps.one (show Kd.M (Kd.int .u8) _ _ _ 121 [.int .u8 121] from rfl) (Reps.none _ _))); intro v4 w4 ho4 hb4 hg4 hnew4; obtain ⟨A4, c4, rfl, _, _⟩ := Kd.R_reads ho4; have H4 := Aside0.mk (And.intro ho4 hb4); clear ho4 hb4 hg4 hnew4))
    | ((with_reducible refine gate_dst (N := 14) rfl ?_); go_loud (refine conv_event (w0 := w3) (base := w3.heap.size) rfl rfl Try.underlying27 Try.underlying5 rfl H4.out.1 (by simp) H4.out.2 (below_size H4.out.2) ?_; intro w5 hn5 hc5 hC5 hg5 hb5; have H5 := Aside0.mk (And.intro hC5 (And.intro hb5 (And.intro H4.out.1 hc5))); clear hn5 hc5 hC5 hg5 hb5))
    | (go_at_call 13; go_loud (refine (wbytes_calls (ys := [120, 121]) (below_step H3.out.2 H5.out.2.1) (Nat.le_refl _) (H3.out.1.below H5.out.2.1) A4 2 c4 rfl H5.out.1 (fun ad e hk => by have h1 := H4.out.1.1 ad.block (by rw [e]; rfl); have h2 := hk.2.2; omega) (by decide) byt2).mono ?_; rintro e w6 ⟨rfl, hd6, hb6, hk6⟩; rw [awk_b] at hd6; have H6 := Aside0.mk (And.intro hd6 hb6); clear hd6 hb6 hk6))
    | (go_at_call 17; go_loud (refine (wout_calls H6.out.1).mono ?_; rintro e w7 ⟨v7, rfl, hv7, hb7⟩; obtain ⟨b7, c7, rfl, hl7, hu7, _, hc7, hat7⟩ := own_at hv7 (by decide); have H7 := Aside0.mk (And.intro hv7 (And.intro (below_step H6.out.2 hb7) (And.intro hat7 hu7))); clear hv7 hb7 hl7 hu7 hat7))
    | (go_at_call 18; have _t := H12; (refine (newReader_calls (xs := [1]) _ _ (one_reads w11 1) (by decide) (by decide) byt1).mono ?_; rintro e w13 ⟨g13, rfl, hd13, hb13⟩; have H13 := Aside0.mk (And.intro hd13 (below_step H12.out (below_step (below_alloc (Below.refl _ _) _) hb13))); clear hd13 hb13))
    | (go_at_call 18; go_loud (refine (newReader_calls (xs := [172, 2, 1, 2, 120, 121]) _ _ (Kd.R_reads' H7.out.1).2.2 (by exact hc7) (by decide) byt6).mono ?_; rintro e w8 ⟨g8, rfl, hd8, hb8⟩; have H8 := Aside0.mk (And.intro hd8 hb8); clear hd8 hb8))
    | (go_at_call 19; go_loud (refine (uint_any H8.out.2 (fun k h => h.1) H8.out.1).mono ?_; rw [awk_u]; rintro e w9 ⟨rfl, hd9, hb9, _⟩; have H9 := Aside0.mk (And.intro hd9 hb9); clear hd9 hb9))
    | (go_at_call 21; go_loud (refine (bool_calls H9.out.2 (fun k h => h.1) H9.out.1).mono ?_; rw [awk_o]; rintro e w10 ⟨rfl, hd10, hb10, _⟩; have H10 := Aside0.mk (And.intro hd10 hb10); clear hd10 hb10))
    | (go_at_call 20; go_loud (refine (bytes_calls H10.out.2 (fun k h => h.1) H10.out.1 5 (by omega)).mono ?_; rw [awk_y]; rintro e w11 ⟨v11, rfl, hv11, hd11, hb11, _⟩; obtain ⟨A11, c11, rfl, _, hC11⟩ := Kd.R_reads hv11; have hcv := conv_row (c := c11) (n := 2) rfl hC11 (Below.refl _ _); have hs2 := awk_s; have e0 : w11.cell? ⟨b7, 0, none⟩ = some (.int .u8 172) := (hb11.cell (p := ⟨b7, 0, none⟩) H7.out.2.2.2).trans (H7.out.2.2.1 0 (by decide)); have e1 : w11.cell? ⟨b7, 1, none⟩ = some (.int .u8 2) := (hb11.cell (p := ⟨b7, 1, none⟩) H7.out.2.2.2).trans (H7.out.2.2.1 1 (by decide)); have H11 := Aside0.mk (And.intro hd11 (below_step H7.out.2.1 hb11)); clear hd11 hb11 hv11 hC11))
    | (go_at_call 23; have _t := H13; (refine (end_calls H13.out.1).mono ?_; rw [awk_l]; rintro e w14 ⟨rfl, rfl⟩))
    | (go_at_call 23; go_loud (refine (end_calls H11.out.1).mono ?_; rw [awk_e]; rintro e w12 ⟨rfl, rfl⟩; have H12 := Aside0.mk H11.out.2; clear H11)))
  go_ret
  exact ⟨rfl, H13.out.2⟩
/-- A row that came in, as it is read. -/
def InRow (w : World) (a : Option Addr) (len cap : Nat) (zs : List Int) : Prop :=
  (a = none ∧ len = 0 ∧ cap = 0 ∧ zs = []) ∨
  ∃ x, a = some x ∧ len ≤ cap ∧ cap ≤ maxLen ∧ zs.length = cap ∧ (∀ i, i < zs.length → w.cell? (x.add i) = some (.int .u8 (zs.getD i 0))) ∧ ∀ n ∈ zs, (Lit.int .u8 n).wf = true
theorem row_bytes {a : Option Addr} {len cap : Nat} {zs : List Int} (h : InRow w a len cap zs) (hl : len * 1 ≤ 140737488351232) : ∃ xs, len = xs.length ∧ Kd.C (Kd.int .u8) w a xs.length xs ∧ len ≤ cap ∧ len < 140737488355328 ∧ Byt xs := by
  obtain ⟨l0, rfl, hr0, hm0, hw0, hc0⟩ := ReadsInt.ofRowC h
  exact ⟨l0, rfl, Kd.C_of_reads (d := (0 : Int)) (h1 := fun _ => rfl) hr0, hc0, by omega, byt_of_wf hw0⟩
/-! ### digests, compared -/
theorem plain_u8 : Try.prog.plainKey 5 = true := by kernel_rfl
theorem cells_u8 : Try.prog.cellsOf 5 = 1 := by kernel_rfl
theorem items_eq (W : World) (a b : List Int) : ∀ is : List Nat, (∀ j ∈ is, j < a.length ∧ j < b.length) →
    (Op.eqItems 9999 5 (Try.prog.cellsOf 5) (nums .u8 a).toArray (nums .u8 b).toArray is).run Try.prog W = .ok (is.all fun j => a.getD j 0 == b.getD j 0) W := by
  intro is
  induction is with
  | nil => intro _; simp [Op.eqItems]
  | cons j is ih =>
    intro h
    have hj := h j List.mem_cons_self
    have e : ∀ l : List Int, j < l.length → (nums .u8 l).toArray[j * Try.prog.cellsOf 5]? = some (.int .u8 (l.getD j 0)) := fun l hl => by
      rw [cells_u8, Nat.mul_one, List.getElem?_toArray]
      unfold nums
      rw [List.getElem?_map, List.getElem?_eq_getElem hl, List.getD_eq_getElem?_getD, List.getElem?_eq_getElem hl]
      rfl
    simp only [Op.eqItems, Sem.run_bind, run_part_plain W plain_u8 (e a hj.1), run_part_plain W plain_u8 (e b hj.2), Result.andThen_ok, run_equalIn_int W 9998 5 .u8 .u8 (a.getD j 0) (b.getD j 0) Try.underlying5, List.all_cons]
    cases hq : (a.getD j 0 == b.getD j 0)
    · simp
    · simp only [Bool.not_true, Bool.false_eq_true, if_false, Bool.true_and]
      exact ih (fun k hk => h k (List.mem_cons_of_mem _ hk))
theorem eq_id (a b : List Int) (ha : a.length = 32) (hb : b.length = 32) (W : World) : (Op.equalIn 10000 61 (.agg (nums .u8 a).toArray) (.agg (nums .u8 b).toArray)).run Try.prog W = .ok (a == b) W := by
  obtain ⟨i, hi, _⟩ := Option.map_eq_some_iff.1 info_u8s
  rw [run_equalIn_array W 9999 _ _ Try.underlying61 hi, items_eq W a b (List.range 32) (fun j hj => by have := List.mem_range.1 hj; omega)]
  congr 1
  rw [Bool.eq_iff_iff, List.all_eq_true, beq_iff_eq]
  constructor
  · intro h
    apply List.ext_getElem (by omega)
    intro j h1 h2
    have h3 := h j (List.mem_range.2 (by omega))
    rw [beq_iff_eq, List.getD_eq_getElem?_getD, List.getD_eq_getElem?_getD, List.getElem?_eq_getElem h1, List.getElem?_eq_getElem h2] at h3
    exact h3
  · intro h j _
    rw [h]; simp
end
end Go.Proofs.Ytlcanfniphdelaa.Cod
