/- slices.Chunk: the iterator's contract. -/
import Derived.RangeFuncNested
import Derived.RangeFuncBound
import Derived.RangeFuncCalls
import Derived.RangeFuncLeaves
import Derived.RangeFuncBox
import Derived.Shelf.Abstract
import Derived.Shelf.RegionOpen
import Derived.WalkKit
import Derived.OwnWalkIn
import Derived.TacticsInMore
import Derived.LoopNIn
import Derived.LoopIn
import Derived.Maps.AppendAt
import Derived.Test.YtnajdnhgoakgaaaMem
namespace Go.Proofs.Ytnajdnhgoakgaaa.Wal
open Go.RowKit Go.Shelf Go.Proofs.YtnajdnhgoakgaaaW.PrintWords Go.Proofs.YtnajdnhgoakgaaaW.PrintMore Go.Proofs.Ytnajdnhgoakgaaa.Mem
attribute [local go_sem] Oper.semAt_some
attribute [local go_sem] max2_int min2_int max_two min_two max_three min_three max_four min_four
set_option linter.unusedVariables false
set_option linter.unusedSimpArgs false
/-- What has come when k rounds are over. -/
def upto {α : Type} (f : Nat → α) (k : Nat) : List α := (List.range k).map f
theorem upto_succ {α : Type} (f : Nat → α) (k : Nat) : upto f (k + 1) = upto f k ++ [f k] := by simp [upto, List.range_succ]
theorem upto_length {α : Type} (f : Nat → α) (k : Nat) : (upto f k).length = k := by simp [upto]
/-- How many pieces of 110 there are; piece j. -/
def pieces (len : Nat) : Nat := (len + 109) / 110
def pieceLen (len j : Nat) : Nat := min 110 (len - 110 * j)
def pieceAt (ad : Addr) (len j : Nat) : Addr × Nat := (ad.add (110 * j), pieceLen len j)
def pieceV (x : Addr × Nat) : Value := .slice (some x.1) x.2 x.2
theorem info_u8s : (Try.prog.info? 5).map (·.size) = some 1 := by kernel_rfl
theorem cut_len (ad : Addr) (n c : Nat) (i : Nat) (hi : i ≤ n) : ∃ A c', ∀ W : World, (Instr.slice 35 (.slice (some ad) n c) (some (.int .i64 (i : Int))) none none).run Try.prog W = .ok (.slice A (n - i) c') W := by
  obtain ⟨i0, hi0, hz⟩ := Option.map_eq_some_iff.1 info_u8s
  have h := cut_from (P := Try.prog) 35 5 .i64 Try.underlying35 hi0 1 hz (some ad) n c (i : Int) (by omega) (by omega)
  exact ⟨_, _, by simpa using h⟩
theorem cut_mid (ad : Addr) (n c : Nat) (i j : Nat) (hij : i < j) (hj : j ≤ c) : ∀ W : World, (Instr.slice 35 (.slice (some ad) n c) (some (.int .i64 (i : Int))) (some (.int .i64 (j : Int))) (some (.int .i64 (j : Int)))).run Try.prog W = .ok (.slice (some (ad.add i)) (j - i) (j - i)) W := by
  intro W
  obtain ⟨i0, hi0, hz⟩ := Option.map_eq_some_iff.1 info_u8s
  have hel : Try.prog.elem 35 = 5 := by simp [Program.elem, Try.underlying35]
  have hu : Try.prog.underlying 35 = some (.slice (Try.prog.elem 35)) := by rw [hel]; exact Try.underlying35
  simp [Instr.slice, run_underlying hu, Instr.sliceBounds, run_sliceBound, hj, hel, sizeOf, typeInfo, hi0, hz, hij, Nat.le_of_lt hij]
  exact fun e => absurd e (by omega)
set_option maxRecDepth 100000 in
set_option maxHeartbeats 4000000 in
/-- The closure of slices.Chunk(s, 110): piece by piece. -/
theorem chunk1_in (F : Fence) (n : Nat) (h1 : F.fn 61) (hro : F.round = none) (hn : 1 ≤ n) (l Bs Bn n₀ : Nat) (ad : Addr) (len cap : Nat) (hc : len ≤ cap) (hreach : len < 140737488355328) (hBs : Bs < n₀) (hBn : Bn < n₀) (J Jx : List (Addr × Nat) → World → Prop) (hJd : ∀ pre W, J pre W → J pre W.drew)
    (hY : ∀ pre x W, J pre W → pre.length < pieces len → YieldAt F (n - 1) Try.prog l #[pieceV x] W fun e W' =>
      (e = .returned (.bool true) ∧ J (pre ++ [x]) W' ∧ Below n₀ W W') ∨ (e = .returned (.bool false) ∧ Jx (pre ++ [x]) W'))
    (W : World) (hs : W.cell? ⟨Bs, 0, none⟩ = some (.slice (some ad) len cap)) (hm : W.cell? ⟨Bn, 0, none⟩ = some (.int .i64 110)) (h0 : J [] W) :
    CallsIn F n Try.prog 61 #[.func (.yield l) #[] #[], .pointer (some ⟨Bs, 0, none⟩), .pointer (some ⟨Bn, 0, none⟩)] W fun e W' => (∃ v, e = .returned v) ∧
      ((∃ ys, ys = upto (pieceAt ad len) (pieces len) ∧ J ys W') ∨ (∃ pre, (∃ k, k ≤ pieces len ∧ pre = upto (pieceAt ad len) k) ∧ Jx pre W')) := by
  refine callsIn_of_wp Try.func61 rfl h1 ?_ hro
  simp only [Try.ntmps61, List.size_toArray, List.length_cons, List.length_nil, Nat.reduceAdd, Nat.reduceSub, Array.replicate_succ, Array.replicate_zero, List.push_toArray, List.append_toArray, List.nil_append, List.cons_append]
  gi_wp2
  gi_loopw [4] (fun i wr => ∃ k : Nat, k ≤ pieces len ∧ i = .int .i64 ((110 * k : Nat) : Int) ∧ J (upto (pieceAt ad len) k) wr ∧ Below n₀ W wr)
    (fun i _ => len + 110 - (intOf i).toNat)
  case atStart => exact ⟨0, Nat.zero_le _, rfl, h0, Below.refl _ _⟩
  case round =>
    obtain ⟨k, hk, rfl, hJs, hnx⟩ := hrel
    have HM := Aside0.mk hm
    have hs' := (hnx.cell (p := ⟨Bs, 0, none⟩) hBs).trans hs
    have hm' := (hnx.cell (p := ⟨Bn, 0, none⟩) hBn).trans hm
    obtain ⟨i, hi⟩ : ∃ i, i = 110 * k := ⟨_, rfl⟩
    rw [← hi]
    by_cases hlt : i < len
    · obtain ⟨c, hcE⟩ : ∃ c, c = pieceLen len k := ⟨_, rfl⟩
      have hkp : k < pieces len := by unfold pieces; omega
      have hcv : c ≤ 110 ∧ c ≤ len - i ∧ 1 ≤ c ∧ (c = 110 ∨ c = len - i) := by rw [hcE, hi]; unfold pieceLen; omega
      have hy0 := hY _ (pieceAt ad len k) wr.drew (hJd _ _ hJs) (by rw [upto_length]; exact hkp)
      have hyv : pieceV (pieceAt ad len k) = .slice (some (ad.add i)) c c := by rw [hcE, hi]; rfl
      rw [hyv] at hy0
      obtain ⟨fn, tmps, assign, body, hy, hR⟩ := hy0
      have d1 : decide ((i : Int) < (len : Int)) = true := decide_eq_true (by omega)
      obtain ⟨A1, c1, hs1⟩ := cut_len ad len cap i (by omega)
      obtain ⟨en, hen⟩ : ∃ en, en = i + c := ⟨_, rfl⟩
      have hs2 := cut_mid ad len cap i en (by omega) (by omega)
      have hij : en - i = c := by omega
      have hmin : (if ((len - i : Nat) : Int) < 110 then ((len - i : Nat) : Int) else 110) = (c : Int) := by split <;> omega
      have hwe : wrap64 ((i : Int) + (c : Int)) = (en : Int) := (IntWalk.wrap64_in _ ⟨by omega, by omega⟩).trans (by omega)
      rw [hij] at hs2
      clear hij hen
      have HC := Aside0.mk (And.intro hcE (And.intro hcv (And.intro hkp (And.intro hk (And.intro hi hnx)))))
      clear hcE hcv hkp hk hi hnx hs hm hJs h0 hyv
      gi_wp2
      refine (fun (hfin : ?fin) => ?body) ?prf
      case body => gi_region <;> exact hfin
      clear hY
      gi_wp2
      refine hR.mono ?_
      rintro e W3 (⟨rfl, hJ3, hk3⟩ | ⟨rfl, hJx3⟩)
      · have hnx3 : Below n₀ W W3 := HC.out.2.2.2.2.2.trans ((below_drew (Below.refl n₀ wr)).trans hk3)
        have hm3 := (hnx3.cell (p := ⟨Bn, 0, none⟩) hBn).trans HM.out
        clear hs' hm' hs2 hmin hwe hs1 hy hR
        gi_wp2
        go_roundw
        case rel =>
          obtain ⟨hcE, hcv, hkp, hk, hi, hnx⟩ := HC.out
          exact ⟨k + 1, by omega, by rw [show ((110 * (k + 1) : Nat) : Int) = (i : Int) + 110 by omega], by rw [upto_succ]; exact hJ3, hnx3⟩
        case measure =>
          obtain ⟨hcE, hcv, hkp, hk, hi, hnx⟩ := HC.out
          simp [intOf]
          omega
      · gi_wp2
        refine bodyPost_ret (results_none rfl _ _ _) rfl ?_
        exact ⟨⟨_, rfl⟩, .inr ⟨_, ⟨k + 1, by have := HC.out.2.2.1; omega, (upto_succ _ _).symm⟩, hJx3⟩⟩
    · have hke : k = pieces len := by unfold pieces at hk ⊢; omega
      subst hke
      have d1 : decide ((i : Int) < (len : Int)) = false := decide_eq_false (by omega)
      clear hY
      gi_wp2
      go_end0
      exact ⟨⟨_, rfl⟩, .inl ⟨_, rfl, hJs⟩⟩
theorem upto_prefix (f : Nat → Addr × Nat) {k n : Nat} (hk : k ≤ n) : upto f k <+: upto f n := by
  refine ⟨(upto f n).drop k, ?_⟩
  have h : upto f k = (upto f n).take k := by
    unfold upto
    rw [← List.map_take, List.take_range, Nat.min_eq_left hk]
  rw [h, List.take_append_drop]
/-- slices.Chunk(s, 110) hands back a value that gives the pieces. -/
theorem chunk_stops (F : Fence) (n : Nat) (h1 : F.fn 61) (hro : F.round = none) (hn : 1 ≤ n) (Bs Bn n₀ : Nat) (ad : Addr) (len cap : Nat) (hc : len ≤ cap) (hreach : len < 140737488355328) (w : World) (hBs : Bs < n₀) (hBn : Bn < n₀) (hn₀ : n₀ ≤ w.heap.size)
    (hs : w.cell? ⟨Bs, 0, none⟩ = some (.slice (some ad) len cap)) (hm : w.cell? ⟨Bn, 0, none⟩ = some (.int .i64 110)) :
    SeqStopsK F n Try.prog 61 #[.pointer (some ⟨Bs, 0, none⟩), .pointer (some ⟨Bn, 0, none⟩)] (fun x : Addr × Nat => #[.slice (some x.1) x.2 x.2]) (Below n₀) (fun ys => ys = upto (pieceAt ad len) (pieces len)) (fun pre => pre <+: upto (pieceAt ad len) (pieces len)) (pieces len) w := fun l J Jx W hW hJ _ hY h0 => by
  have hJd : ∀ pre W1, J pre W1 → J pre W1.drew := fun pre W1 h => hJ pre W1 W1.drew none h ⟨rfl, rfl, rfl, Nat.le_refl _, fun _ _ _ => rfl⟩ (fun r e => by cases e)
  refine (chunk1_in F n h1 hro hn l Bs Bn n₀ ad len cap hc hreach hBs hBn J Jx hJd hY W ((hW.cell (p := ⟨Bs, 0, none⟩) (Nat.lt_of_lt_of_le hBs hn₀)).trans hs) ((hW.cell (p := ⟨Bn, 0, none⟩) (Nat.lt_of_lt_of_le hBn hn₀)).trans hm) h0).mono ?_
  rintro e W' ⟨he, ⟨ys, rfl, hj⟩ | ⟨pre, ⟨k, hk, rfl⟩, hj⟩⟩
  · exact ⟨he, .inl ⟨_, rfl, hj⟩⟩
  · exact ⟨he, .inr ⟨_, upto_prefix _ hk, hj⟩⟩
theorem info_row : (Try.prog.info? 35).map (fun i => (i.zero, i.size, i.bytes)) = some (some (.slice none 0 0), 1, 24) := by kernel_rfl
set_option maxRecDepth 100000 in
set_option maxHeartbeats 4000000 in
/-- slices.AppendSeq(nil, slices.Chunk(s, 110)). -/
theorem appendSeq_in (F : Fence) (n : Nat) (h60 : F.fn 60) (h61 : F.fn 61) (hro : F.round = none) (hn : 3 ≤ n) (Bs Bn : Nat) (ad : Addr) (len cap : Nat) (hc : len ≤ cap) (hreach : pieces len * 24 ≤ 140737488355328) (hl : len < 140737488355328) (w : World) (hBs : Bs < w.heap.size) (hBn : Bn < w.heap.size)
    (hs : w.cell? ⟨Bs, 0, none⟩ = some (.slice (some ad) len cap)) (hm : w.cell? ⟨Bn, 0, none⟩ = some (.int .i64 110)) :
    CallsIn F n Try.prog 60 #[.slice none 0 0, .func (.func 61) #[] #[.pointer (some ⟨Bs, 0, none⟩), .pointer (some ⟨Bn, 0, none⟩)]] w fun e W' => ∃ v, e = .returned v ∧ W'.ownsRow w.heap.size 35 1 v (pieces len) ((upto (pieceAt ad len) (pieces len)).map pieceV) ∧ Below w.heap.size w W' := by
  have h1 : 1 ≤ n := by omega
  obtain ⟨i0, hi, hz0, hz1, hz2⟩ := info_parts info_row
  refine callsIn_of_wp_marks Try.func60 rfl h60 ?_ hro
  simp only [Try.ntmps60, List.size_toArray, List.length_cons, List.length_nil, Nat.reduceAdd, Nat.reduceSub, Array.replicate_succ, Array.replicate_zero, List.push_toArray, List.append_toArray, List.nil_append, List.cons_append]
  gi_wp2
  have bO := Boxed.new w 56 (.slice none 0 0)
  have hB0 : Below w.heap.size w (w.alloc (.cells #[.slice none 0 0] 56)) := (Below.refl _ w).alloc (Nat.le_refl _) _
  refine wpIn_rangeFunc_ownG hro h1 (gf := 61) (lb := #[.pointer (some ⟨Bs, 0, none⟩), .pointer (some ⟨Bn, 0, none⟩)]) rfl h61 (enters_of Try.func61 (by kernel_rfl) rfl)
    (chunk_stops F (n - 1) h61 hro (by omega) Bs Bn w.heap.size ad len cap hc hl _ hBs hBn (by simp) ((hB0.cell (p := ⟨Bs, 0, none⟩) hBs).trans hs) ((hB0.cell (p := ⟨Bn, 0, none⟩) hBn).trans hm)) belowK_t (belowK_b (by simp)) (Below.refl _ _) (fun _ => rfl)
    (fun pre W => (∃ v, Boxed W w.heap.size 56 v ∧ W.ownsRow w.heap.size 35 1 v pre.length (pre.map pieceV) ∧ (v = .slice none 0 0 ↔ pre = [])) ∧ Below w.heap.size w W)
    (fun _ _ _ => False)
    (OwnFrom.and (Own.from (holdsRow_own w.heap.size w.heap.size 56 35 1 (fun pre => pre.length) (fun pre => pre.map pieceV) (fun pre v => v = .slice none 0 0 ↔ pre = [])) _) (ownFrom_below (Nat.le_refl _) (by simp)))
    (fun _ _ _ _ _ hs _ _ => hs)
    ⟨⟨_, bO, World.ownsRow_nil _ _ _ _, by simp⟩, hB0⟩
    (fun x => { tmps := #[.slice none 0 0, .func (.func 61) #[] #[.pointer (some ⟨Bs, 0, none⟩), .pointer (some ⟨Bn, 0, none⟩)], .pointer (some ⟨w.heap.size, 0, none⟩), undef, .slice none 0 0, (.slice (some x.1) x.2 x.2), .func (.func 61) #[] #[.pointer (some ⟨Bs, 0, none⟩), .pointer (some ⟨Bn, 0, none⟩)], (.slice (some x.1) x.2 x.2), undef, undef, undef, undef, undef], defers := [] }) ?assign ?body ?done ?stop
  case assign =>
    intro l x W K hK
    gi_wp2
    exact hK
  case body =>
    rintro l pre x W ⟨⟨v, hv, hrow, hnil⟩, hB⟩ hlt
    have hc := hv.cell
    have hmx : pre.length + 1 ≤ maxLen := by unfold maxLen; omega
    gi_wp2_with (gi_at_builtin; refine wpListIn_append_own _ rfl _ _ 56 rfl w.heap.size 35 i0 (.slice none 0 0) 1 24 Try.underlying56 hi hz0 hz1 hz2 rfl (by decide) _ _ _ rfl (hrow.alloc _) ⟨W.heap.size, 0, none⟩ 1 1 [(.slice (some x.1) x.2 x.2)] rfl rfl (cell_one_new _ _ _) (by simp [Value.oneCell']) hmx (by omega) (by have := hB.size; simp; omega) ?_; intro v' w1 hown' hgrow _; obtain ⟨g', cap', rfl⟩ := ownsRow_succ hown'; obtain ⟨hv1, hv2, hr2, hk2, hb2⟩ := hv.appended (by decide) hrow hB.size (Nat.le_refl _) hown' hgrow; have hc1 := hv1.cell; have hf1 := hv1.frozen)
    exact ⟨hk2.from _, hb2, ⟨_, hv2, by simpa [pieceV] using hr2, by simp⟩, hB.trans hb2⟩
  case done =>
    rintro D ys W hD rfl ⟨⟨v, hv, hrow, hnil⟩, hB⟩ hK
    have hc := hv.cell
    gi_wp2
    refine ⟨by simp, .inl ⟨_, _, rfl, run_takeDeferred hK, ?_⟩⟩
    rw [upto_length] at hrow
    exact ⟨_, results_tmp rfl _ _ _, v, rfl, ownsRow_putObj hrow _ hK rfl, hB.trans (belowK_b (w := w) (Nat.le_refl _) W D _ _ (by simp at hD; omega) hK rfl rfl)⟩
  case stop =>
    rintro D c pre W _ _ h _
    exact h.elim
end Go.Proofs.Ytnajdnhgoakgaaa.Wal
