/- The cutter's laws, told by lists alone: alike, front, and the document's ends. -/
import Derived.Test.YtogbalmfojkgnaaCutLaws
import Derived.Test.YtogbalmfojkgnaaPCutx
namespace Go.Proofs.Ytogbalmfojkgnaa.CutPure
open Go.RowKit Go.Proofs.Ytogbalmfojkgnaa.PCut Go.Proofs.YtogbalmfojkgnaaW.PrintWords Go.Proofs.YtogbalmfojkgnaaW.PrintLast Go.Proofs.YtogbalmfojkgnaaW.PrintMore
set_option linter.unusedVariables false

theorem ws (j : Nat) (h : j ≤ 1000000) : wrap64 ((j : Int) + 1) = ((j + 1 : Nat) : Int) := by rw [w64 (by omega) (by omega)]; omega
theorem wss (i j : Nat) (h : i + j ≤ 1000000) : wrap64 (wrap64 ((i : Int) + 1) + (j : Int)) = ((i + 1 + j : Nat) : Int) := by rw [w64 (x := (i : Int) + 1) (by omega) (by omega), w64 (by omega) (by omega)]; omega

section
variable {least most bits : Int}
theorem cut_shift {L : List Int} {p : Nat} (hp : p ≤ L.length) {i : Nat} {es : List Int} (h : Cut least most bits (L.drop p) i es) : Cut least most bits L (p + i) (es.map (· + (p : Int))) := by
  induction h with
  | stop i h => exact .stop _ (by rw [List.length_drop] at h; omega)
  | more i e es h he r ih =>
    rw [List.length_drop] at h
    rw [List.drop_drop] at he
    have h1 := Cut.more (least := least) (most := most) (bits := bits) (L := L) (p + i) (p + e) _ (by omega) (by rw [he]; omega) ih
    simpa [Int.add_comm] using h1
theorem cut_tail {L : List Int} {i : Nat} {es : List Int} (h : Cut least most bits L i es) : ∀ j, j < es.length → ∃ p : Nat, rd es (j : Int) = (p : Int) ∧ p ≤ L.length ∧ i < p ∧ Cut least most bits L p (es.drop (j + 1)) := by
  induction h with
  | stop => intro j hj; simp at hj
  | more i e es h he r ih =>
    intro j hj
    have hn := cut_next (least := least) (most := most) (bits := bits) (L := L) (i := i) h
    rw [← he] at hn
    cases j with
    | zero => exact ⟨e, rd_at _ 0 hj, hn.2, hn.1, r⟩
    | succ j =>
      simp only [List.length_cons] at hj
      obtain ⟨p, h1, h2, h3, h4⟩ := ih j (by omega)
      refine ⟨p, ?_, h2, by omega, h4⟩
      rw [← h1, rd_at _ (j + 1) (by simp only [List.length_cons]; omega), rd_at _ j (by omega)]
      rfl
theorem rd_drop (es : List Int) (i j : Nat) (h : i + j < es.length) : rd (es.drop i) (j : Int) = rd es ((i + j : Nat) : Int) := by
  rw [rd_at _ _ h, rd_at _ _ (by rw [List.length_drop]; omega)]
  simp
theorem rd_map (es : List Int) (c : Int) (j : Nat) (h : j < es.length) : rd (es.map (· + c)) (j : Int) = rd es (j : Int) + c := by
  rw [rd_at _ _ (by simpa using h), rd_at _ _ h]
  simp

theorem alike_run (es ms : List Int) (i : Nat) (hi : i < es.length) (h1 : es.length ≤ 100000) (hb : ∀ j, j < es.length → 0 ≤ rd es (j : Int) ∧ rd es (j : Int) ≤ 100000) (hm : es.drop (i + 1) = ms.map (· + rd es (i : Int))) : ∀ (d k j : Nat), ms.length - j = d → d < k → j ≤ ms.length →
    baileelaw07_CutterAlike.l0 k es i ms j = some true := by
  have hl : es.length - (i + 1) = ms.length := by have := congrArg List.length hm; simpa using this
  intro d
  induction d with
  | zero =>
    intro k j hd hk hj
    obtain ⟨k, rfl⟩ : ∃ m, k = m + 1 := ⟨k - 1, by omega⟩
    simp only [baileelaw07_CutterAlike.l0]
    rw [if_neg (by omega)]
  | succ d ih =>
    intro k j hd hk hj
    obtain ⟨k, rfl⟩ : ∃ m, k = m + 1 := ⟨k - 1, by omega⟩
    have hn := ih k (j + 1) (by omega) (by omega) (by omega)
    have hr : rd es (((i + 1) + j : Nat) : Int) = rd ms (j : Int) + rd es (i : Int) := by
      rw [← rd_drop es (i + 1) j (by omega), hm, rd_map _ _ _ (by omega)]
    have h2 := hb i hi
    have h3 := hb (i + 1 + j) (by omega)
    simp only [baileelaw07_CutterAlike.l0]
    rw [wss i j (by omega), w64 (x := rd ms (j : Int) + rd es (i : Int)) (by omega) (by omega), ← hr, ws j (by omega), if_pos (by omega), if_pos (by omega), if_pos (by omega), if_pos (by omega), if_pos (by omega), if_pos (by omega), if_pos rfl]
    exact hn
end

theorem CutterAlike (L : List Int) (a x y z : Int) (ha : 0 ≤ a ∧ a ≤ 65535) : ∃ k, baileelaw07_CutterAlike.f k L a x y z = some true := by
  obtain ⟨K, hK⟩ : ∃ K : Nat, 10000 ≤ K := ⟨10000, Nat.le_refl _⟩
  refine ⟨K + 2, ?_⟩
  unfold baileelaw07_CutterAlike.f
  rw [awake_at _ (by omega)]
  simp only [Option.bind_some, if_true]
  by_cases hL : (L.length : Int) > 2000
  · rw [if_pos hL]
  · rw [if_neg hL]
    rcases check_or x y z with cfg | hno
    · obtain ⟨es, hes, hle⟩ := cut_ex (least := x) (most := y) (bits := z) L L.length 0 (by omega)
      rw [ends_f cfg L (by omega) hes (K + 2) (by omega)]
      simp only [Option.bind_some, if_true, baileelaw07_CutterAlike.j0]
      by_cases h0 : es.length = 0
      · obtain rfl : es = [] := List.eq_nil_of_length_eq_zero h0
        have hz : L.length = 0 := by
          cases hes with
          | stop h => omega
        rw [hz]
        rfl
      · have hb : ((es.length : Int) == 0) = false := beq_eq_false_iff_ne.2 (by omega)
        rw [hb, if_neg (by simp), if_neg (by omega)]
        have hw : wrap64 a = a := w64 (by omega) (by omega)
        obtain ⟨n, hn⟩ : ∃ n : Nat, a = (n : Int) := ⟨a.toNat, by omega⟩
        have hm : Int.tmod (wrap64 a) (es.length : Int) = ((n % es.length : Nat) : Int) := by rw [hw, hn]; exact Int.tmod_eq_emod_of_nonneg (by omega)
        have hmlt : n % es.length < es.length := Nat.mod_lt _ (by omega)
        obtain ⟨i, hi⟩ : ∃ i, i = n % es.length := ⟨_, rfl⟩
        rw [hm, ← hi]
        rw [← hi] at hmlt
        clear hm hi hw
        obtain ⟨p, h1, h2, h3, h4⟩ := cut_tail hes i hmlt
        rw [if_pos (by omega), if_pos (by omega), h1, if_pos (by omega), if_pos (by omega), Int.toNat_natCast]
        obtain ⟨ms, hms, hml⟩ := cut_ex (least := x) (most := y) (bits := z) (L.drop p) (L.drop p).length 0 (by omega)
        rw [ends_f cfg (L.drop p) (by rw [List.length_drop]; omega) hms _ (by rw [List.length_drop]; omega)]
        have hs := cut_shift h2 hms
        have hsame := cut_det h4 hs
        have hlen : es.length - (i + 1) = ms.length := by have := congrArg List.length hsame; simpa using this
        simp only [Option.bind_some, if_true, baileelaw07_CutterAlike.j1]
        rw [w64 (x := (es.length : Int) - (i : Int)) (by omega) (by omega), w64 (x := (es.length : Int) - (i : Int) - 1) (by omega) (by omega), show (es.length : Int) - (i : Int) - 1 = (ms.length : Int) by omega]
        rw [if_neg (by simp)]
        refine alike_run es ms i hmlt (by omega) (fun j hj => ?_) (by rw [h1]; exact hsame) _ _ 0 rfl (by omega) (by omega)
        obtain ⟨q, g1, g2, _, _⟩ := cut_tail hes j hj
        omega
    · rw [ends_no hno]
      simp only [Option.bind_some, baileelaw07_CutterAlike.j0]
      simp

/-! ### front -/
section
variable {least most bits : Int}
theorem cut_last {L : List Int} {i : Nat} {es : List Int} (h : Cut least most bits L i es) : i < L.length → 0 < es.length ∧ rd es ((es.length - 1 : Nat) : Int) = (L.length : Int) := by
  induction h with
  | stop i h => intro hi; omega
  | more i e es h he r ih =>
    intro _
    have hn := cut_next (least := least) (most := most) (bits := bits) (L := L) (i := i) h
    rw [← he] at hn
    by_cases hl : e < L.length
    · obtain ⟨h1, h2⟩ := ih hl
      refine ⟨by simp, ?_⟩
      have e1 : ((e : Int) :: es).length - 1 = (es.length - 1) + 1 := by simp only [List.length_cons]; omega
      rw [← h2, e1, rd_at _ _ (by simp only [List.length_cons]; omega), rd_at _ _ (by omega)]
      rfl
    · have := cut_det r (.stop e (by omega))
      subst this
      refine ⟨by simp, ?_⟩
      show rd [(e : Int)] ((0 : Nat) : Int) = _
      rw [rd_at _ 0 (by simp)]
      show (e : Int) = _
      omega
theorem cut_front {a b : List Int} {i : Nat} {es : List Int} (h : Cut least most bits a i es) : ∀ ms, i ≤ a.length → Cut least most bits (a ++ b) i ms → es.length ≤ ms.length ∧ ∀ j, j + 1 < es.length → rd es (j : Int) = rd ms (j : Int) := by
  induction h with
  | stop i h => intro ms hi hm; exact ⟨by simp, fun j hj => by simp at hj⟩
  | more i e es h he r ih =>
    intro ms hi hm
    have hn := cut_next (least := least) (most := most) (bits := bits) (L := a) (i := i) h
    rw [← he] at hn
    have hd : (a ++ b).drop i = a.drop i ++ b := List.drop_append_of_le_length hi
    cases hm with
    | stop _ h2 => rw [List.length_append] at h2; omega
    | more _ e2 ms h2 he2 r2 =>
      by_cases hl : e < a.length
      · have hg := go_append (least := least) (most := most) (bits := bits) b (a.drop i) 0 0 (by rw [List.length_drop]; omega)
        have h3 : e2 = e := by rw [he2, hd, hg, he]
        subst h3
        obtain ⟨g1, g2⟩ := ih ms hn.2 r2
        refine ⟨by simp only [List.length_cons]; omega, fun j hj => ?_⟩
        cases j with
        | zero => rw [rd_at _ 0 (by simp), rd_at _ 0 (by simp)]; rfl
        | succ j =>
          simp only [List.length_cons] at hj
          have h4 := g2 j (by omega)
          rw [rd_at _ _ (by omega), rd_at _ _ (by omega)] at h4
          rw [rd_at _ _ (by simp only [List.length_cons]; omega), rd_at _ _ (by simp only [List.length_cons]; omega)]
          simpa using h4
      · have := cut_det r (.stop e (by omega))
        subst this
        exact ⟨by simp, fun j hj => by simp at hj⟩

theorem front_run (all es ms : List Int) (hl1 : es.length ≤ 100000) (hl2 : ms.length ≤ 100000) (hle : es.length ≤ ms.length) (heq : ∀ j, j + 1 < es.length → rd es (j : Int) = rd ms (j : Int)) (hlast : all.length ≠ 0 → 0 < ms.length ∧ rd ms ((ms.length - 1 : Nat) : Int) = (all.length : Int)) :
    ∀ (d k j : Nat), es.length - j = d → d < k → j ≤ es.length → baileelaw07_CutterFront.l0 k all es ms j = some true := by
  intro d
  induction d with
  | zero =>
    intro k j hd hk hj
    obtain ⟨k, rfl⟩ : ∃ m, k = m + 1 := ⟨k - 1, by omega⟩
    simp only [baileelaw07_CutterFront.l0]
    rw [w64 (x := (es.length : Int) - 1) (by omega) (by omega), if_neg (by omega), if_pos (by omega)]
    by_cases h0 : (all.length : Int) = 0
    · rw [if_pos h0]
    · obtain ⟨h1, h2⟩ := hlast (by omega)
      have e1 : wrap64 ((ms.length : Int) - 1) = ((ms.length - 1 : Nat) : Int) := by rw [w64 (by omega) (by omega)]; omega
      rw [if_neg h0, e1, if_pos (by omega), if_pos (by omega), h2]
      simp
  | succ d ih =>
    intro k j hd hk hj
    obtain ⟨k, rfl⟩ : ∃ m, k = m + 1 := ⟨k - 1, by omega⟩
    have hn := ih k (j + 1) (by omega) (by omega) (by omega)
    by_cases hx : j + 1 < es.length
    · simp only [baileelaw07_CutterFront.l0]
      rw [w64 (x := (es.length : Int) - 1) (by omega) (by omega), if_pos (by omega), if_neg (by omega), if_pos (by omega), if_pos (by omega), if_pos (by omega), if_pos (heq j hx), ws j (by omega)]
      exact hn
    · simp only [baileelaw07_CutterFront.l0]
      rw [w64 (x := (es.length : Int) - 1) (by omega) (by omega), if_neg (by omega), if_pos (by omega)]
      by_cases h0 : (all.length : Int) = 0
      · rw [if_pos h0]
      · obtain ⟨h1, h2⟩ := hlast (by omega)
        have e1 : wrap64 ((ms.length : Int) - 1) = ((ms.length - 1 : Nat) : Int) := by rw [w64 (by omega) (by omega)]; omega
        rw [if_neg h0, e1, if_pos (by omega), if_pos (by omega), h2]
        simp
end

theorem CutterFront (L M : List Int) (x y z : Int) : ∃ k, baileelaw07_CutterFront.f k L M x y z = some true := by
  obtain ⟨K, hK⟩ : ∃ K : Nat, 10000 ≤ K := ⟨10000, Nat.le_refl _⟩
  refine ⟨K + 2, ?_⟩
  unfold baileelaw07_CutterFront.f
  rw [awake_at _ (by omega)]
  simp only [Option.bind_some, if_true]
  by_cases hL : (L.length : Int) > 600
  · rw [if_pos hL]
    simp only [baileelaw07_CutterFront.j0]
    rw [if_pos trivial]
  · rw [if_neg hL]
    simp only [baileelaw07_CutterFront.j0]
    by_cases hM : (M.length : Int) > 600
    · rw [if_pos (by simpa using hM)]
    · rw [if_neg (by simpa using hM), if_pos (by simp only [List.length_nil]; omega)]
      rw [List.nil_append, Option.bind_some, if_pos (by omega), Option.bind_some]
      rcases check_or x y z with cfg | hno
      · obtain ⟨es, hes, hle⟩ := cut_ex (least := x) (most := y) (bits := z) L L.length 0 (by omega)
        obtain ⟨ms, hms, hml⟩ := cut_ex (least := x) (most := y) (bits := z) (L ++ M) (L ++ M).length 0 (by omega)
        have hla : (L ++ M).length ≤ 1200 := by rw [List.length_append]; omega
        rw [ends_f cfg L (by omega) hes (K + 1) (by omega), ends_f cfg (L ++ M) (by omega) hms (K + 1) (by omega)]
        simp only [Option.bind_some, if_true, baileelaw07_CutterFront.j1]
        rw [if_neg (by simp)]
        obtain ⟨g1, g2⟩ := cut_front (b := M) hes ms (by omega) hms
        exact front_run (L ++ M) es ms (by omega) (by omega) g1 g2 (fun h => cut_last hms (by omega)) _ _ 0 rfl (by omega) (by omega)
      · rw [ends_no hno, ends_no hno]
        simp only [Option.bind_some, if_true, baileelaw07_CutterFront.j1]
        rw [if_pos (by decide)]
        rfl
end Go.Proofs.Ytogbalmfojkgnaa.CutPure
