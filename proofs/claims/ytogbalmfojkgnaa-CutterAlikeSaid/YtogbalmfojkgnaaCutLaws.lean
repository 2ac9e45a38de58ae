/- The cutter's laws, told by lists alone: all bytes, alike, front, alone. -/
import Derived.Test.YtogbalmfojkgnaaCutPure
import Derived.Test.YtogbalmfojkgnaaPCutx4
import Derived.Test.YtogbalmfojkgnaaPCutx5
namespace Go.Proofs.Ytogbalmfojkgnaa.CutPure
open Go.RowKit Go.Proofs.Ytogbalmfojkgnaa.PCut Go.Proofs.YtogbalmfojkgnaaW.PrintWords Go.Proofs.YtogbalmfojkgnaaW.PrintLast Go.Proofs.YtogbalmfojkgnaaW.PrintMore
set_option linter.unusedVariables false

theorem u8r {a : Int} (h : (Lit.int .u8 a).wf = true) : 0 ≤ a ∧ a ≤ 255 := by simpa [Lit.wf, IntKind.min, IntKind.max, IntKind.signed, IntKind.bits] using h
theorem u16r {a : Int} (h : (Lit.int .u16 a).wf = true) : 0 ≤ a ∧ a ≤ 65535 := by simpa [Lit.wf, IntKind.min, IntKind.max, IntKind.signed, IntKind.bits] using h
theorem awake_at (k : Nat) (h : 20 ≤ k) : baileelaw07_awake.f k = some true := at_rounds baileelaw07_awake.mono h awake_f

theorem str_append (a b : List Int) : strOfNums (a ++ b) = strOfNums a ++ strOfNums b := by
  apply ByteArray.ext
  simp [strOfNums]
theorem str_nil : strOfNums [] = (⟨#[]⟩ : ByteArray) := rfl
theorem ba_nil (s : ByteArray) : (⟨#[]⟩ : ByteArray) ++ s = s := by
  apply ByteArray.ext
  simp
theorem ba_assoc (a b c : ByteArray) : a ++ b ++ c = a ++ (b ++ c) := by
  apply ByteArray.ext
  simp
theorem ba_end (s : ByteArray) : s ++ (⟨#[]⟩ : ByteArray) = s := by
  apply ByteArray.ext
  simp
theorem ba_size (a b : ByteArray) : (a ++ b).size = a.size + b.size := ByteArray.size_append

section
variable {least most bits : Int}
theorem cuts_len (L : List Int) : ∀ (es : List Int) (i : Nat), (cuts L i es).length = es.length := by
  intro es
  induction es with
  | nil => intro i; rfl
  | cons e es ih => intro i; simp [cuts, ih]
theorem cuts_flat {L : List Int} {i : Nat} {es : List Int} (h : Cut least most bits L i es) : i ≤ L.length → (cuts L i es).flatten = L.drop i := by
  induction h with
  | stop i h => intro hi; simp [cuts, List.drop_of_length_le h]
  | more i e es h he r ih =>
    intro hi
    have hn := cut_next (least := least) (most := most) (bits := bits) (L := L) (i := i) h
    rw [← he] at hn
    simp only [cuts, List.flatten_cons, Int.toNat_natCast]
    rw [ih (by omega)]
    have h1 : L.drop i = (L.take e ++ L.drop e).drop i := by rw [List.take_append_drop]
    rw [h1, List.drop_append_of_le_length (by rw [List.length_take]; omega)]
theorem cuts_ok (hc : Cfg least most bits) {L : List Int} {i : Nat} {es : List Int} (h : Cut least most bits L i es) : ∀ j, j < (cuts L i es).length →
    1 ≤ (rd_L2 (cuts L i es) (j : Int)).length ∧ ((rd_L2 (cuts L i es) (j : Int)).length : Int) ≤ most ∧ (j + 1 < (cuts L i es).length → least ≤ ((rd_L2 (cuts L i es) (j : Int)).length : Int)) := by
  have hl1 := hc.l1
  have hlm := hc.lm
  induction h with
  | stop => intro j hj; simp [cuts] at hj
  | more i e es h he r ih =>
    intro j hj
    have hn := cut_next (least := least) (most := most) (bits := bits) (L := L) (i := i) h
    have hm := go_most (least := least) (most := most) (bits := bits) (L.drop i) 0 0 (by omega)
    have hl := go_least (least := least) (most := most) (bits := bits) hc.lm (L.drop i) 0 0
    rw [List.length_drop] at hl
    rw [← he] at hn
    cases j with
    | zero =>
      have h0 : rd_L2 (cuts L i ((e : Int) :: es)) ((0 : Nat) : Int) = (L.take e).drop i := by simp [rd_L2, cuts]
      rw [h0]
      have h1 : ((L.take e).drop i).length = e - i := by rw [List.length_drop, List.length_take]; omega
      rw [h1]
      refine ⟨by omega, by omega, fun hj2 => ?_⟩
      rw [cuts_len] at hj2
      simp only [List.length_cons] at hj2
      have hel : e < L.length := by
        rcases Nat.lt_or_ge e L.length with h2 | h2
        · exact h2
        · have := cut_det r (.stop e h2)
          subst this
          simp at hj2
      have := hl (by omega)
      omega
    | succ j =>
      have h0 : rd_L2 (cuts L i ((e : Int) :: es)) ((j + 1 : Nat) : Int) = rd_L2 (cuts L e es) (j : Int) := by
        unfold rd_L2
        simp only [cuts, Int.toNat_natCast]
        rfl
      rw [h0]
      simp only [cuts, List.length_cons, Int.toNat_natCast] at hj ⊢
      have := ih j (by omega)
      exact ⟨this.1, this.2.1, fun h2 => this.2.2 (by omega)⟩

theorem flat_drop {ps : List (List Int)} {j : Nat} (h : j < ps.length) : (ps.drop j).flatten = rd_L2 ps (j : Int) ++ (ps.drop (j + 1)).flatten := by
  rw [List.drop_eq_getElem_cons h, List.flatten_cons]
  congr 1
  simp [rd_L2, List.getD_eq_getElem?_getD, List.getElem?_eq_getElem h]

theorem all_run (L : List Int) (ps : List (List Int)) (hp : ps.length ≤ 100000) (hok : ∀ j, j < ps.length → 1 ≤ (rd_L2 ps (j : Int)).length ∧ ((rd_L2 ps (j : Int)).length : Int) ≤ most ∧ (j + 1 < ps.length → least ≤ ((rd_L2 ps (j : Int)).length : Int))) :
    ∀ (d k j : Nat) (acc : ByteArray), ps.length - j = d → d < k → j ≤ ps.length → acc.size + (ps.drop j).flatten.length ≤ 1000000 →
    baileelaw07_CutterAll.l0 k L ps 0 acc j least most bits = some ((acc ++ strOfNums (ps.drop j).flatten).toList == (strOfNums L).toList) := by
  intro d
  induction d with
  | zero =>
    intro k j acc hd hk hj hs
    obtain ⟨k, rfl⟩ : ∃ m, k = m + 1 := ⟨k - 1, by omega⟩
    have he : j = ps.length := by omega
    subst he
    simp only [baileelaw07_CutterAll.l0]
    rw [if_neg (by omega), List.drop_length, List.flatten_nil, str_nil, ba_end]
    simp
  | succ d ih =>
    intro k j acc hd hk hj hs
    obtain ⟨k, rfl⟩ : ∃ m, k = m + 1 := ⟨k - 1, by omega⟩
    have hlt : j < ps.length := by omega
    obtain ⟨h1, h2, h3⟩ := hok j hlt
    have hf := flat_drop hlt
    rw [hf, List.length_append] at hs
    have hw : wrap64 ((j : Int) + 1) = ((j + 1 : Nat) : Int) := by rw [w64 (by omega) (by omega)]; omega
    have hsz : (strOfNums (rd_L2 ps (j : Int))).size = (rd_L2 ps (j : Int)).length := strOfNums_size _
    have hn := ih k (j + 1) (acc ++ strOfNums (rd_L2 ps (j : Int))) (by omega) (by omega) (by omega) (by rw [ba_size, hsz]; omega)
    simp only [baileelaw07_CutterAll.l0]
    rw [if_pos (by omega), if_pos (by omega), if_neg (by omega), if_neg (by omega), w64 (x := (ps.length : Int) - 1) (by omega) (by omega), hw, hf, str_append, ← ba_assoc, ← hn]
    by_cases hlast : (j : Int) < (ps.length : Int) - 1
    · rw [if_pos hlast, if_neg (by have := h3 (by omega); omega), if_pos (by rw [hsz]; omega)]
    · rw [if_neg hlast, if_pos (by rw [hsz]; omega)]
end

theorem cfg_of {a b c : Int} (ha : 0 ≤ a ∧ a ≤ 255) (hb : 0 ≤ b ∧ b ≤ 255) (hc : 0 ≤ c ∧ c ≤ 255) :
    wrap64 (wrap64 a + 1) = a + 1 ∧ wrap64 (wrap64 (wrap64 a + 1) + wrap64 b) = a + 1 + b ∧ ∃ q, wrap64 (wrap64 (Int.tmod c 24) + 1) = q ∧ 1 ≤ q ∧ q ≤ 24 := by
  have h1 : wrap64 a = a := w64 (by omega) (by omega)
  have h2 : wrap64 (a + 1) = a + 1 := w64 (by omega) (by omega)
  have h3 : wrap64 b = b := w64 (by omega) (by omega)
  have h4 : Int.tmod c 24 = c % 24 := Int.tmod_eq_emod_of_nonneg (by omega)
  refine ⟨by rw [h1, h2], by rw [h1, h2, h3, w64 (by omega) (by omega)], c % 24 + 1, ?_, by omega, by omega⟩
  rw [h4, w64 (x := c % 24) (by omega) (by omega), w64 (by omega) (by omega)]

theorem CutterAll : baileelaw07_CutterAll.Pure := by
  intro L a b c _ _ _ ha hb hc
  obtain ⟨e1, e2, q, e3, hq1, hq2⟩ := cfg_of (u8r ha) (u8r hb) (u8r hc)
  have ha := u8r ha
  have hb := u8r hb
  obtain ⟨K, hK⟩ : ∃ K : Nat, 10000 ≤ K := ⟨10000, Nat.le_refl _⟩
  refine ⟨K, ?_⟩
  unfold baileelaw07_CutterAll.f
  rw [awake_at _ (by omega)]
  simp only [Option.bind_some, if_true]
  by_cases hL : (L.length : Int) > 2000
  · rw [if_pos hL]
  · rw [if_neg hL, e2, e1, e3]
    have cfg : Cfg (a + 1) (a + 1 + b) q := ⟨by omega, by omega, by omega, hq1, hq2⟩
    obtain ⟨es, hes, hle⟩ := cut_ex (least := a + 1) (most := a + 1 + b) (bits := q) L L.length 0 (by omega)
    rw [pieces_f cfg L (by omega) hes K (by omega)]
    simp only [Option.bind_some]
    have hl := cuts_len L es 0
    have hfl := cuts_flat hes (by omega)
    have := all_run (bits := q) L (cuts L 0 es) (by omega) (cuts_ok cfg hes) _ K 0 ⟨#[]⟩ rfl (by omega) (by omega) (by rw [List.drop_zero, hfl]; show 0 + _ ≤ _; rw [List.drop_zero]; omega)
    rw [show ((0 : Nat) : Int) = 0 from rfl] at this
    rw [this, List.drop_zero, hfl, List.drop_zero, ba_nil]
    simp

/-! ### alone -/
theorem go_alone {n : Int} {bits : Int} : ∀ (l : List Int) (s : Int) (m : Nat), (m : Int) < n → (go n n bits l s m : Int) = min n (m + l.length) := by
  intro l
  induction l with
  | nil => intro s m h; show (m : Int) = _; simp only [List.length_nil]; omega
  | cons c t ih =>
    intro s m h
    unfold go
    simp only [List.length_cons]
    by_cases h1 : (m : Int) + 1 = n
    · rw [if_pos h1]; omega
    · rw [if_neg h1, if_neg (by omega), ih _ (m + 1) (by omega)]; omega
theorem alone_len {n : Nat} {bits : Int} (hn : 0 < n) {L : List Int} {i : Nat} {es : List Int} (h : Cut n n bits L i es) : i ≤ L.length → es.length = (L.length - i + n - 1) / n := by
  induction h with
  | stop i h =>
    intro hi
    have : L.length - i + n - 1 = n - 1 := by omega
    rw [this, Nat.div_eq_of_lt (by omega)]
    rfl
  | more i e es h he r ih =>
    intro hi
    have hg := go_alone (bits := bits) (L.drop i) 0 0 (show ((0 : Nat) : Int) < (n : Int) by omega)
    rw [List.length_drop] at hg
    have hd : L.length - i + n - 1 = (L.length - i - 1) + n := by omega
    rw [List.length_cons, hd, Nat.add_div_right _ hn]
    by_cases hb : L.length - i ≤ n
    · have h2 : e = L.length := by omega
      have := cut_det r (.stop e (by omega))
      subst this
      rw [Nat.div_eq_of_lt (by omega)]
      rfl
    · have h2 : e = i + n := by omega
      rw [ih (by omega), h2]
      have : L.length - (i + n) + n - 1 = L.length - i - 1 := by omega
      rw [this]

theorem alone_run (n : Int) (ps : List (List Int)) (hp : ps.length ≤ 100000) (hok : ∀ j, j + 1 < ps.length → ((rd_L2 ps (j : Int)).length : Int) = n) : ∀ (d k j : Nat), ps.length - j = d → d < k → j ≤ ps.length →
    baileelaw07_CutterAlone.l0 k n ps ps j = some true := by
  intro d
  induction d with
  | zero =>
    intro k j hd hk hj
    obtain ⟨k, rfl⟩ : ∃ m, k = m + 1 := ⟨k - 1, by omega⟩
    simp only [baileelaw07_CutterAlone.l0]
    rw [if_neg (by omega)]
  | succ d ih =>
    intro k j hd hk hj
    obtain ⟨k, rfl⟩ : ∃ m, k = m + 1 := ⟨k - 1, by omega⟩
    have hw : wrap64 ((j : Int) + 1) = ((j + 1 : Nat) : Int) := by rw [w64 (by omega) (by omega)]; omega
    have hn := ih k (j + 1) (by omega) (by omega) (by omega)
    simp only [baileelaw07_CutterAlone.l0]
    rw [if_pos (by omega), w64 (x := (ps.length : Int) - 1) (by omega) (by omega), hw]
    by_cases hlast : (j : Int) < (ps.length : Int) - 1
    · rw [if_pos hlast, if_pos (by omega), if_pos (hok j (by omega)), if_pos (by omega)]
      simp only [if_true]
      exact hn
    · rw [if_neg hlast, if_pos (by omega), if_pos (by omega)]
      simp only [if_true]
      exact hn

theorem CutterAlone : baileelaw07_CutterAlone.Pure := by
  intro L a c _ _ _ ha hc
  obtain ⟨e1, _, q, e3, hq1, hq2⟩ := cfg_of (u8r ha) (u8r ha) (u8r hc)
  have ha := u8r ha
  obtain ⟨n, hn⟩ : ∃ n : Nat, a + 1 = (n : Int) := ⟨(a + 1).toNat, by omega⟩
  obtain ⟨K, hK⟩ : ∃ K : Nat, 10000 ≤ K := ⟨10000, Nat.le_refl _⟩
  refine ⟨K + 1, ?_⟩
  unfold baileelaw07_CutterAlone.f
  rw [awake_at _ (by omega)]
  simp only [Option.bind_some, if_true]
  by_cases hL : (L.length : Int) > 1000
  · rw [if_pos hL]
  · rw [if_neg hL, e1, e3, hn]
    have cfg : Cfg (n : Int) (n : Int) q := ⟨by omega, by omega, by omega, hq1, hq2⟩
    obtain ⟨es, hes, hle⟩ := cut_ex (least := (n : Int)) (most := (n : Int)) (bits := q) L L.length 0 (by omega)
    rw [pieces_f cfg L (by omega) hes (K + 1) (by omega)]
    simp only [Option.bind_some, if_true]
    have hl := cuts_len L es 0
    have hrun := alone_run (n : Int) (cuts L 0 es) (by omega) (fun j hj => by
      have h1 := cuts_ok cfg hes j (by omega)
      have h2 := h1.2.2 hj
      omega) _ K 0 rfl (by omega) (by omega)
    have hal := alone_len (bits := q) (by omega) hes (by omega)
    have hdiv : wrap64 (Int.tdiv (wrap64 (wrap64 ((L.length : Int) + (n : Int)) - 1)) (n : Int)) = ((cuts L 0 es).length : Int) := by
      rw [w64 (x := (L.length : Int) + (n : Int)) (by omega) (by omega), w64 (x := (L.length : Int) + (n : Int) - 1) (by omega) (by omega), Int.tdiv_eq_ediv_of_nonneg (by omega), hl, hal]
      have h1 : (L.length : Int) + (n : Int) - 1 = ((L.length - 0 + n - 1 : Nat) : Int) := by omega
      rw [h1, ← Int.natCast_ediv]
      have h2 : (L.length - 0 + n - 1) / n ≤ L.length - 0 + n - 1 := Nat.div_le_self _ _
      exact w64 (by omega) (by omega)
    rw [if_neg (by omega), hdiv]
    simp only [if_true]
    simp only [baileelaw07_CutterAlone.j0]
    rw [if_neg (by simp)]
    exact hrun
end Go.Proofs.Ytogbalmfojkgnaa.CutPure
