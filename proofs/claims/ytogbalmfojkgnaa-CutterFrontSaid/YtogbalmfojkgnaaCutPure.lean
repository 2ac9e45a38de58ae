/- The cutter's plain laws: what the printed functions compute, told by lists alone. -/
import Derived.Test.YtogbalmfojkgnaaPCutx2
namespace Go.Proofs.Ytogbalmfojkgnaa.CutPure
open Go.RowKit Go.Proofs.Ytogbalmfojkgnaa.PCut Go.Proofs.YtogbalmfojkgnaaW.PrintWords Go.Proofs.YtogbalmfojkgnaaW.PrintLast Go.Proofs.YtogbalmfojkgnaaW.PrintMore
set_option linter.unusedVariables false

theorem w64 {x : Int} (h0 : -9223372036854775808 ≤ x) (h1 : x ≤ 9223372036854775807) : wrap64 x = x := by unfold wrap64; omega
theorem u64w {x : Int} (h0 : 0 ≤ x) (h1 : x < 18446744073709551616) : IntKind.u64.wrap x = x := by
  show x % 18446744073709551616 = x
  omega
theorem u64r (x : Int) : 0 ≤ IntKind.u64.wrap x ∧ IntKind.u64.wrap x < 18446744073709551616 := by
  show 0 ≤ x % 18446744073709551616 ∧ x % 18446744073709551616 < 18446744073709551616
  omega

def step (s c : Int) : Int := IntKind.u64.wrap ((IntKind.u64.wrap (s * 2)) + (IntKind.u64.wrap ((IntKind.u64.wrap ((IntKind.u64.wrap c) + 1)) * 11400714819323198485)))
theorem step_r (s c : Int) : 0 ≤ step s c ∧ step s c < 18446744073709551616 := u64r _
def isRare (bits s : Int) : Bool := decide (shr .u64 s (64 - bits) = 0)

/-- How many bytes the piece has that goes on with these bytes, the sum and the count being these. -/
def go (least most bits : Int) : List Int → Int → Nat → Nat
  | [], _, n => n
  | c :: t, s, n => if (n : Int) + 1 = most then n + 1 else if (n : Int) + 1 ≥ least then (if isRare bits (step s c) = true then n + 1 else go least most bits t (step s c) (n + 1)) else go least most bits t (step s c) (n + 1)

structure Cfg (least most bits : Int) : Prop where
  l1 : 1 ≤ least
  lm : least ≤ most
  m1 : most ≤ 65536
  b1 : 1 ≤ bits
  b2 : bits ≤ 24

theorem check_ok {a b c : Int} (h : Cfg a b c) : cutter_Check.f a b c = some 0 := by
  have := h.l1; have := h.lm; have := h.m1; have := h.b1; have := h.b2
  unfold cutter_Check.f
  rw [if_neg (by omega), if_neg (by omega), if_neg (by omega), if_neg (by omega), if_neg (by omega)]
theorem check_or (a b c : Int) : Cfg a b c ∨ cutter_Check.f a b c = some 1 := by
  unfold cutter_Check.f
  by_cases h1 : a < 1
  · right; rw [if_pos h1]
  by_cases h2 : b < a
  · right; rw [if_neg h1, if_pos h2]
  by_cases h3 : b > 65536
  · right; rw [if_neg h1, if_neg h2, if_pos h3]
  by_cases h4 : c < 1
  · right; rw [if_neg h1, if_neg h2, if_neg h3, if_pos h4]
  by_cases h5 : c > 24
  · right; rw [if_neg h1, if_neg h2, if_neg h3, if_neg h4, if_pos h5]
  · left; exact ⟨by omega, by omega, by omega, by omega, by omega⟩

section
variable {least most bits : Int}

theorem go_ge : ∀ (l : List Int) (s : Int) (n : Nat), n ≤ go least most bits l s n := by
  intro l
  induction l with
  | nil => intro s n; exact Nat.le_refl _
  | cons c t ih =>
    intro s n
    unfold go
    have h := ih (step s c) (n + 1)
    repeat' split
    all_goals omega
theorem go_le : ∀ (l : List Int) (s : Int) (n : Nat), go least most bits l s n ≤ n + l.length := by
  intro l
  induction l with
  | nil => intro s n; exact Nat.le_refl _
  | cons c t ih =>
    intro s n
    unfold go
    have h := ih (step s c) (n + 1)
    simp only [List.length_cons]
    repeat' split
    all_goals omega
theorem go_pos (c : Int) (t : List Int) (s : Int) (n : Nat) : n < go least most bits (c :: t) s n := by
  unfold go
  have h := go_ge (least := least) (most := most) (bits := bits) t (step s c) (n + 1)
  repeat' split
  all_goals omega
theorem go_most : ∀ (l : List Int) (s : Int) (n : Nat), (n : Int) < most → (go least most bits l s n : Int) ≤ most := by
  intro l
  induction l with
  | nil => intro s n h; show (n : Int) ≤ most; omega
  | cons c t ih =>
    intro s n h
    unfold go
    have h1 := ih (step s c) (n + 1)
    split
    · omega
    · repeat' split
      all_goals omega
theorem go_least (hlm : least ≤ most) : ∀ (l : List Int) (s : Int) (n : Nat), go least most bits l s n < n + l.length → least ≤ (go least most bits l s n : Int) := by
  intro l
  induction l with
  | nil => intro s n h; simp [go] at h
  | cons c t ih =>
    intro s n
    unfold go
    have h1 := ih (step s c) (n + 1)
    simp only [List.length_cons]
    repeat' split
    all_goals intro h
    all_goals omega
theorem go_append (m : List Int) : ∀ (l : List Int) (s : Int) (n : Nat), go least most bits l s n < n + l.length → go least most bits (l ++ m) s n = go least most bits l s n := by
  intro l
  induction l with
  | nil => intro s n h; simp [go] at h
  | cons c t ih =>
    intro s n
    have h1 := ih (step s c) (n + 1)
    rw [List.cons_append]
    unfold go
    simp only [List.length_cons]
    intro h
    repeat' split
    all_goals first | rfl | skip
    all_goals
      apply h1
      revert h
      repeat' split
      all_goals first | omega | (intro h; omega) | (intro h; simp_all; omega)
theorem go_append_ge (m : List Int) : ∀ (l : List Int) (s : Int) (n : Nat), go least most bits l s n ≤ go least most bits (l ++ m) s n := by
  intro l
  induction l with
  | nil => intro s n; exact go_ge _ _ _
  | cons c t ih =>
    intro s n
    have h1 := ih (step s c) (n + 1)
    rw [List.cons_append]
    unfold go
    repeat' split
    all_goals first | exact Nat.le_refl _ | exact h1

theorem rd_at (L : List Int) (i : Nat) (h : i < L.length) : rd L (i : Int) = L[i] := by
  unfold rd
  simp [List.getD_eq_getElem?_getD, List.getElem?_eq_getElem h]

/-- The printed loop of 'first'. -/
theorem first_run (hc : Cfg least most bits) (L : List Int) (hL : L.length ≤ 2147483647) : ∀ (d k i : Nat) (s : Int), L.length - i = d → d < k → i ≤ L.length →
    cutter_Config_first.l0 k s i L (L.length : Int) i least most bits = some ((go least most bits (L.drop i) s i : Nat) : Int) := by
  have hb1 := hc.b1
  have hb2 := hc.b2
  have hw : IntKind.u64.wrap (64 - IntKind.u64.wrap bits) = 64 - bits := by
    rw [u64w (x := bits) (by omega) (by omega), u64w (by omega) (by omega)]
  intro d
  induction d with
  | zero =>
    intro k i s hd hk hi
    obtain ⟨k, rfl⟩ : ∃ m, k = m + 1 := ⟨k - 1, by omega⟩
    have he : i = L.length := by omega
    subst he
    simp only [cutter_Config_first.l0]
    rw [if_neg (by omega), List.drop_length]
    rfl
  | succ d ih =>
    intro k i s hd hk hi
    obtain ⟨k, rfl⟩ : ∃ m, k = m + 1 := ⟨k - 1, by omega⟩
    have hlt : i < L.length := by omega
    have hi1 : wrap64 ((i : Int) + 1) = ((i + 1 : Nat) : Int) := by rw [w64 (by omega) (by omega)]; omega
    have hdrop : L.drop i = L[i] :: L.drop (i + 1) := (List.drop_eq_getElem_cons hlt)
    have hn := ih k (i + 1) (step s L[i]) (by omega) (by omega) (by omega)
    simp only [cutter_Config_first.l0]
    rw [if_pos (by omega), if_pos (by omega), if_pos (by omega), rd_at L i hlt, hi1, hw, hdrop]
    unfold cutter_weight.f
    simp only [Option.bind_some]
    unfold go
    have e1 : ((i + 1 : Nat) : Int) = (i : Int) + 1 := by omega
    by_cases h1 : (i : Int) + 1 = most
    · rw [if_pos (by omega), if_pos h1]
    · rw [if_neg (by omega), if_neg h1]
      by_cases h2 : (i : Int) + 1 ≥ least
      · rw [if_pos (by omega), if_pos h2, if_pos (by omega)]
        by_cases h3 : shr .u64 (step s L[i]) (64 - bits) = 0
        · have h4 : isRare bits (step s L[i]) = true := by unfold isRare; simp [h3]
          rw [if_pos h4]
          have h3' := h3
          unfold step at h3'
          rw [if_pos h3']
        · have h4 : ¬ isRare bits (step s L[i]) = true := by unfold isRare; simp [h3]
          rw [if_neg h4]
          have h3' := h3
          unfold step at h3'
          rw [if_neg h3']
          exact hn
      · rw [if_neg (by omega), if_neg h2]
        exact hn

/-- Where pieces end, from a place on. -/
inductive Cut (least most bits : Int) (L : List Int) : Nat → List Int → Prop where
  | stop (i : Nat) (h : L.length ≤ i) : Cut least most bits L i []
  | more (i e : Nat) (es : List Int) (h : i < L.length) (he : e = i + go least most bits (L.drop i) 0 0) (r : Cut least most bits L e es) : Cut least most bits L i ((e : Int) :: es)

theorem cut_next {L : List Int} {i : Nat} (h : i < L.length) : i < i + go least most bits (L.drop i) 0 0 ∧ i + go least most bits (L.drop i) 0 0 ≤ L.length := by
  have h1 := go_le (least := least) (most := most) (bits := bits) (L.drop i) 0 0
  rw [List.length_drop] at h1
  have h2 : L.drop i = L[i] :: L.drop (i + 1) := List.drop_eq_getElem_cons h
  have h3 := go_pos (least := least) (most := most) (bits := bits) L[i] (L.drop (i + 1)) 0 0
  rw [← h2] at h3
  omega
theorem cut_ex (L : List Int) : ∀ (d i : Nat), L.length - i ≤ d → ∃ es, Cut least most bits L i es ∧ es.length ≤ L.length - i := by
  intro d
  induction d with
  | zero => intro i h; exact ⟨[], .stop i (by omega), by simp⟩
  | succ d ih =>
    intro i h
    by_cases hi : L.length ≤ i
    · exact ⟨[], .stop i hi, by simp⟩
    · have hn := cut_next (least := least) (most := most) (bits := bits) (L := L) (i := i) (by omega)
      obtain ⟨es, hes, hl⟩ := ih (i + go least most bits (L.drop i) 0 0) (by omega)
      exact ⟨_, .more i _ es (by omega) rfl hes, by simp only [List.length_cons]; omega⟩
theorem cut_det {L : List Int} {i : Nat} {es fs : List Int} (h : Cut least most bits L i es) : Cut least most bits L i fs → es = fs := by
  induction h generalizing fs with
  | stop i h => intro k; cases k with
    | stop => rfl
    | more => omega
  | more i e es h he r ih => intro k; cases k with
    | stop => omega
    | more _ e' es' h' he' r' =>
      subst he
      subst he'
      rw [ih r']

theorem ends_run (hc : Cfg least most bits) (L : List Int) (hL : L.length ≤ 65536) : ∀ {i : Nat} {es : List Int}, Cut least most bits L i es → ∀ (k : Nat) (out : List Int), i ≤ L.length → L.length + (L.length - i) + 2 ≤ k → out.length + (L.length - i) ≤ 1000000 →
    cutter_Ends.l0 k L out i least most bits = some (out ++ es, 0) := by
  intro i es h
  induction h with
  | stop i h =>
    intro k out hi hk ho
    obtain ⟨k, rfl⟩ : ∃ m, k = m + 1 := ⟨k - 1, by omega⟩
    simp only [cutter_Ends.l0]
    rw [if_neg (by omega), List.append_nil]
  | more i e es h he r ih =>
    intro k out hi hk ho
    obtain ⟨k, rfl⟩ : ∃ m, k = m + 1 := ⟨k - 1, by omega⟩
    have hn := cut_next (least := least) (most := most) (bits := bits) (L := L) (i := i) h
    rw [← he] at hn
    have hf : cutter_Config_first.f k least most bits (L.drop i) = some ((go least most bits (L.drop i) 0 0 : Nat) : Int) := by
      unfold cutter_Config_first.f
      exact first_run hc (L.drop i) (by rw [List.length_drop]; omega) _ k 0 0 rfl (by rw [List.length_drop]; omega) (by omega)
    have he' : wrap64 ((i : Int) + ((go least most bits (L.drop i) 0 0 : Nat) : Int)) = (e : Int) := by rw [w64 (by omega) (by omega)]; omega
    simp only [cutter_Ends.l0]
    rw [if_pos (by omega), if_pos (by omega), if_pos (by omega), Int.toNat_natCast, hf]
    simp only [Option.bind_some]
    rw [if_pos (by omega), he', ih k (out ++ [(e : Int)]) (by omega) (by omega) (by rw [List.length_append, List.length_singleton]; omega)]
    simp
theorem ends_f (hc : Cfg least most bits) (L : List Int) (hL : L.length ≤ 65536) {es : List Int} (h : Cut least most bits L 0 es) (k : Nat) (hk : 2 * L.length + 2 ≤ k) : cutter_Ends.f k L least most bits = some (es, 0) := by
  unfold cutter_Ends.f
  rw [check_ok hc]
  simp only [Option.bind_some, if_true]
  rw [show (0 : Int) = ((0 : Nat) : Int) from rfl, ends_run hc L hL h k [] (by omega) (by omega) (by simp only [List.length_nil]; omega)]
  simp
theorem ends_no {a b c : Int} (h : cutter_Check.f a b c = some 1) (L : List Int) (k : Nat) : cutter_Ends.f k L a b c = some ([], 1) := by
  unfold cutter_Ends.f
  rw [h]
  simp

/-! ### pieces -/
def cuts (L : List Int) : Nat → List Int → List (List Int)
  | _, [] => []
  | i, e :: es => (L.take e.toNat).drop i :: cuts L e.toNat es

theorem clone_f (l : List Int) (h : l.length ≤ 1000000) : slices_Clone_byte_byte.f l = some l := by
  unfold slices_Clone_byte_byte.f
  simp only [Option.bind_some, List.length_nil]
  rw [if_pos (by omega), List.nil_append]
theorem cut_le {L : List Int} {i : Nat} {es : List Int} (h : Cut least most bits L i es) : es.length ≤ L.length - i := by
  induction h with
  | stop => simp
  | more i e es h he r ih =>
    have hn := cut_next (least := least) (most := most) (bits := bits) (L := L) (i := i) h
    rw [← he] at hn
    simp only [List.length_cons]
    omega
theorem pieces_run (L : List Int) (hL : L.length ≤ 65536) (es0 : List Int) (h0 : es0.length ≤ 1000000) : ∀ {i : Nat} {es : List Int}, Cut least most bits L i es → ∀ (k j : Nat) (out : List (List Int)), i ≤ L.length → es0.drop j = es → j ≤ es0.length → es.length < k → out.length + es.length ≤ 1000000 →
    cutter_Pieces.l0 k L out i es0 (es0.length : Int) j = some (out ++ cuts L i es, 0) := by
  intro i es h
  induction h with
  | stop i h =>
    intro k j out hi hd hj hk ho
    obtain ⟨k, rfl⟩ : ∃ m, k = m + 1 := ⟨k - 1, by omega⟩
    have hlen : es0.length - j = 0 := by have := congrArg List.length hd; simpa using this
    simp only [cutter_Pieces.l0]
    rw [if_neg (by omega)]
    simp [cuts]
  | more i e es h he r ih =>
    intro k j out hi hd hj hk ho
    obtain ⟨k, rfl⟩ : ∃ m, k = m + 1 := ⟨k - 1, by omega⟩
    have hn := cut_next (least := least) (most := most) (bits := bits) (L := L) (i := i) h
    rw [← he] at hn
    have hlen : es0.length - j = es.length + 1 := by have := congrArg List.length hd; simpa using this
    have hjl : j < es0.length := by omega
    have hd2 := List.drop_eq_getElem_cons hjl
    rw [hd] at hd2
    injection hd2 with hx hy
    have hr : rd es0 (j : Int) = (e : Int) := by rw [rd_at es0 j hjl]; exact hx.symm
    simp only [cutter_Pieces.l0]
    simp only [List.length_cons] at hk ho
    rw [if_pos (by omega), if_pos (by omega), if_pos (by omega), if_pos (by omega), hr, if_pos (by omega), if_pos (by omega), clone_f _ (by simp only [List.length_drop, List.length_take]; omega)]
    simp only [Option.bind_some, Int.toNat_natCast]
    rw [if_pos (by omega), w64 (by omega) (by omega), show ((j : Int) + 1) = ((j + 1 : Nat) : Int) by omega, ih k (j + 1) _ (by omega) hy.symm (by omega) (by omega) (by rw [List.length_append, List.length_singleton]; omega)]
    simp [cuts]
theorem pieces_f (hc : Cfg least most bits) (L : List Int) (hL : L.length ≤ 65536) {es : List Int} (h : Cut least most bits L 0 es) (k : Nat) (hk : 2 * L.length + 2 ≤ k) : cutter_Pieces.f k L least most bits = some (cuts L 0 es, 0) := by
  have hle := cut_le h
  unfold cutter_Pieces.f
  rw [ends_f hc L hL h k hk]
  simp only [Option.bind_some, if_true]
  have := pieces_run L hL es (by omega) h k 0 [] (by omega) rfl (by omega) (by omega) (by simp only [List.length_nil]; omega)
  simpa using this
theorem pieces_no {a b c : Int} (h : cutter_Check.f a b c = some 1) (L : List Int) (k : Nat) : cutter_Pieces.f k L a b c = some ([], 1) := by
  unfold cutter_Pieces.f
  rw [ends_no h]
  simp
end
theorem awake_f : baileelaw07_awake.f 20 = some true := by decide +kernel
end Go.Proofs.Ytogbalmfojkgnaa.CutPure
