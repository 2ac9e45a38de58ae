/- The cutter's law against the document's answer, told by lists alone. -/
import Derived.Test.YtogbalmfojkgnaaCutLaws2
import Derived.Test.YtogbalmfojkgnaaPCutx
namespace Go.Proofs.Ytogbalmfojkgnaa.CutPure
open Go.RowKit Go.Proofs.Ytogbalmfojkgnaa.PCut Go.Proofs.YtogbalmfojkgnaaW.PrintWords Go.Proofs.YtogbalmfojkgnaaW.PrintLast Go.Proofs.YtogbalmfojkgnaaW.PrintMore
set_option linter.unusedVariables false

theorem half (x : Int) (h0 : 0 ≤ x) (h1 : x < 18446744073709551616) : IntKind.u64.wrap (Int.tdiv x 2) = x / 2 := by
  rw [Int.tdiv_eq_ediv_of_nonneg h0]
  exact u64w (by omega) (by omega)
theorem half_pow (x : Int) (n : Nat) : x / 2 / 2 ^ n = x / 2 ^ (n + 1) := by
  rw [Int.ediv_ediv_of_nonneg (by omega), Int.pow_succ, Int.mul_comm]
theorem rare_run (bits : Int) (h1 : 1 ≤ bits) (h2 : bits ≤ 24) : ∀ (d k i : Nat) (x : Int), (64 - bits).toNat - i = d → d < k → (i : Int) ≤ 64 - bits → 0 ≤ x → x < 18446744073709551616 →
    baileeref07_rare.l0 k x bits i = some (x / 2 ^ d == 0) := by
  intro d
  induction d with
  | zero =>
    intro k i x hd hk hi h0 h3
    obtain ⟨k, rfl⟩ : ∃ m, k = m + 1 := ⟨k - 1, by omega⟩
    simp only [baileeref07_rare.l0]
    rw [w64 (x := 64 - bits) (by omega) (by omega), if_neg (by omega)]
    simp
  | succ d ih =>
    intro k i x hd hk hi h0 h3
    obtain ⟨k, rfl⟩ : ∃ m, k = m + 1 := ⟨k - 1, by omega⟩
    have hn := ih k (i + 1) (x / 2) (by omega) (by omega) (by omega) (by omega) (by omega)
    simp only [baileeref07_rare.l0]
    rw [w64 (x := 64 - bits) (by omega) (by omega), if_pos (by omega), half x h0 h3, ws i (by omega), hn, half_pow]
theorem rare_f (bits : Int) (h1 : 1 ≤ bits) (h2 : bits ≤ 24) (x : Int) (h0 : 0 ≤ x) (h3 : x < 18446744073709551616) (k : Nat) (hk : 64 ≤ k) : baileeref07_rare.f k x bits = some (isRare bits x) := by
  unfold baileeref07_rare.f
  have h := rare_run bits h1 h2 ((64 - bits).toNat) k 0 x (by omega) (by omega) (by omega) h0 h3
  rw [show ((0 : Nat) : Int) = 0 from rfl] at h
  rw [h]
  congr 1
  have hs : shr .u64 x (64 - bits) = x / 2 ^ (64 - bits).toNat := by
    unfold shr
    rw [Nat.min_eq_left (show (64 - bits).toNat ≤ IntKind.u64.bits by show _ ≤ 64; omega)]
  rw [Bool.eq_iff_iff]
  unfold isRare
  rw [hs]
  simp

theorem bt_str (L : List Int) (hw : ∀ x ∈ L, (Lit.int .u8 x).wf = true) (i : Nat) (h : i < L.length) : bt (strOfNums L) (i : Int) = L[i] := by
  have hr := u8r (hw L[i] (List.getElem_mem h))
  unfold bt
  rw [dif_pos (show (i : Int).toNat < (strOfNums L).size by rw [strOfNums_size]; omega)]
  have h1 : (strOfNums L)[(i : Int).toNat]'(by rw [strOfNums_size]; omega) = UInt8.ofNat (L[i]).toNat := by
    show (strOfNums L).data[i]'_ = _
    simp [strOfNums]
  rw [h1]
  simp only [UInt8.toNat_ofNat']
  omega
theorem step_ref (s c : Int) : IntKind.u64.wrap ((IntKind.u64.wrap (2 * s)) + (IntKind.u64.wrap (11400714819323198485 * (IntKind.u64.wrap ((IntKind.u64.wrap c) + 1))))) = step s c := by
  unfold step
  rw [Int.mul_comm 2 s, Int.mul_comm 11400714819323198485]

section
variable {least most bits : Int}
/-- The document's loop: within a piece that began at 'i - n'. -/
theorem ref_run (hc : Cfg least most bits) (L : List Int) (hL : L.length ≤ 65536) (hw : ∀ x ∈ L, (Lit.int .u8 x).wf = true) : ∀ (d k i n : Nat) (s : Int) (out es : List Int), L.length - i = d → 3 * d + 64 < k → i < L.length → n ≤ i → out.length + d ≤ 1000000 →
    Cut least most bits L (i - n + go least most bits (L.drop i) s n) es →
    baileeref07_Ends.l0 k (strOfNums L) out s n i least most bits = some (out ++ ((i - n + go least most bits (L.drop i) s n : Nat) : Int) :: es, 0) := by
  have hb1 := hc.b1
  have hb2 := hc.b2
  have hlm := hc.lm
  intro d
  induction d with
  | zero => intro k i n s out es hd hk hi; omega
  | succ d ih =>
    intro k i n s out es hd hk hi hn ho hes
    obtain ⟨k, rfl⟩ : ∃ m, k = m + 3 := ⟨k - 3, by omega⟩
    have hdrop : L.drop i = L[i] :: L.drop (i + 1) := List.drop_eq_getElem_cons hi
    have hsz : ((strOfNums L).size : Int) = (L.length : Int) := by rw [strOfNums_size]
    have hst := step_r s L[i]
    -- a piece that ends here
    have hend : ∀ (out : List Int) (es : List Int), out.length + d + 1 ≤ 1000000 → Cut least most bits L (i + 1) es → ∀ k', 3 * d + 64 < k' → baileeref07_Ends.l0 k' (strOfNums L) (out ++ [((i + 1 : Nat) : Int)]) 0 0 ((i + 1 : Nat) : Int) least most bits = some (out ++ ((i + 1 : Nat) : Int) :: es, 0) := by
      intro out es ho hes k' hk'
      by_cases hl : i + 1 < L.length
      · cases hes with
        | stop _ h => omega
        | more _ e es h he r =>
          have hg := ih k' (i + 1) 0 0 (out ++ [((i + 1 : Nat) : Int)]) es (by omega) hk' hl (by omega) (by rw [List.length_append, List.length_singleton]; omega) (by rw [Nat.sub_zero, ← he]; exact r)
          rw [Nat.sub_zero, ← he] at hg
          rw [show ((0 : Nat) : Int) = 0 from rfl] at hg
          rw [hg]
          simp
      · have := cut_det hes (.stop (i + 1) (by omega))
        subst this
        obtain ⟨k', rfl⟩ : ∃ m, k' = m + 1 := ⟨k' - 1, by omega⟩
        simp only [baileeref07_Ends.l0]
        rw [if_neg (by omega)]
    -- a piece that goes on
    have hgo : ∀ es, i + 1 < L.length → Cut least most bits L (i - n + go least most bits (L.drop (i + 1)) (step s L[i]) (n + 1)) es → baileeref07_Ends.l0 k (strOfNums L) out (step s L[i]) ((n + 1 : Nat) : Int) ((i + 1 : Nat) : Int) least most bits = some (out ++ ((i - n + go least most bits (L.drop (i + 1)) (step s L[i]) (n + 1) : Nat) : Int) :: es, 0) := by
      intro es hl hes
      have h1 : i + 1 - (n + 1) = i - n := by omega
      have h2 := ih k (i + 1) (n + 1) (step s L[i]) out es (by omega) (by omega) hl (by omega) (by omega) (by rw [h1]; exact hes)
      rw [h1] at h2
      exact h2
    have hbt := bt_str L hw i hi
    rw [hdrop] at hes ⊢
    have hn1 : i - n + (n + 1) = i + 1 := by omega
    simp only [baileeref07_Ends.l0]
    rw [if_pos (by omega), if_pos (by omega), hbt, step_ref, ws n (by omega), ws i (by omega)]
    by_cases h1 : (n : Int) + 1 = most
    · have hgv : go least most bits (L[i] :: L.drop (i + 1)) s n = n + 1 := by unfold go; rw [if_pos h1]
      rw [hgv, hn1] at hes ⊢
      rw [if_pos (by omega)]
      simp only [baileeref07_Ends.j1, baileeref07_Ends.j2]
      rw [if_pos trivial, if_neg (by simp), if_pos trivial, if_pos (by omega), ws i (by omega)]
      exact hend out es (by omega) hes k (by omega)
    · rw [if_neg (by omega)]
      by_cases h2 : i + 1 = L.length
      · have hgv : go least most bits (L[i] :: L.drop (i + 1)) s n = n + 1 := by
          unfold go
          rw [if_neg h1, List.drop_of_length_le (by omega)]
          simp only [go]
          repeat' split
          all_goals rfl
        rw [hgv, hn1] at hes ⊢
        have hb : ((((i + 1 : Nat) : Int)) == ((strOfNums L).size : Int)) = true := by rw [hsz]; exact beq_iff_eq.2 (by omega)
        rw [hb]
        simp only [baileeref07_Ends.j1, baileeref07_Ends.j2]
        rw [if_pos trivial, if_neg (by simp), if_pos trivial, if_pos (by omega), ws i (by omega)]
        exact hend out es (by omega) hes k (by omega)
      · have hb : ((((i + 1 : Nat) : Int)) == ((strOfNums L).size : Int)) = false := by rw [hsz]; exact beq_eq_false_iff_ne.2 (by omega)
        rw [hb]
        simp only [baileeref07_Ends.j1]
        rw [if_neg (by simp)]
        simp only [baileeref07_Ends.j2]
        rw [ws i (by omega)]
        by_cases h3 : (n : Int) + 1 ≥ least
        · have hd3 : decide (((n + 1 : Nat) : Int) ≥ least) = true := decide_eq_true (by omega)
          rw [hd3, if_pos rfl, rare_f bits hb1 hb2 _ hst.1 hst.2 k (by omega)]
          simp only [Option.bind_some]
          by_cases h4 : isRare bits (step s L[i]) = true
          · have hgv : go least most bits (L[i] :: L.drop (i + 1)) s n = n + 1 := by unfold go; rw [if_neg h1, if_pos h3, if_pos h4]
            rw [hgv, hn1] at hes ⊢
            rw [if_pos h4, if_pos (by omega)]
            exact hend out es (by omega) hes k (by omega)
          · have hgv : go least most bits (L[i] :: L.drop (i + 1)) s n = go least most bits (L.drop (i + 1)) (step s L[i]) (n + 1) := by conv => lhs; unfold go; rw [if_neg h1, if_pos h3, if_neg h4]
            rw [hgv] at hes ⊢
            rw [if_neg h4]
            exact hgo es (by omega) hes
        · have hd3 : decide (((n + 1 : Nat) : Int) ≥ least) = false := decide_eq_false (by omega)
          have hgv : go least most bits (L[i] :: L.drop (i + 1)) s n = go least most bits (L.drop (i + 1)) (step s L[i]) (n + 1) := by conv => lhs; unfold go; rw [if_neg h1, if_neg h3]
          rw [hgv] at hes ⊢
          rw [hd3, if_neg (by simp), if_neg (by simp)]
          exact hgo es (by omega) hes
theorem ref_check (a b c : Int) : baileeref07_Check.f a b c = cutter_Check.f a b c := rfl
theorem ref_f (hc : Cfg least most bits) (L : List Int) (hL : L.length ≤ 65536) (hw : ∀ x ∈ L, (Lit.int .u8 x).wf = true) {es : List Int} (h : Cut least most bits L 0 es) (k : Nat) (hk : 3 * L.length + 65 < k) : baileeref07_Ends.f k (strOfNums L) least most bits = some (es, 0) := by
  unfold baileeref07_Ends.f
  rw [ref_check, check_ok hc]
  simp only [Option.bind_some, if_true]
  cases h with
  | stop _ h =>
    obtain ⟨k, rfl⟩ : ∃ m, k = m + 1 := ⟨k - 1, by omega⟩
    simp only [baileeref07_Ends.l0]
    rw [if_neg (by rw [strOfNums_size]; omega)]
  | more _ e es h he r =>
    have hg := ref_run hc L hL hw L.length k 0 0 0 [] es (by omega) (by omega) h (by omega) (by simp only [List.length_nil]; omega) (by rw [Nat.sub_zero, ← he]; exact r)
    rw [Nat.sub_zero, ← he] at hg
    exact hg
theorem ref_no {a b c : Int} (h : cutter_Check.f a b c = some 1) (s : ByteArray) (k : Nat) : baileeref07_Ends.f k s a b c = some ([], 1) := by
  unfold baileeref07_Ends.f
  rw [ref_check, h]
  simp

theorem ends_loop (L : List Int) (hL : L.length ≤ 65536) (es : List Int) (he : es.length ≤ 100000) (ps : List (List Int)) (hps : ps = cuts L 0 es) : ∀ {i : Nat} {fs : List Int}, Cut least most bits L i fs → ∀ (k j : Nat), i ≤ L.length → es.drop j = fs → (cuts L 0 es).drop j = cuts L i fs → j ≤ es.length → fs.length < k →
    baileelaw07_CutterEnds.l0 k L es ps es i j = some true := by
  have hpl : ps.length = es.length := by rw [hps]; exact cuts_len L es 0
  intro i fs h
  induction h with
  | stop i h =>
    intro k j hi hd hq hj hk
    obtain ⟨k, rfl⟩ : ∃ m, k = m + 1 := ⟨k - 1, by omega⟩
    have hlen : es.length - j = 0 := by have := congrArg List.length hd; simpa using this
    simp only [baileelaw07_CutterEnds.l0]
    rw [if_neg (by omega)]
  | more i e fs h hf r ih =>
    intro k j hi hd hq hj hk
    obtain ⟨k, rfl⟩ : ∃ m, k = m + 1 := ⟨k - 1, by omega⟩
    have hn := cut_next (least := least) (most := most) (bits := bits) (L := L) (i := i) h
    rw [← hf] at hn
    have hlen : es.length - j = fs.length + 1 := by have := congrArg List.length hd; simpa using this
    have hjl : j < es.length := by omega
    have hd2 := List.drop_eq_getElem_cons hjl
    rw [hd] at hd2
    injection hd2 with hx hy
    have hr : rd es (j : Int) = (e : Int) := by rw [rd_at es j hjl]; exact hx.symm
    have hpj : j < (cuts L 0 es).length := by rw [cuts_len]; exact hjl
    have hq2 := List.drop_eq_getElem_cons hpj
    rw [hq] at hq2
    simp only [cuts] at hq2
    injection hq2 with hu hv
    have hr2 : rd_L2 ps (j : Int) = (L.take (e : Int).toNat).drop (i : Int).toNat := by
      rw [hps]
      unfold rd_L2
      rw [Int.toNat_natCast, List.getD_eq_getElem?_getD, List.getElem?_eq_getElem hpj]
      exact hu.symm
    simp only [List.length_cons] at hk
    have hn2 := ih k (j + 1) (by omega) hy.symm hv.symm (by omega) (by omega)
    simp only [baileelaw07_CutterEnds.l0]
    rw [if_pos (by omega), if_pos (by omega), if_pos (by omega), if_pos trivial, if_pos (by omega), if_pos (by omega), hr, if_pos (by omega), if_pos (by omega), hr2, if_pos rfl, ws j (by omega)]
    exact hn2
end

theorem CutterEnds (L : List Int) (x y z : Int) (hw : ∀ x ∈ L, (Lit.int .u8 x).wf = true) : ∃ k, baileelaw07_CutterEnds.f k L x y z = some true := by
  obtain ⟨K, hK⟩ : ∃ K : Nat, 10000 ≤ K := ⟨10000, Nat.le_refl _⟩
  refine ⟨K + 1, ?_⟩
  unfold baileelaw07_CutterEnds.f
  rw [awake_at _ (by omega)]
  simp only [Option.bind_some, if_true]
  by_cases hL : (L.length : Int) > 2000
  · rw [if_pos hL]
  · rw [if_neg hL]
    rcases check_or x y z with cfg | hno
    · obtain ⟨es, hes, hle⟩ := cut_ex (least := x) (most := y) (bits := z) L L.length 0 (by omega)
      have hcl := cuts_len L es 0
      rw [ends_f cfg L (by omega) hes (K + 1) (by omega), pieces_f cfg L (by omega) hes (K + 1) (by omega), ref_f cfg L (by omega) hw hes (K + 1) (by omega), check_ok cfg]
      simp only [Option.bind_some, if_true, hcl, baileelaw07_CutterEnds.j0]
      rw [if_neg (by simp)]
      have := ends_loop L (by omega) es (by omega) (cuts L 0 es) rfl hes K 0 (by omega) rfl (by simp) (by omega) (by omega)
      simpa using this
    · rw [ends_no hno, pieces_no hno, ref_no hno, hno]
      simp only [Option.bind_some, if_true, baileelaw07_CutterEnds.j0]
      rw [if_neg (by simp)]
      obtain ⟨k, rfl⟩ : ∃ m, K = m + 1 := ⟨K - 1, by omega⟩
      simp only [baileelaw07_CutterEnds.l0]
      rw [if_neg (by simp)]
end Go.Proofs.Ytogbalmfojkgnaa.CutPure
