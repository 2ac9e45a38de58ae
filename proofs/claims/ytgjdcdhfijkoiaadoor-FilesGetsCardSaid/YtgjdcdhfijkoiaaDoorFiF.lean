/- The reference's names, its Path, and what it calls a front: as the code's. -/
import Derived.Test.YtgjdcdhfijkoiaaDoorFiD
import Derived.Test.YtgjdcdhfijkoiaaDoorCoB
section
namespace Go.Proofs.YtgjdcdhfijkoiaaDoor.Str
open Go.RowKit Go.Proofs.YtgjdcdhfijkoiaaDoorW.PrintWords Go.Proofs.YtgjdcdhfijkoiaaDoorW.PrintLast Go.Proofs.YtgjdcdhfijkoiaaDoorW.PrintMore Go.Proofs.YtgjdcdhfijkoiaaDoor.Mem Go.Proofs.YtgjdcdhfijkoiaaDoor.PCod Go.Proofs.YtgjdcdhfijkoiaaDoor.Cod
set_option linter.unusedVariables false
set_option linter.unusedSimpArgs false
theorem lift_k {α : Type} {f : Nat → Option α} (h : ∀ k, LeO (f k) (f (k + 1))) {r : α} : ∀ (d k : Nat), f k = some r → f (k + d) = some r
  | 0, _, e => e
  | d + 1, k, e => h (k + d) r (lift_k h d k e)
theorem lift_to {α : Type} {f : Nat → Option α} (h : ∀ k, LeO (f k) (f (k + 1))) {r : α} {k m : Nat} (e : f k = some r) (hm : k ≤ m) : f m = some r := by
  obtain ⟨d, rfl⟩ := Nat.exists_eq_add_of_le hm
  exact lift_k h d k e
theorem names_go (s : ByteArray) (hs : s.size ≤ 1000000) : ∀ (m i from_ : Nat) (out : List ByteArray), m + i = s.size + 1 → from_ ≤ i → out.length ≤ i → (∀ j, from_ ≤ j → j < i → (tl s)[j]? ≠ some 47) →
    ∃ R, baileeref11_Names.l0 (m + 1) s out from_ i = some (out ++ R) ∧ (i ≤ s.size → R.map tl = spl ((tl s).drop from_)) ∧ (s.size < i → R = [])
  | 0, i, fr, out, hm, hf, ho, hn => by
    refine ⟨[], ?_, fun h => by omega, fun _ => rfl⟩
    unfold baileeref11_Names.l0
    rw [if_neg (by omega), List.append_nil]
  | m + 1, i, fr, out, hm, hf, ho, hn => by
    have hi : i ≤ s.size := by omega
    have hz := tl_size s
    have hw : wrap64 ((i : Int) + 1) = ((i + 1 : Nat) : Int) := w64n i (by omega)
    have e1 : ((fr : Int).toNat) = fr := Int.toNat_natCast fr
    have e2 : ((i : Int).toNat) = i := Int.toNat_natCast i
    unfold baileeref11_Names.l0
    rw [if_pos (by omega)]
    have hseg : ∀ x ∈ ((tl s).take i).drop fr, x ≠ 47 := by
      intro x hx e
      obtain ⟨k, hk, e3⟩ := List.getElem_of_mem hx
      rw [List.length_drop, List.length_take] at hk
      rw [List.getElem_drop, List.getElem_take] at e3
      exact hn (fr + k) (by omega) (by omega) (by rw [List.getElem?_eq_getElem (by omega), e3, e])
    have hone : spl (((tl s).take i).drop fr) = [((tl s).take i).drop fr] := spl_one _ (fun h => hseg 47 h rfl)
    by_cases hend : (i : Int) = s.size
    · rw [if_pos hend, if_pos (by omega), if_pos (by omega), if_pos (by omega), hw, e1, e2]
      obtain ⟨R, h1, _, h3⟩ := names_go s hs m (i + 1) (i + 1) (out ++ [s.extract fr i]) (by omega) (by omega) (by rw [List.length_append]; simp; omega) (fun j h1 h2 => by omega)
      rw [h3 (by omega), List.append_nil] at h1
      refine ⟨[s.extract fr i], h1, fun _ => ?_, fun h => by omega⟩
      rw [List.map_cons, tl_extract]
      have e4 : (tl s).take i = tl s := List.take_of_length_le (by omega)
      rw [e4] at hone ⊢
      exact hone.symm
    · rw [if_neg hend, if_pos (by omega), if_pos (by omega)]
      by_cases hc : bt s i = 47
      · rw [if_pos hc, if_pos (by omega), if_pos (by omega), if_pos (by omega), hw, e1, e2]
        obtain ⟨R, h1, h2, _⟩ := names_go s hs m (i + 1) (i + 1) (out ++ [s.extract fr i]) (by omega) (by omega) (by rw [List.length_append]; simp; omega) (fun j h1 h2 => by omega)
        refine ⟨s.extract fr i :: R, by rw [h1, List.append_assoc]; rfl, fun _ => ?_, fun h => by omega⟩
        rw [List.map_cons, h2 (by omega), tl_extract]
        have hc2 := (bt_tl s i).1 hc
        obtain ⟨h5, h6⟩ := List.getElem?_eq_some_iff.1 hc2
        have e5 : (tl s).drop fr = ((tl s).take i).drop fr ++ 47 :: (tl s).drop (i + 1) := by
          conv => lhs; rw [← List.take_append_drop i (tl s), List.drop_eq_getElem_cons h5, h6, List.drop_append_of_le_length (by rw [List.length_take]; omega)]
        rw [e5, spl_app, hone]
        rfl
      · rw [if_neg hc, hw]
        obtain ⟨R, h1, h2, h3⟩ := names_go s hs m (i + 1) fr out (by omega) (by omega) (by omega) (fun j h1 h2 => by
          by_cases h : j = i
          · rw [h]; exact fun h => hc ((bt_tl s i).2 h)
          · exact hn j h1 (by omega))
        exact ⟨R, h1, fun _ => h2 (by omega), fun h => by omega⟩
theorem map_tl_inj : ∀ {a b : List ByteArray}, a.map tl = b.map tl → a = b
  | [], [], _ => rfl
  | [], _ :: _, h => by cases h
  | _ :: _, [], h => by cases h
  | x :: a, y :: b, h => by
    rw [List.map_cons, List.map_cons] at h
    injection h with h1 h2
    rw [tl_inj h1, map_tl_inj h2]
theorem names_f (s : ByteArray) (hs : s.size ≤ 1000000) : baileeref11_Names.f (s.size + 2) s = some (namesB s) := by
  obtain ⟨R, h1, h2, _⟩ := names_go s hs (s.size + 1) 0 0 [] (by omega) (by omega) (by simp) (fun j h1 h2 => by omega)
  have h3 : R = namesB s := map_tl_inj (by rw [h2 (by omega), List.drop_zero, namesB_spl])
  rw [h3] at h1
  exact h1
/-! ### Path -/
theorem rp_names (l : List ByteArray) (hl : l.length ≤ 1000000) : ∀ (k i : Nat), k + i = l.length → baileeref11_Path.l1 (k + 1) l i = some ((l.drop i).all okName)
  | 0, i, h => by
    unfold baileeref11_Path.l1
    rw [if_neg (by omega), List.drop_of_length_le (by omega)]
    rfl
  | k + 1, i, h => by
    have e : rdOf ByteArray.empty l (i : Int) = l[i]'(by omega) := by
      unfold rdOf
      rw [Int.toNat_natCast, List.getD_eq_getElem?_getD, List.getElem?_eq_getElem (by omega)]
      rfl
    have hw : wrap64 ((i : Int) + 1) = ((i + 1 : Nat) : Int) := w64n i (by omega)
    unfold baileeref11_Path.l1
    rw [if_pos (by omega), if_pos (by omega), e, hw, rp_names l hl k (i + 1) (by omega), List.drop_eq_getElem_cons (l := l) (i := i) (by omega), List.all_cons]
    generalize l[i]'(by omega) = n
    unfold okName
    by_cases h1 : n.toList = []
    · rw [if_pos h1, h1]; rfl
    · rw [if_neg h1]
      by_cases h2 : n.toList = [46]
      · rw [if_pos h2, h2]; rfl
      · rw [if_neg h2]
        by_cases h3 : n.toList = [46, 46]
        · rw [if_pos h3, h3]; rfl
        · rw [if_neg h3, List.isEmpty_eq_false_iff.2 h1, beq_eq_false_iff_ne.2 h2, beq_eq_false_iff_ne.2 h3]; rfl
theorem rp_bytes (s : ByteArray) (hs : s.size ≤ 255) : ∀ (k i : Nat), k + i = s.size → baileeref11_Path.l0 (k + 600) s i = some (((tl s).drop i).all (fun c => decide (32 ≤ c.toNat)) && (namesB s).all okName)
  | 0, i, h => by
    have hz := tl_size s
    have hln : (namesB s).length ≤ 256 := by
      have h1 := congrArg List.length (namesB_spl s)
      rw [List.length_map] at h1
      have h2 : ∀ l : List UInt8, (spl l).length ≤ l.length + 1 := by
        intro l
        induction l with
        | nil => simp [spl]
        | cons c r ih =>
          by_cases hc : c = 47
          · subst hc; rw [spl_slash]; simp; omega
          · obtain ⟨a, b, e⟩ := spl_ne r
            rw [spl_cons hc e]; rw [e] at ih; simp at ih ⊢; omega
      rw [h1]
      have := h2 (tl s)
      omega
    have hN : baileeref11_Names.f 599 s = some (namesB s) := lift_to (f := fun k => baileeref11_Names.f k s) (fun k => baileeref11_Names.mono s k) (names_f s (by omega)) (by omega)
    have hP : baileeref11_Path.l1 599 (namesB s) ((0 : Nat) : Int) = some (((namesB s).drop 0).all okName) := lift_to (f := fun k => baileeref11_Path.l1 k (namesB s) ((0 : Nat) : Int)) (fun k => (baileeref11_Path.mono_l k).2.2 _ _) (rp_names (namesB s) (by omega) (namesB s).length 0 (by omega)) (by omega)
    show baileeref11_Path.l0 (599 + 1) s i = _
    unfold baileeref11_Path.l0
    rw [if_neg (by omega), hN, Option.bind_some, List.drop_of_length_le (by omega)]
    exact hP
  | k + 1, i, h => by
    have hz := tl_size s
    have hw : wrap64 ((i : Int) + 1) = ((i + 1 : Nat) : Int) := w64n i (by omega)
    have ih := rp_bytes s hs k (i + 1) (by omega)
    show baileeref11_Path.l0 (k + 600 + 1) s i = _
    unfold baileeref11_Path.l0
    rw [if_pos (by omega), if_pos (by omega), hw, ih, List.drop_eq_getElem_cons (l := tl s) (i := i) (by omega), List.all_cons]
    have hb : bt s (i : Int) = ((tl s)[i]'(by omega)).toNat := by
      rw [← bt_at s (i : Int) (by rw [Int.toNat_natCast]; omega)]
      rfl
    rw [hb]
    by_cases hc : (((tl s)[i]'(by omega)).toNat : Int) < 32
    · rw [if_pos hc, decide_eq_false (by omega)]; rfl
    · rw [if_neg hc, decide_eq_true (by omega), Bool.true_and]
theorem j0_step (k : Nat) (s : ByteArray) (b : Bool) : baileeref11_Path.j0 (k + 1) s b = if b = true then some false else baileeref11_Path.l0 k s 0 := by
  unfold baileeref11_Path.j0
  rfl
theorem rpath_f (s : ByteArray) : baileeref11_Path.f 1000 s = some (pathM s) := by
  have hz := tl_size s
  unfold baileeref11_Path.f pathM
  rw [toList_tl]
  by_cases h0 : tl s = []
  · rw [if_pos h0]
    have : s.size = 0 := by rw [← hz, h0]; rfl
    refine (j0_step 999 s true).trans ?_
    rw [if_pos rfl, decide_eq_false (by omega)]
    rfl
  · rw [if_neg h0]
    have h1 : 1 ≤ s.size := by
      rw [← hz]
      exact List.length_pos_iff.2 h0
    refine (j0_step 999 s _).trans ?_
    by_cases h2 : (s.size : Int) > 255
    · rw [if_pos (decide_eq_true h2), decide_eq_false (by omega)]; rfl
    · rw [if_neg (by rw [decide_eq_false h2]; decide), decide_eq_true (by omega), Bool.true_and]
      have h3 := rp_bytes s (by omega) s.size 0 (by omega)
      exact lift_to (f := fun k => baileeref11_Path.l0 k s 0) (fun k => (baileeref11_Path.mono_l k).2.1 _ _) h3 (by omega)
theorem rpath_calls (s : ByteArray) (w : World) : Calls Tryd.prog 19 #[.string s] w fun e w' => e = .returned (.bool (pathM s)) ∧ Below w.heap.size w w' :=
  baileeref11_Path.calls 1000 s _ w (rpath_f s)
/-! ### front -/
instance froDec (a b : List UInt8) : Decidable (Fro a b) := decidable_of_iff _ (fro_iff a b).symm
def froB (a b : ByteArray) : Bool := decide (Fro (tl a) (tl b))
theorem rfront_f (a b : ByteArray) : baileeref11_front.f a b = some (froB a b) := by
  have za := tl_size a
  have zb := tl_size b
  have hq : froB a b = true ↔ (tl b)[a.size]? = some 47 ∧ (tl b).take a.size = tl a := by
    unfold froB
    rw [decide_eq_true_eq, fro_iff, za]
  unfold baileeref11_front.f
  by_cases h1 : (b.size : Int) > a.size
  · rw [if_pos h1, if_pos (by omega), if_pos (by omega), Int.toNat_natCast, toList_tl, toList_tl, tl_extract, List.drop_zero]
    by_cases h2 : (tl b).take a.size = tl a
    · rw [if_pos h2, if_pos (by omega)]
      congr 1
      rw [Bool.eq_iff_iff, beq_iff_eq, bt_tl, hq]
      exact ⟨fun h => ⟨h, h2⟩, fun h => h.1⟩
    · rw [if_neg h2]
      congr 1
      exact (Bool.eq_false_iff.2 (fun h => h2 (hq.1 h).2)).symm
  · rw [if_neg h1]
    congr 1
    refine (Bool.eq_false_iff.2 (fun h => ?_)).symm
    have h3 := (List.getElem?_eq_some_iff.1 (hq.1 h).1).1
    omega
end Go.Proofs.YtgjdcdhfijkoiaaDoor.Str
end
section
namespace Go.Proofs.YtgjdcdhfijkoiaaDoor.Str
open Go.RowKit Go.Proofs.YtgjdcdhfijkoiaaDoorW.PrintWords Go.Proofs.YtgjdcdhfijkoiaaDoorW.PrintLast Go.Proofs.YtgjdcdhfijkoiaaDoorW.PrintMore Go.Proofs.YtgjdcdhfijkoiaaDoor.Mem Go.Proofs.YtgjdcdhfijkoiaaDoor.PCod Go.Proofs.YtgjdcdhfijkoiaaDoor.Cod
set_option linter.unusedVariables false
set_option linter.unusedSimpArgs false
def ofF (f : S80) : FS := ⟨f.f0, bytesOf f.f1⟩
theorem ofF_toF {f : FS} (h : Byt f.f1) : ofF (toF f) = f := by
  unfold toF ofF
  dsimp only
  rw [bytesOf_str h]
theorem ofFs {l : List FS} (h : ∀ f ∈ l, Byt f.f1) : (l.map toF).map ofF = l := by
  rw [List.map_map]
  conv => rhs; rw [← List.map_id l]
  exact List.map_congr_left (fun f hf => ofF_toF (h f hf))
def pth (m : List S80) (i : Nat) : ByteArray := (m.getD i z80).f0
def goodR (m : List S80) (i : Nat) : Bool := pathM (pth m i) && (decide (i = 0) || lessS (pth m (i - 1)) (pth m i)) && !(m.any (fun f => froB f.f0 (pth m i)))
def bigR (f : S80) : Bool := decide (1048576 < f.f1.size)
def sumR (m : List S80) : Nat := (m.map (fun f => f.f1.size)).sum
def sizeR (m : List S80) : Int := if m.any bigR = true then 13 else if 16777216 < sumR m ∨ 65536 < m.length then 13 else 0
theorem l2_go (m : List S80) (hm : m.length ≤ 100000) : ∀ (q k x K : Nat), q + k = m.length → q + 1 ≤ K → x ≤ k * 1048576 → baileeref11_Check.l2 K m x k = some (if (m.drop k).any bigR = true then 13 else if 16777216 < x + sumR (m.drop k) ∨ 65536 < m.length then 13 else 0)
  | 0, k, x, K, hq, hK, hx => by
    obtain ⟨K, rfl⟩ : ∃ K', K = K' + 1 := ⟨K - 1, by omega⟩
    unfold baileeref11_Check.l2
    rw [if_neg (by omega), List.drop_of_length_le (by omega)]
    show _ = some (if 16777216 < x + 0 ∨ 65536 < m.length then 13 else 0)
    by_cases h1 : (x : Int) > 16777216
    · rw [if_pos h1, if_pos (by omega)]
    · rw [if_neg h1]
      by_cases h2 : (m.length : Int) > 65536
      · rw [if_pos h2, if_pos (by omega)]
      · rw [if_neg h2, if_neg (by omega)]
  | q + 1, k, x, K, hq, hK, hx => by
    obtain ⟨K, rfl⟩ : ∃ K', K = K' + 1 := ⟨K - 1, by omega⟩
    have hw : wrap64 ((k : Int) + 1) = ((k + 1 : Nat) : Int) := w64n k (by omega)
    unfold baileeref11_Check.l2
    rw [if_pos (by omega), if_pos (by omega), hw, drop_getD8 (l := m) (i := k) (by omega), List.any_cons]
    show (if ((m.getD k z80).f1.size : Int) > 1048576 then _ else baileeref11_Check.l2 K m (wrap64 (x + ((m.getD k z80).f1.size : Int))) _) = _
    generalize m.getD k z80 = f
    by_cases h1 : (f.f1.size : Int) > 1048576
    · have hb : bigR f = true := decide_eq_true (by omega)
      rw [if_pos h1, hb, Bool.true_or, if_pos rfl]
    · have hb : bigR f = false := decide_eq_false (by omega)
      have e : wrap64 ((x : Int) + (f.f1.size : Int)) = ((x + f.f1.size : Nat) : Int) := by rw [w64_small (by omega) (by omega)]; rfl
      rw [if_neg h1, hb, Bool.false_or, e, l2_go m hm q (k + 1) (x + f.f1.size) K (by omega) (by omega) (by omega)]
      have e2 : sumR (f :: m.drop (k + 1)) = f.f1.size + sumR (m.drop (k + 1)) := by unfold sumR; rw [List.map_cons, List.sum_cons]
      rw [e2, Nat.add_assoc]
theorem l1_go (m : List S80) (i : Nat) (hm : m.length ≤ 100000) (hi : i < m.length) (F : Nat) (r : Int) (hr : ∀ K, F ≤ K → baileeref11_Check.l0 K m ((i + 1 : Nat) : Int) = some r) :
    ∀ (q k K : Nat), q + k = m.length → q + 1 + F ≤ K → baileeref11_Check.l1 K m i k = some (if (m.drop k).any (fun f => froB f.f0 (pth m i)) = true then 1 else r)
  | 0, k, K, hq, hK => by
    obtain ⟨K, rfl⟩ : ∃ K', K = K' + 1 := ⟨K - 1, by omega⟩
    have hw : wrap64 ((i : Int) + 1) = ((i + 1 : Nat) : Int) := w64n i (by omega)
    unfold baileeref11_Check.l1
    rw [if_neg (by omega), List.drop_of_length_le (by omega), hw, hr K (by omega)]
    rfl
  | q + 1, k, K, hq, hK => by
    obtain ⟨K, rfl⟩ : ∃ K', K = K' + 1 := ⟨K - 1, by omega⟩
    have hw : wrap64 ((k : Int) + 1) = ((k + 1 : Nat) : Int) := w64n k (by omega)
    unfold baileeref11_Check.l1
    rw [if_pos (by omega), if_pos (by omega), if_pos (by omega), if_pos (by omega), rfront_f, Option.bind_some, hw, l1_go m i hm hi F r hr q (k + 1) K (by omega) (by omega), drop_getD8 (l := m) (i := k) (by omega), List.any_cons]
    show (if froB (m.getD k z80).f0 (pth m i) = true then _ else _) = _
    cases froB (m.getD k z80).f0 (pth m i)
    · rw [if_neg (by decide), Bool.false_or]
    · rw [if_pos rfl, Bool.true_or, if_pos rfl]
set_option maxRecDepth 100000 in
theorem l0_go (m : List S80) (hm : m.length ≤ 100000) : ∀ (q i K : Nat), q + i = m.length → q * (m.length + 4) + m.length + 1010 ≤ K → baileeref11_Check.l0 K m i = some (if (List.range' i q).all (goodR m) = true then sizeR m else 1)
  | 0, i, K, hq, hK => by
    obtain ⟨K, rfl⟩ : ∃ K', K = K' + 1 := ⟨K - 1, by omega⟩
    unfold baileeref11_Check.l0
    rw [if_neg (by omega)]
    have h := l2_go m hm m.length 0 0 K (by omega) (by omega) (by omega)
    rw [List.drop_zero, Nat.zero_add] at h
    exact h
  | q + 1, i, K, hq, hK => by
    obtain ⟨K, rfl⟩ : ∃ K', K = K' + 2 := ⟨K - 2, by omega⟩
    have hi : i < m.length := by omega
    have hw : 0 < i → wrap64 ((i : Int) - 1) = ((i - 1 : Nat) : Int) := fun h => by rw [w64_small (by omega) (by omega)]; omega
    have hmul : (q + 1) * (m.length + 4) = q * (m.length + 4) + (m.length + 4) := Nat.succ_mul _ _
    have hP : baileeref11_Path.f (K + 1) (m.getD i z80).f0 = some (pathM (pth m i)) := lift_to (f := fun k => baileeref11_Path.f k (m.getD i z80).f0) (fun k => baileeref11_Path.mono _ k) (rpath_f _) (by omega)
    obtain ⟨r, hr⟩ : ∃ r, r = (if (List.range' (i + 1) q).all (goodR m) = true then sizeR m else 1) := ⟨_, rfl⟩
    have h1 := l1_go m i hm hi (q * (m.length + 4) + m.length + 1010) r (fun K' hK' => by rw [l0_go m hm q (i + 1) K' (by omega) hK', hr]) m.length 0 K (by omega) (by omega)
    rw [List.drop_zero] at h1
    have hj : ∀ b, baileeref11_Check.j1 (K + 1) m i b = some (if b = true then 1 else if m.any (fun f => froB f.f0 (pth m i)) = true then 1 else r) := by
      intro b
      unfold baileeref11_Check.j1
      cases b
      · rw [if_neg (by decide), if_neg (by decide)]; exact h1
      · rw [if_pos rfl, if_pos rfl]
    have hg : (if (List.range' i (q + 1)).all (goodR m) = true then sizeR m else 1) = if goodR m i = true then r else 1 := by
      rw [List.range'_succ, List.all_cons, hr]
      cases goodR m i
      · rfl
      · rw [Bool.true_and]; rfl
    rw [hg]
    have hP2 : baileeref11_Path.f (K + 1) ((rd_T80 m (i : Int)).f0) = some (pathM (pth m i)) := hP
    unfold baileeref11_Check.l0
    rw [if_pos (by omega), if_pos (by omega), hP2, Option.bind_some, hj true, hj false]
    unfold goodR
    cases hp : pathM (pth m i)
    · rw [if_neg (by decide)]; rfl
    · rw [if_pos rfl, Bool.true_and]
      by_cases h0 : i = 0
      · subst h0
        rw [if_neg (by decide), decide_eq_true rfl, Bool.true_or, Bool.true_and]
        cases m.any (fun f => froB f.f0 (pth m 0)) <;> rfl
      · rw [if_pos (by omega), hw (by omega), if_pos (by omega), if_pos (by omega), hj, decide_eq_false h0, Bool.false_or]
        have e : Op.bytesLess ((rd_T80 m ((i - 1 : Nat) : Int)).f0).toList ((rd_T80 m (i : Int)).f0).toList = lessS (pth m (i - 1)) (pth m i) := rfl
        rw [e]
        cases lessS (pth m (i - 1)) (pth m i) <;> cases m.any (fun f => froB f.f0 (pth m i)) <;> rfl
def chkR (m : List S80) : Int := if (List.range m.length).all (goodR m) = true then sizeR m else 1
theorem rcheck_f (m : List S80) (hm : m.length ≤ 100000) {K : Nat} (hK : m.length * (m.length + 4) + m.length + 1010 ≤ K) : baileeref11_Check.f K m = some (chkR m) := by
  have h := l0_go m hm m.length 0 K (by omega) hK
  unfold baileeref11_Check.f chkR
  rw [List.range_eq_range']
  exact h
/-! ### as the code's -/
theorem pathsGo_iff : ∀ (l : List FS) (p : Option ByteArray) (seen : List (List UInt8)), pathsGo p seen l = true ↔ ∀ i, i < l.length → pathM (l.getD i z50).f0 = true ∧ (match (if i = 0 then p else some (l.getD (i - 1) z50).f0) with | none => true | some q => lessS q (l.getD i z50).f0) = true ∧ (∀ a ∈ seen, ¬ Fro a (tl (l.getD i z50).f0)) ∧ ∀ k, k < i → ¬ Fro (tl (l.getD k z50).f0) (tl (l.getD i z50).f0)
  | [], p, seen => by
    rw [pathsGo_nil]
    exact ⟨fun _ i hi => by simp at hi, fun _ => rfl⟩
  | f :: r, p, seen => by
    have hfi : ∀ (s : List (List UInt8)) (x : ByteArray), (!frontIn s x) = true ↔ ∀ a ∈ s, ¬ Fro a (tl x) := by
      intro s x
      rw [Bool.not_eq_true', Bool.eq_false_iff, ne_eq, frontIn_iff]
      exact ⟨fun h a ha hf => h ⟨a, ha, hf⟩, fun h ⟨a, ha, hf⟩ => h a ha hf⟩
    rw [pathsGo_cons, Bool.and_eq_true, Bool.and_eq_true, Bool.and_eq_true, hfi, pathsGo_iff r]
    constructor
    · rintro ⟨⟨⟨h1, h2⟩, h3⟩, h4⟩ i hi
      cases i with
      | zero => exact ⟨h1, h2, h3, fun k hk => by omega⟩
      | succ i =>
        obtain ⟨g1, g2, g3, g4⟩ := h4 i (by simpa using hi)
        refine ⟨g1, ?_, fun a ha => g3 a (List.mem_cons_of_mem _ ha), fun k hk => ?_⟩
        · cases i with
          | zero => exact g2
          | succ i => exact g2
        · cases k with
          | zero => exact g3 _ List.mem_cons_self
          | succ k => exact g4 k (by omega)
    · intro h
      obtain ⟨h1, h2, h3, _⟩ := h 0 (by simp)
      refine ⟨⟨⟨h1, h2⟩, h3⟩, fun i hi => ?_⟩
      obtain ⟨g1, g2, g3, g4⟩ := h (i + 1) (by simpa using hi)
      refine ⟨g1, ?_, fun a ha => ?_, fun k hk => g4 (k + 1) (by omega)⟩
      · cases i with
        | zero => exact g2
        | succ i => exact g2
      · rcases List.mem_cons.1 ha with rfl | ha
        · exact g4 0 (by omega)
        · exact g3 a ha
theorem pth_of (m : List S80) (i : Nat) : ((m.map ofF).getD i z50).f0 = pth m i := by
  unfold pth
  rw [List.getD_eq_getElem?_getD, List.getD_eq_getElem?_getD, List.getElem?_map]
  cases m[i]? <;> rfl
/-- In order: each path before all that stand behind it. -/
theorem sorted_lt {m : List S80} (h : ∀ i, i < m.length → 0 < i → lessS (pth m (i - 1)) (pth m i) = true) : ∀ (d i : Nat), i + d + 1 < m.length → lessS (pth m i) (pth m (i + d + 1)) = true
  | 0, i, hi => h (i + 1) hi (by omega)
  | d + 1, i, hi => by
    have h1 := sorted_lt h d i (by omega)
    have h2 := h (i + (d + 1) + 1) hi (by omega)
    rw [lessS_tl] at *
    exact less_trans _ _ _ h1 h2
theorem good_paths (m : List S80) : (List.range m.length).all (goodR m) = pathsM (m.map ofF) := by
  rw [Bool.eq_iff_iff, List.all_eq_true]
  unfold pathsM
  rw [pathsGo_iff, List.length_map]
  have hg : ∀ i, goodR m i = true ↔ pathM (pth m i) = true ∧ (i = 0 ∨ lessS (pth m (i - 1)) (pth m i) = true) ∧ ∀ f ∈ m, ¬ Fro (tl f.f0) (tl (pth m i)) := by
    intro i
    unfold goodR
    rw [Bool.and_eq_true, Bool.and_eq_true, Bool.or_eq_true, decide_eq_true_eq, Bool.not_eq_true', List.any_eq_false, and_assoc]
    unfold froB
    simp only [decide_eq_true_eq]
  have hmem : ∀ k, k < m.length → m.getD k z80 ∈ m := fun k hk => by
    rw [List.getD_eq_getElem?_getD, List.getElem?_eq_getElem hk]
    exact List.getElem_mem hk
  constructor
  · intro h i hi
    obtain ⟨h1, h2, h3⟩ := (hg i).1 (h i (List.mem_range.2 hi))
    rw [pth_of]
    refine ⟨h1, ?_, (fun a ha => nomatch ha), fun k hk => ?_⟩
    · by_cases h0 : i = 0
      · rw [if_pos h0]
      · rw [if_neg h0, pth_of]
        rcases h2 with h2 | h2
        · exact absurd h2 h0
        · exact h2
    · rw [pth_of]
      exact h3 _ (hmem k (by omega))
  · intro h i hi
    have hi := List.mem_range.1 hi
    have h' : ∀ j, j < m.length → pathM (pth m j) = true ∧ (0 < j → lessS (pth m (j - 1)) (pth m j) = true) ∧ ∀ k, k < j → ¬ Fro (tl (pth m k)) (tl (pth m j)) := by
      intro j hj
      obtain ⟨h1, h2, _, h4⟩ := h j hj
      rw [pth_of] at h1 h2 h4
      refine ⟨h1, fun h0 => ?_, fun k hk => ?_⟩
      · rw [if_neg (by omega), pth_of] at h2
        exact h2
      · have := h4 k hk
        rwa [pth_of] at this
    obtain ⟨h1, h2, h4⟩ := h' i hi
    refine (hg i).2 ⟨h1, ?_, fun f hf hfr => ?_⟩
    · by_cases h0 : i = 0
      · exact .inl h0
      · exact .inr (h2 (by omega))
    · obtain ⟨k, hk, rfl⟩ := List.getElem_of_mem hf
      have e : m[k] = m.getD k z80 := by rw [List.getD_eq_getElem?_getD, List.getElem?_eq_getElem hk]; rfl
      rw [e] at hfr
      have hfr2 : Fro (tl (pth m k)) (tl (pth m i)) := hfr
      have hl := fro_less hfr2
      rcases Nat.lt_trichotomy k i with hlt | rfl | hgt
      · exact h4 k hlt hfr2
      · rw [less_irr] at hl; cases hl
      · have h5 := sorted_lt (m := m) (fun j hj h0 => (h' j hj).2.1 h0) (k - i - 1) i (by omega)
        rw [show i + (k - i - 1) + 1 = k by omega, lessS_tl] at h5
        have h6 := less_trans _ _ _ h5 hl
        rw [less_irr] at h6
        cases h6
theorem chkR_eq (m : List S80) : chkR m = checkM (m.map ofF) := by
  unfold chkR checkM
  rw [good_paths]
  have e1 : (m.map ofF).any bigF = m.any bigR := by
    rw [List.any_map]
    congr 1
    funext f
    show bigF (ofF f) = bigR f
    unfold bigF bigR ofF
    rw [bytesOf_length]
  have e2 : sumF (m.map ofF) = sumR m := by
    unfold sumF sumR
    rw [List.map_map]
    congr 1
    refine List.map_congr_left (fun f _ => ?_)
    show (bytesOf f.f1).length = _
    rw [bytesOf_length]
  cases pathsM (m.map ofF)
  · rfl
  · rw [if_pos rfl, if_neg (by decide), e1, e2, List.length_map]
    rfl
theorem rcheck_calls {w : World} {A : Option Addr} {c : Nat} {m : List S80} (hr : Kd.C k80 w A m.length m) (hc : m.length ≤ c) (hm : m.length ≤ 100000) :
    Calls Tryd.prog 21 #[.slice A m.length c] w fun e w' => e = .returned (.int .i64 (checkM (m.map ofF))) ∧ Below w.heap.size w w' := by
  rw [← chkR_eq]
  exact baileeref11_Check.calls _ A c m _ w hr hc (rcheck_f m hm (Nat.le_refl _))
end Go.Proofs.YtgjdcdhfijkoiaaDoor.Str
end
section
namespace Go.Proofs.YtgjdcdhfijkoiaaDoor.Str
open Go.RowKit Go.Proofs.YtgjdcdhfijkoiaaDoorW.PrintWords Go.Proofs.YtgjdcdhfijkoiaaDoorW.PrintLast Go.Proofs.YtgjdcdhfijkoiaaDoorW.PrintMore Go.Proofs.YtgjdcdhfijkoiaaDoor.Mem Go.Proofs.YtgjdcdhfijkoiaaDoor.PCod Go.Proofs.YtgjdcdhfijkoiaaDoor.Cod
set_option linter.unusedVariables false
set_option linter.unusedSimpArgs false
theorem end_f (R : RM) : baileeref01_End.f (S R.b) R.e = some R.end_ := by
  unfold baileeref01_End.f RM.end_
  by_cases he : R.e = 0
  · rw [if_pos he, if_neg (show ¬ R.e ≠ 0 from fun h => h he)]
    by_cases hb : R.b = []
    · rw [if_pos ((S_toList _).2 hb), if_pos hb]
    · rw [if_neg (fun h => hb ((S_toList _).1 h)), if_neg hb]
  · rw [if_neg he, if_pos he]
theorem rdNum_bad : ∀ (b : List Int) (i : Nat) (x m : Int), (rdNum i x m b).2.1 ≠ 0 → (rdNum i x m b).2.2 = 0 := by
  intro b
  induction b with
  | nil => intro i x m _; rfl
  | cons c r ih =>
    intro i x m h
    unfold rdNum at h ⊢
    split at h
    · rename_i hc; rw [if_pos hc]
    · rename_i hc
      rw [if_neg hc]
      split at h
      · exact absurd rfl h
      · rename_i hc2
        rw [if_neg hc2]
        exact ih _ _ _ h
theorem uint_bad {b : List Int} (h : (⟨b, 0⟩ : RM).uint.1.e ≠ 0) : (⟨b, 0⟩ : RM).uint.2 = 0 := by
  rw [RM.uint_0] at h ⊢
  exact rdNum_bad b 0 0 1 h
def finG (z : RM × List FS) : List S80 × Int := if z.1.end_ ≠ 0 then ([], z.1.end_) else if checkM z.2 ≠ 0 then ([], 11) else (z.2.map toF, 0)
theorem fin_j1 (n i K : Nat) (R : RM) (o : List FS) (ho : o.length ≤ 70000) (hy : ∀ f ∈ o, Byt f.f1) (hK : 4900421010 ≤ K) : baileeref11_Get.j1 (K + 1) n (o.map toF) i false (S R.b) R.e = some (finG (R, o)) := by
  have hmul : o.length * (o.length + 4) ≤ 70000 * 70004 := Nat.mul_le_mul ho (by omega)
  have hc := rcheck_f (o.map toF) (by rw [List.length_map]; omega) (K := K) (by rw [List.length_map]; omega)
  rw [chkR_eq, ofFs hy] at hc
  unfold baileeref11_Get.j1 finG
  rw [if_neg (by decide), end_f, Option.bind_some]
  dsimp only
  by_cases h1 : R.end_ = 0
  · rw [if_pos h1, if_neg (by simpa using h1), hc, Option.bind_some]
    by_cases h2 : checkM o = 0
    · rw [if_pos h2, if_neg (by simpa using h2)]
    · rw [if_neg h2, if_pos h2]
  · rw [if_neg h1, if_pos h1]
theorem get_go (n : Nat) (hn : n ≤ 65536) : ∀ (q i K : Nat) (R : RM) (o : List FS), q + i = n → o.length ≤ i → Byt R.b → (∀ f ∈ o, Byt f.f1) → 2 * q + 4900421010 + 2 ≤ K → baileeref11_Get.l0 K n (o.map toF) i (S R.b) R.e = some (finG (getGo q R o))
  | 0, i, K, R, o, hq, ho, hb, hy, hK => by
    obtain ⟨K, rfl⟩ : ∃ K', K = K' + 2 := ⟨K - 2, by omega⟩
    unfold baileeref11_Get.l0
    rw [if_neg (by omega)]
    exact fin_j1 n i K R o (by omega) hy (by omega)
  | q + 1, i, K, R, o, hq, ho, hb, hy, hK => by
    obtain ⟨K, rfl⟩ : ∃ K', K = K' + 2 := ⟨K - 2, by omega⟩
    unfold baileeref11_Get.l0
    rw [if_pos (by omega)]
    unfold getGo
    by_cases he : R.e = 0
    · rw [if_neg (by simpa using he), show (R.e == 0) = true from beq_iff_eq.2 he]
      have h1 := lift_to (f := fun k => baileeref01_Bytes.f k (S R.b) R.e 255) (fun k => baileeref01_Bytes.mono _ _ _ k) (bytes_f hb 255 (by decide)) (show 22 ≤ K by omega)
      have hb1 := (RM.bytes_byt hb 255).1
      have h2 := lift_to (f := fun k => baileeref01_Bytes.f k (S (R.bytes 255).1.b) (R.bytes 255).1.e 1048576) (fun k => baileeref01_Bytes.mono _ _ _ k) (bytes_f hb1 1048576 (by decide)) (show 22 ≤ K by omega)
      have hb2 := RM.bytes_byt hb1 1048576
      have hw : IntKind.u64.wrap ((i : Int) + 1) = ((i + 1 : Nat) : Int) := by rw [u64_small (by omega) (by omega)]; rfl
      unfold baileeref11_Get.j1
      rw [if_pos rfl, h1, Option.bind_some, h2, Option.bind_some, if_pos (by rw [List.length_map]; omega), hw]
      have ih := get_go n hn q (i + 1) K (stepF R) (o ++ [oneF R]) (by omega) (by rw [List.length_append]; simp; omega) hb2.1 (fun f hf => by
        rcases List.mem_append.1 hf with hf | hf
        · exact hy f hf
        · rw [List.mem_singleton.1 hf]; exact hb2.2) (by omega)
      rw [List.map_append] at ih
      exact ih
    · rw [if_pos he, show (R.e == 0) = false from beq_eq_false_iff_ne.2 he]
      exact fin_j1 n i K R o (by omega) hy (by omega)
theorem rget_f {b : List Int} (hb : Byt b) : ∃ K, baileeref11_Get.f K (S b) = some ((getM b).1.map toF, (getM b).2) := by
  have hn0 := RM.uint_bd (R := ⟨b, 0⟩) hb
  have hby := RM.uint_byt (R := ⟨b, 0⟩) hb
  refine ⟨4900700000, ?_⟩
  have hU := lift_to (f := fun k => baileeref01_Uint.f k (S b) 0) (fun k => baileeref01_Uint.mono _ _ k) (uint_f (R := ⟨b, 0⟩) hb) (show 22 ≤ 4900700000 by decide)
  unfold baileeref11_Get.f
  rw [hU, Option.bind_some]
  dsimp only
  unfold getM
  generalize hR : (⟨b, 0⟩ : RM).uint.1 = R at *
  generalize hn : (⟨b, 0⟩ : RM).uint.2 = n at *
  by_cases he : R.e = 0
  · rw [if_pos he]
    by_cases hbig : n > 65536
    · rw [if_pos hbig, if_pos hbig]; rfl
    · obtain ⟨m, rfl⟩ : ∃ m : Nat, n = m := ⟨n.toNat, by omega⟩
      rw [if_neg hbig, if_neg hbig]
      have h := get_go m (by omega) m 0 4900700000 R [] (by omega) (by simp) hby (fun f hf => by cases hf) (by omega)
      rw [Int.toNat_natCast]
      refine h.trans ?_
      unfold finG
      generalize getGo m R [] = z
      by_cases h1 : z.1.end_ = 0 <;> by_cases h2 : checkM z.2 = 0 <;> simp [h1, h2]
  · have h0 : n = 0 := by
      rw [← hn]
      exact uint_bad (by rw [hR]; exact he)
    subst h0
    rw [if_neg he, if_neg (by decide)]
    have h1 : R.end_ = R.e := by unfold RM.end_; rw [if_pos he]
    have h2 : getGo (Int.toNat 0) R [] = (R, []) := rfl
    rw [h2]
    simp [h1, he]
theorem rget_calls {b : List Int} (hb : Byt b) (w : World) : Calls Tryd.prog 24 #[.string (S b)] w fun e w' => ∃ v, e = .returned (.tuple #[v, .int .i64 (getM b).2]) ∧ Kd.R k80 80 w' w.heap.size (fun _ => True) v ((getM b).1.map toF) ∧ Below w.heap.size w w' := by
  obtain ⟨K, h⟩ := rget_f hb
  exact baileeref11_Get.calls K (S b) _ _ w h
end Go.Proofs.YtgjdcdhfijkoiaaDoor.Str
end
section
namespace Go.Proofs.YtgjdcdhfijkoiaaDoor.Str
open Go.RowKit Go.Proofs.YtgjdcdhfijkoiaaDoorW.PrintWords Go.Proofs.YtgjdcdhfijkoiaaDoorW.PrintLast Go.Proofs.YtgjdcdhfijkoiaaDoorW.PrintMore Go.Proofs.YtgjdcdhfijkoiaaDoor.Mem Go.Proofs.YtgjdcdhfijkoiaaDoor.PCod Go.Proofs.YtgjdcdhfijkoiaaDoor.Cod
set_option linter.unusedVariables false
set_option linter.unusedSimpArgs false
theorem with_calls (s : ByteArray) (hs : s.size < 140737488355328) (w : World) : Calls Tryd.prog 44 #[.string s] w fun e w' => e = .returned (.string (S (putNum s.size ++ bytesOf s))) ∧ Below w.heap.size w w' := by
  have h := ref_with (w := w) (bytesOf s) (by rw [bytesOf_length]; exact hs)
  rw [bytesOf_length] at h
  rw [show S (bytesOf s) = s from str_bytesOf s] at h
  exact h
theorem putI_0 (l : List FS) : putI l 0 = putNum l.length := by unfold putI; simp
theorem S_len (b : List Int) : (S b).size = b.length := S_size b
section
variable {w : World}
set_option maxRecDepth 100000 in
set_option maxHeartbeats 4000000 in
theorem rput_calls {A : Option Addr} {c : Nat} {m : List S80} (hr : Kd.C k80 w A m.length m) (hc : m.length ≤ c) (hm : m.length ≤ 100000) :
    Calls Tryd.prog 17 #[.slice A m.length c] w fun e w' => e = .returned (.tuple #[.string (if checkM (m.map ofF) = 0 then S (putM (m.map ofF)) else ⟨#[]⟩), .int .i64 (checkM (m.map ofF))]) ∧ Below w.heap.size w w' := by
  have hk := Aside0.mk (rcheck_calls hr hc hm)
  obtain ⟨n, hn⟩ : ∃ n, n = m.length := ⟨_, rfl⟩
  obtain ⟨l, hl⟩ : ∃ l, l = m.map ofF := ⟨_, rfl⟩
  obtain ⟨ck, hck⟩ : ∃ x, x = checkM l := ⟨_, rfl⟩
  have HX := Aside0.mk (And.intro hr (And.intro hn (And.intro hl hck)))
  rw [← hn] at hm ⊢
  rw [← hl] at hk ⊢
  rw [← hn, ← hck] at hk
  rw [← hck]
  clear hr hc hn hl
  by_cases h0 : ck = 0
  · subst h0
    rw [if_pos rfl]
    have hln : n = l.length := by rw [HX.out.2.2.1, List.length_map]; exact HX.out.2.1
    have hsm : ∀ f ∈ l, Small f := small_of hck.symm (fun f hf => by
      rw [HX.out.2.2.1] at hf
      obtain ⟨g, _, rfl⟩ := List.mem_map.1 hf
      exact bytesOf_byt _)
    have hpi := putI_len (l := l) (fun f hf => pathsGo_ok l none [] (check_0 hck.symm).1 f hf)
    have hsl := check_0 hck.symm
    have HS := Aside0.mk (And.intro hsm (And.intro hpi (And.intro hsl hln)))
    have HP := Aside0.mk (show Calls Tryd.prog 43 #[.int .u64 (n : Int)] w _ from ref_put (w := w) (n : Int) (by omega) (by omega))
    clear hsm hpi hsl hln hck
    go_enter Tryd.func17, Tryd.ntmps17
    have hw64 : IntKind.u64.wrap (n : Int) = (n : Int) := u64_small (by omega) (by omega)
    go_wp2_with (first
      | (go_at_call 21; go_loud (refine hk.out.mono ?_; rintro e w1 ⟨rfl, hb⟩; have H1 := Aside0.mk hb; clear hb))
      | (go_at_call 43; go_loud (refine (ref_put (w := w1) (n : Int) (by omega) (by omega)).mono ?_; rintro e w2 ⟨rfl, hb⟩; have H2 := Aside0.mk (below_step H1.out hb); clear hb)))
    go_loopg [5, 6] n (fun q v5 v6 wr => ∃ i : Nat, v6 = .int .i64 i ∧ q + i = n ∧ v5 = .string (S (putI l i)) ∧ Aside0 (Below w.heap.size w wr))
    case atStart => exact ⟨0, rfl, rfl, by rw [putI_0, HS.out.2.2.2], H2⟩
    case round =>
      clear H2 H1
      obtain ⟨i, rfl, hq, rfl, hB⟩ := hrel
      by_cases hlt : i < n
      · have d1 : decide ((i : Int) < (n : Int)) = true := decide_eq_true (by omega)
        have p25 : (0 ≤ (i : Int)) = True := eq_true (by omega)
        have q25 : ((i : Int) < (n : Int)) = True := eq_true (by omega)
        obtain ⟨ad, rfl, c0, c1⟩ := at_T80 HX.out.1 (i : Int) (by omega) (by have := HX.out.2.1; omega)
        obtain ⟨f, hf⟩ : ∃ f, f = l.getD i z50 := ⟨_, rfl⟩
        obtain ⟨g, hg⟩ : ∃ g, g = m.getD i z80 := ⟨_, rfl⟩
        have hfg : f = ofF g := by
          have him : i < m.length := by have := HX.out.2.1; omega
          rw [hf, hg, HX.out.2.2.1, List.getD_eq_getElem?_getD, List.getD_eq_getElem?_getD, List.getElem?_map, List.getElem?_eq_getElem him]
          rfl
        have hfs : Small f := HS.out.1 f (by
          have hil : i < l.length := by have := HS.out.2.2.2; omega
          rw [hf, List.getD_eq_getElem?_getD, List.getElem?_eq_getElem hil]
          exact List.getElem_mem _)
        rw [show rd_T80 m (i : Int) = g by rw [hg]; rfl, Int.toNat_natCast] at c0 c1
        obtain ⟨s, b⟩ := g
        dsimp only at c0 c1
        have hz1 : s.size ≤ 255 := by rw [hfg] at hfs; exact hfs.1
        have hz2 : b.size ≤ 1048576 := by rw [hfg] at hfs; have h := hfs.2.1; rw [show (ofF ⟨s, b⟩).f1 = bytesOf b from rfl, bytesOf_length] at h; exact h
        obtain ⟨Y, hY⟩ : ∃ Y, Y = S (putNum s.size ++ bytesOf s) := ⟨_, rfl⟩
        obtain ⟨Z, hZ⟩ : ∃ Z, Z = S (putNum b.size ++ bytesOf b) := ⟨_, rfl⟩
        obtain ⟨X, hX⟩ : ∃ X, X = S (putI l i) := ⟨_, rfl⟩
        have hyl : Y.size ≤ 300 := by rw [hY, S_len, List.length_append, bytesOf_length]; have := (putNum_len s.size).1; omega
        have hzl : Z.size ≤ 1048600 := by rw [hZ, S_len, List.length_append, bytesOf_length]; have := (putNum_len b.size).1; omega
        have hxl : X.size ≤ 60000000 := by
          rw [hX, S_len]
          have h1 := HS.out.2.1 i (by have := HS.out.2.2.2; omega)
          have h2 := sumF_take l i
          have h3 := HS.out.2.2.1
          have h4 := HS.out.2.2.2
          omega
        have hnx : X ++ (Y ++ Z) = S (putI l (i + 1)) := by
          rw [putI_succ (by have := HS.out.2.2.2; omega), ← hf, hfg, hX, hY, hZ, S_app, S_app]
          congr 2
          unfold filB ofF
          dsimp only
          rw [bytesOf_length, List.append_assoc]
        have f1 : (9223372036854775807 < Y.size + Z.size) = False := eq_false (by omega)
        have f2 : (9223372036854775807 < X.size + (Y.size + Z.size)) = False := eq_false (by omega)
        have HNX := Aside0.mk hnx
        have HWY : Aside0 (∀ W, Calls Tryd.prog 44 #[.string s] W fun e w' => e = .returned (.string Y) ∧ Below W.heap.size W w') := ⟨fun W => by rw [hY]; exact with_calls s (by omega) W⟩
        have HWZ : Aside0 (∀ W, Calls Tryd.prog 44 #[.string b] W fun e w' => e = .returned (.string Z) ∧ Below W.heap.size W w') := ⟨fun W => by rw [hZ]; exact with_calls b (by omega) W⟩
        rw [← hX]
        have HC := Aside0.mk (And.intro c0 c1)
        clear hX hY hZ hyl hzl hxl hnx hf hg hfs hz1 hz2 hfg c0 c1
        go_upto_region 8 with (fail)
        obtain ⟨wd, hwd⟩ : ∃ x, x = wr.drew := ⟨_, rfl⟩
        have HD := Aside0.mk (show Below w.heap.size w wd from by rw [hwd]; exact below_step hB.out (below_drew1 (Below.refl _ _)))
        have HL : Aside0 (∀ W, Below w.heap.size w W → W.cell? (ad.add (i * 2)) = some (.string s) ∧ W.cell? ⟨(ad.add (i * 2)).block, (ad.add (i * 2)).off + 1, none⟩ = some (.string b)) := ⟨fun W hb => ⟨(hb.cell (World.block_lt_of_cell? w _ HC.out.1)).trans HC.out.1, (hb.cell (World.block_lt_of_cell? w _ HC.out.2)).trans HC.out.2⟩⟩
        clear hB
        refine start_ (n := 16) (S := fun W => W.cell? (ad.add (i * 2)) = some (.string s) ∧ W.cell? ⟨(ad.add (i * 2)).block, (ad.add (i * 2)).off + 1, none⟩ = some (.string b)) (ds := []) #[false, false, false, false, false, false, false, false, false, false, false, false, false, false, false, false] (by kernel_rfl) rfl (by kernel_rfl) (by rw [← hwd]; exact HL.out wd HD.out) (fun hHeld => ?_)
        rw [← hwd] at hHeld ⊢
        clear hwd
        refine pure_ (i := 0) (N := some 22) (v := ?_) (a' := ?_) #[true, false, false, false, false, false, false, false, false, false, false, false, false, false, false, false] rfl rfl (by kernel_rfl) (fun _ _ _ h => h) (Or.inl ⟨by rfl, ?_⟩) ?_ ?_
        rotate_left
        · intro w'
          go_simp
          with_reducible rfl
        rotate_left
        · simp only [Act.put, List.setIfInBounds_toArray, List.set_cons_zero, List.set_cons_succ, i64_w, i32_w]
          rfl
        refine pure_ (i := 1) (N := some 23) (v := ?_) (a' := ?_) #[true, true, false, false, false, false, false, false, false, false, false, false, false, false, false, false] rfl rfl (by kernel_rfl) (fun _ _ _ h => h) (Or.inl ⟨by rfl, ?_⟩) ?_ ?_
        rotate_left
        · intro w'
          go_simp
          with_reducible rfl
        rotate_left
        · simp only [Act.put, List.setIfInBounds_toArray, List.set_cons_zero, List.set_cons_succ, i64_w, i32_w]
          rfl
        refine pure_ (i := 2) (N := some 24) (v := ?_) (a' := ?_) #[true, true, true, false, false, false, false, false, false, false, false, false, false, false, false, false] rfl rfl (by kernel_rfl) (fun _ _ _ h => h) (Or.inl ⟨by rfl, ?_⟩) ?_ ?_
        rotate_left
        · intro w'
          go_simp
          with_reducible rfl
        rotate_left
        · simp only [Act.put, List.setIfInBounds_toArray, List.set_cons_zero, List.set_cons_succ, i64_w, i32_w]
          rfl
        refine pure_ (i := 3) (N := some 25) (v := ?_) (a' := ?_) #[true, true, true, true, false, false, false, false, false, false, false, false, false, false, false, false] rfl rfl (by kernel_rfl) (fun _ _ _ h => h) (Or.inl ⟨by rfl, ?_⟩) ?_ ?_
        rotate_left
        · intro w'
          go_simp
          with_reducible rfl
        rotate_left
        · simp only [Act.put, List.setIfInBounds_toArray, List.set_cons_zero, List.set_cons_succ, i64_w, i32_w]
          rfl
        refine pure_ (i := 4) (N := some 26) (v := ?_) (a' := ?_) #[true, true, true, true, true, false, false, false, false, false, false, false, false, false, false, false] rfl rfl (by kernel_rfl) (fun _ _ _ h => h) (Or.inl ⟨by rfl, ?_⟩) ?_ ?_
        rotate_left
        · intro w'
          go_simp
          with_reducible rfl
        rotate_left
        · simp only [Act.put, List.setIfInBounds_toArray, List.set_cons_zero, List.set_cons_succ, i64_w, i32_w]
          rfl
        refine pure_ (i := 7) (N := some 29) (v := ?_) (a' := ?_) #[true, true, true, true, true, false, false, true, false, false, false, false, false, false, false, false] rfl rfl (by kernel_rfl) (fun _ _ _ h => h) (Or.inl ⟨by rfl, ?_⟩) ?_ ?_
        rotate_left
        · intro w'
          go_simp
          with_reducible rfl
        rotate_left
        · simp only [Act.put, List.setIfInBounds_toArray, List.set_cons_zero, List.set_cons_succ, i64_w, i32_w]
          rfl
        refine pure_ (i := 8) (N := some 30) (v := ?_) (a' := ?_) #[true, true, true, true, true, false, false, true, true, false, false, false, false, false, false, false] rfl rfl (by kernel_rfl) (fun _ _ _ h => h) (Or.inl ⟨by rfl, ?_⟩) ?_ ?_
        rotate_left
        · intro w'
          go_simp
          with_reducible rfl
        rotate_left
        · simp only [Act.put, List.setIfInBounds_toArray, List.set_cons_zero, List.set_cons_succ, i64_w, i32_w]
          rfl
        refine pure_ (i := 9) (N := some 31) (v := ?_) (a' := ?_) #[true, true, true, true, true, false, false, true, true, true, false, false, false, false, false, false] rfl rfl (by kernel_rfl) (fun _ _ _ h => h) (Or.inl ⟨by rfl, ?_⟩) ?_ ?_
        rotate_left
        · intro w'
          go_simp
          with_reducible rfl
        rotate_left
        · simp only [Act.put, List.setIfInBounds_toArray, List.set_cons_zero, List.set_cons_succ, i64_w, i32_w]
          rfl
        refine pure_ (i := 10) (N := some 32) (v := ?_) (a' := ?_) #[true, true, true, true, true, false, false, true, true, true, true, false, false, false, false, false] rfl rfl (by kernel_rfl) (fun _ _ _ h => h) (Or.inl ⟨by rfl, ?_⟩) ?_ ?_
        rotate_left
        · intro w'
          go_simp
          with_reducible rfl
        rotate_left
        · simp only [Act.put, List.setIfInBounds_toArray, List.set_cons_zero, List.set_cons_succ, i64_w, i32_w]
          rfl
        refine take_ (i := 5) (N := some 27) (v := ?_) (a' := ?_) #[true, true, true, true, true, true, false, true, true, true, true, false, false, false, false, false] rfl rfl (by kernel_rfl) (fun _ _ _ h => h) (Or.inl ⟨by rfl, ?_⟩) hHeld ?_ ?_
        rotate_left
        · rintro w' ⟨s1, s2⟩
          go_simp
          with_reducible rfl
        rotate_left
        · simp only [Act.put, List.setIfInBounds_toArray, List.set_cons_zero, List.set_cons_succ, i64_w, i32_w]
          rfl
        refine take_ (i := 11) (N := some 33) (v := ?_) (a' := ?_) #[true, true, true, true, true, true, false, true, true, true, true, true, false, false, false, false] rfl rfl (by kernel_rfl) (fun _ _ _ h => h) (Or.inl ⟨by rfl, ?_⟩) hHeld ?_ ?_
        rotate_left
        · rintro w' ⟨s1, s2⟩
          go_simp
          with_reducible rfl
        rotate_left
        · simp only [Act.put, List.setIfInBounds_toArray, List.set_cons_zero, List.set_cons_succ, i64_w, i32_w]
          rfl
        refine one_ (i := 6) (N := some 28) #[true, true, true, true, true, true, true, true, true, true, true, true, false, false, false, false] rfl rfl (by kernel_rfl) (by decide) (fun K hK => ?_)
        refine goes_ Tryd.func44 (by kernel_rfl) rfl #[.string s] (by rfl) rfl rfl (by (try simp only [List.map_toArray, List.map_cons, List.map_nil]); first | rfl | (go_simp; done)) ?_
        refine (HWY.out wd).mono ?_
        rintro e w6 ⟨rfl, hb6⟩
        refine ⟨_, rfl, ?_⟩
        have H6 := Aside0.mk (below_step HD.out hb6)
        clear hb6
        refine hK.out _ _ (HL.out w6 H6.out) (fun hHeld => ?_)
        clear hK K
        refine norm_ (a' := ?_) ?_ ?_
        rotate_left
        · show Act.put _ (some 28) _ = _
          simp only [Act.put, List.setIfInBounds_toArray, List.set_cons_zero, List.set_cons_succ, i64_w, i32_w]
          rfl
        refine one_ (i := 12) (N := some 34) #[true, true, true, true, true, true, true, true, true, true, true, true, true, false, false, false] rfl rfl (by kernel_rfl) (by decide) (fun K hK => ?_)
        refine goes_ Tryd.func44 (by kernel_rfl) rfl #[.string b] (by rfl) rfl rfl (by (try simp only [List.map_toArray, List.map_cons, List.map_nil]); first | rfl | (go_simp; done)) ?_
        refine (HWZ.out w6).mono ?_
        rintro e w7 ⟨rfl, hb7⟩
        refine ⟨_, rfl, ?_⟩
        have H7 := Aside0.mk (below_step H6.out hb7)
        clear hb7
        refine hK.out _ _ (HL.out w7 H7.out) (fun hHeld => ?_)
        clear hK K
        refine norm_ (a' := ?_) ?_ ?_
        rotate_left
        · show Act.put _ (some 34) _ = _
          simp only [Act.put, List.setIfInBounds_toArray, List.set_cons_zero, List.set_cons_succ, i64_w, i32_w]
          rfl
        refine pure_ (i := 13) (N := some 35) (v := ?_) (a' := ?_) #[true, true, true, true, true, true, true, true, true, true, true, true, true, true, false, false] rfl rfl (by kernel_rfl) (fun _ _ _ h => h) (Or.inl ⟨by rfl, ?_⟩) ?_ ?_
        rotate_left
        · intro w'
          go_simp
          with_reducible rfl
        rotate_left
        · simp only [Act.put, List.setIfInBounds_toArray, List.set_cons_zero, List.set_cons_succ, i64_w, i32_w]
          rfl
        refine pure_ (i := 14) (N := some 36) (v := ?_) (a' := ?_) #[true, true, true, true, true, true, true, true, true, true, true, true, true, true, true, false] rfl rfl (by kernel_rfl) (fun _ _ _ h => h) (Or.inl ⟨by rfl, ?_⟩) ?_ ?_
        rotate_left
        · intro w'
          go_simp
          with_reducible rfl
        rotate_left
        · simp only [Act.put, List.setIfInBounds_toArray, List.set_cons_zero, List.set_cons_succ, i64_w, i32_w]
          rfl
        refine pure_ (i := 15) (N := some 5) (v := ?_) (a' := ?_) #[true, true, true, true, true, true, true, true, true, true, true, true, true, true, true, true] rfl rfl (by kernel_rfl) (fun _ _ _ h => h) (Or.inl ⟨by rfl, ?_⟩) ?_ ?_
        rotate_left
        · intro w'
          go_simp
          with_reducible rfl
        rotate_left
        · simp only [Act.put, List.setIfInBounds_toArray, List.set_cons_zero, List.set_cons_succ, i64_w, i32_w]
          rfl
        refine done_ (by kernel_rfl) ?_
        go_wp2
        go_roundg (n - (i + 1))
        case measure => omega
        case rel => exact ⟨i + 1, by go_num, by omega, congrArg Value.string HNX.out, H7⟩
      · have d1 : decide ((i : Int) < (n : Int)) = false := decide_eq_false (by omega)
        have hi : i = l.length := by have := HS.out.2.2.2; omega
        subst hi
        rw [putI_all]
        clear hk HP HX HS
        go_wp2
        go_ret2
        exact ⟨rfl, hB.out⟩
  · have hne : (ck != 0) = true := bne_iff_ne.2 h0
    rw [if_neg h0]
    clear h0 hck
    go_enter Tryd.func17, Tryd.ntmps17
    go_wp2_with (first
      | (go_at_call 21; go_loud (refine hk.out.mono ?_; rintro e w1 ⟨rfl, hb⟩; have H1 := Aside0.mk hb; clear hb)))
    go_ret2
    exact ⟨rfl, H1.out⟩
end
end Go.Proofs.YtgjdcdhfijkoiaaDoor.Str
end
section
namespace Go.Proofs.YtgjdcdhfijkoiaaDoor.Str
open Go.RowKit Go.Proofs.YtgjdcdhfijkoiaaDoorW.PrintWords Go.Proofs.YtgjdcdhfijkoiaaDoorW.PrintLast Go.Proofs.YtgjdcdhfijkoiaaDoorW.PrintMore Go.Proofs.YtgjdcdhfijkoiaaDoor.Mem Go.Proofs.YtgjdcdhfijkoiaaDoor.PCod Go.Proofs.YtgjdcdhfijkoiaaDoor.Cod
set_option linter.unusedVariables false
set_option linter.unusedSimpArgs false
theorem rd_inv : ∀ (b : List Int) (i : Nat) (x : Int), Byt b → i ≤ 9 → (rdNum i x (128 ^ i) b).2.1 = 0 →
    ∃ y : Int, 0 ≤ y ∧ (rdNum i x (128 ^ i) b).2.2 = x + 128 ^ i * y ∧ b = putN (9 - i) y ++ (rdNum i x (128 ^ i) b).1 ∧ (0 < i → 0 < y) := by
  intro b
  induction b with
  | nil => intro i x _ _ h; exact absurd h (by unfold rdNum; decide)
  | cons c r ih =>
    intro i x hb hi h1
    have hc := hb c List.mem_cons_self
    unfold rdNum at h1 ⊢
    by_cases hbad : (i = 9 ∧ 1 < c) ∨ (0 < i ∧ c = 0)
    · rw [if_pos hbad] at h1; exact absurd h1 (by show ¬ (11 : Int) = 0; omega)
    · rw [if_neg hbad] at h1 ⊢
      by_cases hlt : c < 128
      · rw [if_pos hlt] at h1 ⊢
        refine ⟨c, hc.1, ?_, by rw [putN_small _ hlt]; rfl, fun h => by omega⟩
        show x + 128 ^ i * (c % 128) = x + 128 ^ i * c
        rw [show c % 128 = c by omega]
      · rw [if_neg hlt] at h1 ⊢
        rw [← pow_128] at h1 ⊢
        have hi9 : i + 1 ≤ 9 := by omega
        obtain ⟨y, hy0, hy1, hy2, hy3⟩ := ih (i + 1) _ (fun x hx => hb x (List.mem_cons_of_mem _ hx)) hi9 h1
        have hyp := hy3 (by omega)
        refine ⟨c % 128 + 128 * y, by omega, ?_, ?_, fun _ => by omega⟩
        · rw [hy1, pow_128, Int.mul_add, ← Int.mul_assoc, Int.add_assoc]
        · have e : 9 - i = (9 - (i + 1)) + 1 := by omega
          rw [e, putN_great _ (by omega), ← show y = (c % 128 + 128 * y) / 128 by omega, List.cons_append, ← hy2]
          congr 1
          omega
theorem uint_inv {R : RM} (hb : Byt R.b) (he : R.e = 0) (h : R.uint.1.e = 0) : R.b = putNum R.uint.2 ++ R.uint.1.b := by
  obtain ⟨b, e⟩ := R
  dsimp only at hb he
  subst he
  rw [RM.uint_0] at h ⊢
  obtain ⟨y, hy0, hy1, hy2, _⟩ := rd_inv b 0 0 hb (by omega) h
  have e1 : (rdNum 0 0 1 b).2.2 = y := by rw [show (1 : Int) = 128 ^ 0 from rfl, hy1]; simp
  show b = putNum (rdNum 0 0 1 b).2.2 ++ (rdNum 0 0 1 b).1
  rw [e1]
  exact hy2
theorem fixed_inv {R : RM} {n : Int} (he : R.e = 0) (h : (R.fixed n).1.e = 0) : R.b = (R.fixed n).2 ++ (R.fixed n).1.b ∧ ((R.fixed n).2.length : Int) = n := by
  by_cases h0 : n < 0
  · rw [RM.fixed_neg he h0] at h; exact absurd (show (1 : Int) = 0 from h) (by decide)
  · by_cases h1 : (R.b.length : Int) < n
    · rw [RM.fixed_short he h0 h1] at h; exact absurd (show (10 : Int) = 0 from h) (by decide)
    · rw [RM.fixed_ok he h0 h1]
      exact ⟨(List.take_append_drop _ _).symm, by rw [List.length_take]; omega⟩
theorem bytes_inv {R : RM} {m : Int} (hb : Byt R.b) (he : R.e = 0) (h : (R.bytes m).1.e = 0) : R.b = putNum (R.bytes m).2.length ++ (R.bytes m).2 ++ (R.bytes m).1.b ∧ ((R.bytes m).2.length : Int) ≤ m := by
  by_cases h1 : R.uint.1.e = 0
  · by_cases h2 : m < 0 ∨ m < R.uint.2
    · rw [RM.bytes_big h1 h2] at h; exact absurd (show (13 : Int) = 0 from h) (by decide)
    · rw [RM.bytes_ok h1 h2] at h ⊢
      obtain ⟨f1, f2⟩ := fixed_inv h1 h
      have hu := uint_inv hb he h1
      refine ⟨?_, by omega⟩
      rw [f2, List.append_assoc, ← f1]
      exact hu
  · rw [RM.bytes_e h1] at h; exact absurd h h1
theorem e_uint {R : RM} (h : R.uint.1.e = 0) : R.e = 0 := by
  by_cases he : R.e = 0
  · exact he
  · unfold RM.uint at h; rw [if_pos he] at h; exact h
theorem e_bytes {R : RM} {m : Int} (h : (R.bytes m).1.e = 0) : R.e = 0 := by
  by_cases h1 : R.uint.1.e = 0
  · exact e_uint h1
  · rw [RM.bytes_e h1] at h; exact absurd h h1
/-! ### put, then got -/
theorem bytes_put {xs : List Int} {m : Int} (h : (xs.length : Int) ≤ m) (hl : xs.length < 140737488355328) (r : List Int) : (⟨putNum xs.length ++ xs ++ r, 0⟩ : RM).bytes m = (⟨r, 0⟩, xs) := by
  have hu := uint_put (y := (xs.length : Int)) (by omega) (by omega) (xs ++ r)
  rw [← List.append_assoc] at hu
  rw [RM.bytes_ok (by rw [hu]) (by rw [hu]; dsimp only; omega), hu]
  dsimp only
  rw [RM.fixed_ok rfl (by omega) (by dsimp only; rw [List.length_append]; omega)]
  simp
theorem step_put {f : FS} (hf : Small f) (r : List Int) : stepF ⟨filB f ++ r, 0⟩ = ⟨r, 0⟩ ∧ oneF ⟨filB f ++ r, 0⟩ = f := by
  obtain ⟨s, b⟩ := f
  obtain ⟨h1, h2, h3⟩ := hf
  dsimp only at h1 h2 h3
  have e : filB ⟨s, b⟩ ++ r = putNum ((bytesOf s).length : Nat) ++ bytesOf s ++ (putNum b.length ++ b ++ r) := by
    unfold filB
    dsimp only
    rw [bytesOf_length]
    simp only [List.append_assoc]
  have hx := bytes_put (xs := bytesOf s) (m := 255) (by rw [bytesOf_length]; omega) (by rw [bytesOf_length]; omega) (putNum b.length ++ b ++ r)
  have hy := bytes_put (xs := b) (m := 1048576) (by omega) (by omega) r
  unfold stepF oneF
  rw [e, hx]
  dsimp only
  rw [hy]
  exact ⟨rfl, by rw [str_bytesOf]⟩
theorem getGo_put : ∀ (l o : List FS), (∀ f ∈ l, Small f) → getGo l.length ⟨(l.map filB).flatten, 0⟩ o = (⟨[], 0⟩, o ++ l)
  | [], o, _ => by rw [List.append_nil]; rfl
  | f :: l, o, h => by
    rw [List.map_cons, List.flatten_cons, List.length_cons, getGo, if_neg (by simp)]
    obtain ⟨h1, h2⟩ := step_put (h f List.mem_cons_self) (l.map filB).flatten
    rw [h1, h2, getGo_put l _ (fun x hx => h x (List.mem_cons_of_mem _ hx)), List.append_assoc]
    rfl
theorem get_put {l : List FS} (hl : checkM l = 0) (hy : ∀ f ∈ l, Byt f.f1) : getM (putM l) = (l, 0) := by
  have hs := small_of hl hy
  have hn := (check_0 hl).2.2.2
  have hu := uint_put (y := (l.length : Int)) (by omega) (by omega) (l.map filB).flatten
  have hg := getGo_put l [] hs
  unfold getM putM
  rw [hu]
  dsimp only
  rw [if_neg (by omega), Int.toNat_natCast, hg, List.nil_append]
  have h0 : RM.end_ ⟨[], 0⟩ = 0 := rfl
  rw [h0, if_neg (by simp), if_neg (by simpa using hl)]
/-! ### got, then put -/
theorem getGo_inv : ∀ (n : Nat) (R : RM) (o : List FS), Byt R.b → (getGo n R o).1.e = 0 → R.e = 0 ∧ ∃ l, (getGo n R o).2 = o ++ l ∧ l.length = n ∧ R.b = (l.map filB).flatten ++ (getGo n R o).1.b
  | 0, R, o, hb, h => ⟨h, [], by rw [List.append_nil]; rfl, rfl, rfl⟩
  | n + 1, R, o, hb, h => by
    rw [getGo] at h ⊢
    by_cases he : R.e = 0
    · rw [if_neg (by simpa using he)] at h ⊢
      have hb1 := RM.bytes_byt hb 255
      have hb2 := RM.bytes_byt hb1.1 1048576
      obtain ⟨h1, l, h2, h3, h4⟩ := getGo_inv n (stepF R) _ hb2.1 h
      have h5 := e_bytes (show (((R.bytes 255).1.bytes 1048576).1).e = 0 from h1)
      obtain ⟨i1, _⟩ := bytes_inv hb he h5
      obtain ⟨i2, _⟩ := bytes_inv hb1.1 h5 h1
      refine ⟨he, oneF R :: l, ?_, by rw [List.length_cons, h3], ?_⟩
      · rw [h2, List.append_assoc]; rfl
      · rw [List.map_cons, List.flatten_cons, List.append_assoc, ← h4]
        conv => lhs; rw [i1, i2]
        unfold filB oneF
        dsimp only
        rw [bytesOf_str hb1.2, show (strOfNums (R.bytes 255).2).size = (R.bytes 255).2.length from S_size _]
        simp only [List.append_assoc]
        rfl
    · rw [if_pos he] at h; exact absurd h he
theorem getGo_all : ∀ (n : Nat) (R : RM) (o : List FS), Byt R.b → (∀ f ∈ o, Byt f.f1) → (∀ f ∈ (getGo n R o).2, Byt f.f1) ∧ (getGo n R o).2.length ≤ o.length + n ∧ Byt (getGo n R o).1.b
  | 0, R, o, hb, h => ⟨h, Nat.le_refl _, hb⟩
  | n + 1, R, o, hb, h => by
    rw [getGo]
    by_cases he : R.e = 0
    · rw [if_neg (by simpa using he)]
      have hb1 := RM.bytes_byt hb 255
      have hb2 := RM.bytes_byt hb1.1 1048576
      obtain ⟨h1, h2, h3⟩ := getGo_all n (stepF R) (o ++ [oneF R]) hb2.1 (fun f hf => by
        rcases List.mem_append.1 hf with hf | hf
        · exact h f hf
        · rw [List.mem_singleton.1 hf]; exact hb2.2)
      rw [List.length_append] at h2
      exact ⟨h1, by simp at h2; omega, h3⟩
    · rw [if_pos he]; exact ⟨h, by dsimp only; omega, hb⟩
theorem getM_all {b : List Int} (hb : Byt b) : (∀ f ∈ (getM b).1, Byt f.f1) ∧ (getM b).1.length ≤ 65536 := by
  have h0 : (∀ f ∈ ([] : List FS), Byt f.f1) ∧ ([] : List FS).length ≤ 65536 := ⟨fun f hf => (by cases hf), (by simp)⟩
  have hy := RM.uint_byt (R := ⟨b, 0⟩) hb
  have hd := RM.uint_bd (R := ⟨b, 0⟩) hb
  unfold getM
  split
  · exact h0
  · rename_i hn
    have h1 := getGo_all (⟨b, 0⟩ : RM).uint.2.toNat (⟨b, 0⟩ : RM).uint.1 [] hy (fun f hf => by cases hf)
    split
    · exact h0
    · split
      · exact h0
      · exact ⟨h1.1, by have h2 := h1.2.1; rw [List.length_nil] at h2; dsimp only; omega⟩
theorem end_0 {R : RM} (h : R.end_ = 0) : R.e = 0 ∧ R.b = [] := by
  unfold RM.end_ at h
  split at h
  · rename_i h1; exact absurd h h1
  · rename_i h1
    split at h
    · rename_i h2; exact ⟨by simpa using h1, h2⟩
    · exact absurd h (by decide)
theorem put_get {b : List Int} (hb : Byt b) (h : (getM b).2 = 0) : checkM (getM b).1 = 0 ∧ putM (getM b).1 = b := by
  have hd := RM.uint_bd (R := ⟨b, 0⟩) hb
  have hy := RM.uint_byt (R := ⟨b, 0⟩) hb
  unfold getM at h ⊢
  split at h
  · exact absurd h (by decide)
  · rename_i h1
    split at h
    · rename_i h2; exact absurd h h2
    · rename_i h2
      split at h
      · exact absurd h (by decide)
      · rename_i h3
        rw [if_neg h1, if_neg h2, if_neg h3]
        dsimp only
        have h4 : (getGo (⟨b, 0⟩ : RM).uint.2.toNat (⟨b, 0⟩ : RM).uint.1 []).1.end_ = 0 := by simpa using h2
        obtain ⟨e1, e2⟩ := end_0 h4
        obtain ⟨e3, l, e4, e5, e6⟩ := getGo_inv _ _ _ hy e1
        rw [List.nil_append] at e4
        rw [e2, List.append_nil] at e6
        refine ⟨by simpa using h3, ?_⟩
        have hi := uint_inv (R := ⟨b, 0⟩) hb rfl e3
        rw [e4]
        unfold putM
        rw [e5, ← e6, Int.toNat_of_nonneg hd.1]
        exact hi.symm
end Go.Proofs.YtgjdcdhfijkoiaaDoor.Str
end
section
namespace Go.Proofs.YtgjdcdhfijkoiaaDoor.Str
open Go.RowKit Go.Proofs.YtgjdcdhfijkoiaaDoorW.PrintWords Go.Proofs.YtgjdcdhfijkoiaaDoorW.PrintLast Go.Proofs.YtgjdcdhfijkoiaaDoorW.PrintMore Go.Proofs.YtgjdcdhfijkoiaaDoor.Mem Go.Proofs.YtgjdcdhfijkoiaaDoor.PCod Go.Proofs.YtgjdcdhfijkoiaaDoor.Cod Go.Proofs.YtgjdcdhfijkoiaaDoor.Conv
set_option linter.unusedVariables false
set_option linter.unusedSimpArgs false
theorem sameR_refl (a : List S80) : sameR a a = true := decide_eq_true rfl
/-- The tree, as the calls hand it on. -/
structure Gt (w : World) (A : Option Addr) (n c : Nat) (b : List Int) (l : List FS) (er : Int) : Prop where
  get : ∀ W, Below w.heap.size w W → Calls Tryd.prog 22 #[.slice A n c] W fun e w' => ∃ v, e = .returned (.tuple #[v, .int .i64 er]) ∧ Kd.R k50 50 w' W.heap.size (fun _ => True) v l ∧ Below W.heap.size W w'
  ref : ∀ W, Calls Tryd.prog 24 #[.string (S b)] W fun e w' => ∃ v, e = .returned (.tuple #[v, .int .i64 er]) ∧ Kd.R k80 80 w' W.heap.size (fun _ => True) v (l.map toF) ∧ Below W.heap.size W w'
  fo : ∀ W B d, Kd.C k50 W B l.length l → l.length ≤ d → Calls Tryd.prog 15 #[.slice B l.length d] W fun e w' => ∃ v, e = .returned v ∧ Kd.R k80 80 w' W.heap.size (fun _ => True) v (l.map toF) ∧ Below W.heap.size W w'
  put : er = 0 → ∀ W B d, Kd.C k50 W B l.length l → Calls Tryd.prog 16 #[.slice B l.length d] W fun e w' => ∃ v, e = .returned (.tuple #[v, .int .i64 0]) ∧ Kd.R (Kd.int .u8) 5 w' W.heap.size (fun _ => True) v b ∧ Below W.heap.size W w'
  len : l.length ≤ 65536
section
variable {w : World} {A : Option Addr} {c : Nat} {b : List Int}
theorem gt_of (hr : Kd.C (Kd.int .u8) w A b.length b) (hc : b.length ≤ c) (hl : b.length < 140737488355328) (hy : Byt b) : Gt w A b.length c b (getM b).1 (getM b).2 := by
  obtain ⟨ha, hn⟩ := getM_all hy
  refine ⟨fun W hb => get_calls (Kd.C_below hr hb) hc hl hy, fun W => rget_calls hy W, fun W B d hC hd => filesOf_calls hC hd (by omega), fun h0 W B d hC => ?_, hn⟩
  obtain ⟨h1, h2⟩ := put_get hy h0
  have h := put_calls (c := d) hC (by omega) ha
  rw [h1, if_pos rfl, h2] at h
  exact h
set_option maxRecDepth 100000 in
set_option maxHeartbeats 4000000 in
theorem gets_law (hr : Kd.C (Kd.int .u8) w A b.length b) (hc : b.length ≤ c) (hl : b.length < 140737488355328) (hy : Byt b) :
    Calls Tryd.prog 4 #[.slice A b.length c] w fun e w' => e = .returned (.bool true) ∧ Below w.heap.size w w' := by
  have G := Aside0.mk (gt_of hr hc hl hy)
  obtain ⟨l, hl2⟩ : ∃ l, l = (getM b).1 := ⟨_, rfl⟩
  obtain ⟨er, her⟩ : ∃ er, er = (getM b).2 := ⟨_, rfl⟩
  rw [← hl2, ← her] at G
  obtain ⟨n, hn⟩ : ∃ n, n = b.length := ⟨_, rfl⟩
  have HX := Aside0.mk (And.intro hn hr)
  rw [← hn] at hc hl G ⊢
  clear hr hy hl2 her hn
  by_cases hbig : 1000 < n
  · have d1 : decide ((n : Int) > 1000) = true := decide_eq_true (by omega)
    clear hc hl hbig
    go_enter Tryd.func4, Tryd.ntmps4
    go_wp2_with (go_at_call 13; go_loud (refine (awake_calls w).mono ?_; rintro e w1 ⟨rfl, hb1⟩; have H1 := Aside0.mk hb1; clear hb1))
    go_ret
    exact ⟨rfl, H1.out⟩
  · have d1 : decide ((n : Int) > 1000) = false := decide_eq_false (by omega)
    have dee : (er != er) = false := by simp
    clear hc hl hbig
    have hcase : (er != 0) = true ∨ er = 0 := by
      by_cases h : er = 0
      · exact .inr h
      · exact .inl (bne_iff_ne.2 h)
    obtain ⟨ln, hln⟩ : ∃ ln, ln = l.length := ⟨_, rfl⟩
    have hlm : (l.map toF).length = ln := by rw [List.length_map, hln]
    obtain ⟨m, hm⟩ : ∃ m, m = l.map toF := ⟨_, rfl⟩
    have HN := Aside0.mk (And.intro hln (And.intro hlm hm))
    clear hln hlm hm
    rcases hcase with d5 | h0
    case' inr => subst h0; clear dee
    all_goals
      go_enter Tryd.func4, Tryd.ntmps4
      go_wp2_with (first
        | (go_at_call 13; go_loud (refine (awake_calls w).mono ?_; rintro e w1 ⟨rfl, hb1⟩; have H1 := Aside0.mk hb1; clear hb1))
        | (go_at_call 22; go_loud (refine (G.out.get w1 H1.out).mono ?_; rintro e w2 ⟨v2, rfl, hv2, hb2⟩; obtain ⟨A2, c2, rfl, hc2, hC2⟩ := reads_n ln HN.out.1.symm hv2; have H2 := Aside0.mk (And.intro hC2 (And.intro hc2 (below_step H1.out hb2))); have hcv := conv_row (c := c) HX.out.1 HX.out.2 (below_step H1.out hb2); clear hb2 hv2 hc2 hC2))
        | (go_at_call 24; go_loud (clear hcv; have hx := G.out.ref w2; rw [← HN.out.2.2] at hx; refine hx.mono ?_; clear hx; rintro e w3 ⟨v3, rfl, hv3, hb3⟩; obtain ⟨A3, c3, rfl, hc3, hC3⟩ := reads_n ln (by rw [HN.out.2.2]; exact HN.out.2.1) hv3; have H3 := Aside0.mk (And.intro (Kd.C_below H2.out.1 hb3) (And.intro hC3 (And.intro hc3 (below_step H2.out.2.2 hb3)))); clear hb3 hv3 hc3 hC3))
        | (go_at_call 15; go_loud (have hx := G.out.fo w3 A2 c2 (by rw [← HN.out.1]; exact H3.out.1) (by rw [← HN.out.1]; exact H2.out.2.1); rw [← HN.out.1, ← HN.out.2.2] at hx; refine hx.mono ?_; clear hx; rintro e w4 ⟨v4, rfl, hv4, hb4⟩; obtain ⟨A4, c4, rfl, hc4, hC4⟩ := reads_n ln (by rw [HN.out.2.2]; exact HN.out.2.1) hv4; have H4 := Aside0.mk (And.intro (Kd.C_below H3.out.1 hb4) (And.intro (Kd.C_below H3.out.2.1 hb4) (And.intro hC4 (And.intro hc4 (below_step H3.out.2.2.2 hb4))))); clear hb4 hv4 hc4 hC4))
        | (go_at_call 25; go_loud (have hml : m.length = ln := (by rw [HN.out.2.2]; exact HN.out.2.1); have hx := rsame_calls (w := w4) (a := m) (b := m) (A := A4) (B := A3) (c := c4) (d := c3) (by rw [hml]; exact H4.out.2.2.1) (by rw [hml]; exact H4.out.2.2.2.1) (by rw [hml]; exact H4.out.2.1) (by rw [hml]; exact H3.out.2.2.1) (by have h1 := G.out.len; have h2 := HN.out.1; omega); rw [sameR_refl, hml] at hx; refine hx.mono ?_; clear hx hml; rintro e w5 ⟨rfl, hd5⟩; have hb5 := hd5.below; have H5 := Aside0.mk (And.intro (Kd.C_below H4.out.1 hb5) (below_step H4.out.2.2.2.2 hb5)); clear hd5 hb5))
        | (go_at_call 16; go_loud (have hx := G.out.put rfl w5 A2 c2 (by rw [← HN.out.1]; exact H5.out.1); rw [← HN.out.1] at hx; refine hx.mono ?_; clear hx; rintro e w6 ⟨v6, rfl, hv6, hb6⟩; obtain ⟨A6, c6, rfl, _, hC6⟩ := Kd.R_reads hv6; have hcv1 := conv_row (c := c6) rfl hC6 (Below.refl _ _); have H6 := Aside0.mk (below_step H5.out.2 hb6); have hcv2 := conv_row (c := c) HX.out.1 HX.out.2 H6.out; clear hv6 hb6 hC6)))
    all_goals first
      | (go_ret; exact ⟨rfl, H6.out⟩)
      | (go_ret; exact ⟨rfl, H5.out.2⟩)
theorem gets_row {a : Option Addr} {len cap : Nat} {zs : List Int} (h : InRow w a len cap zs) (hl : len * 1 ≤ 140737488351232) : Calls Tryd.prog 4 #[.slice a len cap] w fun e w' => e = .returned (.bool true) ∧ Below w.heap.size w w' := by
  obtain ⟨xs, rfl, h2, h3, h4, h5⟩ := row_bytes h hl
  exact gets_law h2 h3 h4 h5
end
end Go.Proofs.YtgjdcdhfijkoiaaDoor.Str
end
