/- The reference's names, its Path, and what it calls a front: as the code's. -/
import Derived.Test.YtgjdcdhfijkoiaaDoorFiD
import Derived.Test.YtgjdcdhfijkoiaaDoorCoB
section
namespace Go.Proofs.YtgjdcdhfijkoiaaDoor.Str
open Go.RowKit Go.Proofs.YtgjdcdhfijkoiaaDoorW.PrintWords Go.Proofs.YtgjdcdhfijkoiaaDoorW.PrintLast Go.Proofs.YtgjdcdhfijkoiaaDoorW.PrintMore Go.Proofs.YtgjdcdhfijkoiaaDoor.Mem Go.Proofs.YtgjdcdhfijkoiaaDoor.PCod Go.Proofs.YtgjdcdhfijkoiaaDoor.Cod
set_option linter.unusedVariables false
set_option linter.unusedSimpArgs false
theorem names_go (s : ByteArray) (hs : s.size ≤ 1000000) : ∀ (m i from_ : Nat) (out : List ByteArray), m + i = s.size + 1 → from_ ≤ i → out.length ≤ i → (∀ j, from_ ≤ j → j < i → (tl s)[j]? ≠ some 47) →
    ∃ R, baileeref11_Names.l0 (m + 1) s out from_ i = some (out ++ R) ∧ (i ≤ s.size → R.map tl = spl ((tl s).drop from_)) ∧ (s.size < i → R = [])
  | 0, i, fr, out, hm, hf, ho, hn => by
    refine ⟨[], ?_, fun h => by omega, fun _ => rfl⟩
    unfold baileeref11_Names.l0
    rw [if_neg (by omega), List.append_nil]
  | m + 1, i, fr, out, hm, hf, ho, hn => by
    have hi : i ≤ s.size := by omega
    have hz := tl_size s
    have hw : wrap64 ((i : Int) + 1) = ((i + 1 : Nat) : Int) := w64n i (by omega)
    have e1 : ((fr : Int).toNat) = fr := Int.toNat_natCast fr
    have e2 : ((i : Int).toNat) = i := Int.toNat_natCast i
    unfold baileeref11_Names.l0
    rw [if_pos (by omega)]
    have hseg : ∀ x ∈ ((tl s).take i).drop fr, x ≠ 47 := by
      intro x hx e
      obtain ⟨k, hk, e3⟩ := List.getElem_of_mem hx
      rw [List.length_drop, List.length_take] at hk
      rw [List.getElem_drop, List.getElem_take] at e3
      exact hn (fr + k) (by omega) (by omega) (by rw [List.getElem?_eq_getElem (by omega), e3, e])
    have hone : spl (((tl s).take i).drop fr) = [((tl s).take i).drop fr] := spl_one _ (fun h => hseg 47 h rfl)
    by_cases hend : (i : Int) = s.size
    · rw [if_pos hend, if_pos (by omega), if_pos (by omega), if_pos (by omega), hw, e1, e2]
      obtain ⟨R, h1, _, h3⟩ := names_go s hs m (i + 1) (i + 1) (out ++ [s.extract fr i]) (by omega) (by omega) (by rw [List.length_append]; simp; omega) (fun j h1 h2 => by omega)
      rw [h3 (by omega), List.append_nil] at h1
      refine ⟨[s.extract fr i], h1, fun _ => ?_, fun h => by omega⟩
      rw [List.map_cons, tl_extract]
      have e4 : (tl s).take i = tl s := List.take_of_length_le (by omega)
      rw [e4] at hone ⊢
      exact hone.symm
    · rw [if_neg hend, if_pos (by omega), if_pos (by omega)]
      by_cases hc : bt s i = 47
      · rw [if_pos hc, if_pos (by omega), if_pos (by omega), if_pos (by omega), hw, e1, e2]
        obtain ⟨R, h1, h2, _⟩ := names_go s hs m (i + 1) (i + 1) (out ++ [s.extract fr i]) (by omega) (by omega) (by rw [List.length_append]; simp; omega) (fun j h1 h2 => by omega)
        refine ⟨s.extract fr i :: R, by rw [h1, List.append_assoc]; rfl, fun _ => ?_, fun h => by omega⟩
        rw [List.map_cons, h2 (by omega), tl_extract]
        have hc2 := (bt_tl s i).1 hc
        obtain ⟨h5, h6⟩ := List.getElem?_eq_some_iff.1 hc2
        have e5 : (tl s).drop fr = ((tl s).take i).drop fr ++ 47 :: (tl s).drop (i + 1) := by
          conv => lhs; rw [← List.take_append_drop i (tl s), List.drop_eq_getElem_cons h5, h6, List.drop_append_of_le_length (by rw [List.length_take]; omega)]
        rw [e5, spl_app, hone]
        rfl
      · rw [if_neg hc, hw]
        obtain ⟨R, h1, h2, h3⟩ := names_go s hs m (i + 1) fr out (by omega) (by omega) (by omega) (fun j h1 h2 => by
          by_cases h : j = i
          · rw [h]; exact fun h => hc ((bt_tl s i).2 h)
          · exact hn j h1 (by omega))
        exact ⟨R, h1, fun _ => h2 (by omega), fun h => by omega⟩
theorem map_tl_inj : ∀ {a b : List ByteArray}, a.map tl = b.map tl → a = b
  | [], [], _ => rfl
  | [], _ :: _, h => by cases h
  | _ :: _, [], h => by cases h
  | x :: a, y :: b, h => by
    rw [List.map_cons, List.map_cons] at h
    injection h with h1 h2
    rw [tl_inj h1, map_tl_inj h2]
theorem names_f (s : ByteArray) (hs : s.size ≤ 1000000) : baileeref11_Names.f (s.size + 2) s = some (namesB s) := by
  obtain ⟨R, h1, h2, _⟩ := names_go s hs (s.size + 1) 0 0 [] (by omega) (by omega) (by simp) (fun j h1 h2 => by omega)
  have h3 : R = namesB s := map_tl_inj (by rw [h2 (by omega), List.drop_zero, namesB_spl])
  rw [h3] at h1
  exact h1
theorem rnames_calls (s : ByteArray) (hs : s.size ≤ 1000000) (w : World) : Calls Tryd.prog 46 #[.string s] w fun e w' => ∃ v, e = .returned v ∧ Kd.R Kd.string 9 w' w.heap.size (fun _ => True) v (namesB s) ∧ Below w.heap.size w w' :=
  baileeref11_Names.calls (s.size + 2) s _ w (names_f s hs)
/-! ### Path -/
/-! ### front -/
instance froDec (a b : List UInt8) : Decidable (Fro a b) := decidable_of_iff _ (fro_iff a b).symm
def froB (a b : ByteArray) : Bool := decide (Fro (tl a) (tl b))
theorem rfront_f (a b : ByteArray) : baileeref11_front.f a b = some (froB a b) := by
  have za := tl_size a
  have zb := tl_size b
  have hq : froB a b = true ↔ (tl b)[a.size]? = some 47 ∧ (tl b).take a.size = tl a := by
    unfold froB
    rw [decide_eq_true_eq, fro_iff, za]
  unfold baileeref11_front.f
  by_cases h1 : (b.size : Int) > a.size
  · rw [if_pos h1, if_pos (by omega), if_pos (by omega), Int.toNat_natCast, toList_tl, toList_tl, tl_extract, List.drop_zero]
    by_cases h2 : (tl b).take a.size = tl a
    · rw [if_pos h2, if_pos (by omega)]
      congr 1
      rw [Bool.eq_iff_iff, beq_iff_eq, bt_tl, hq]
      exact ⟨fun h => ⟨h, h2⟩, fun h => h.1⟩
    · rw [if_neg h2]
      congr 1
      exact (Bool.eq_false_iff.2 (fun h => h2 (hq.1 h).2)).symm
  · rw [if_neg h1]
    congr 1
    refine (Bool.eq_false_iff.2 (fun h => ?_)).symm
    have h3 := (List.getElem?_eq_some_iff.1 (hq.1 h).1).1
    omega
theorem rfront_calls (a b : ByteArray) (w : World) : Calls Tryd.prog 48 #[.string a, .string b] w fun e w' => e = .returned (.bool (froB a b)) ∧ Drawn0 w w' :=
  baileeref11_front.calls a b _ w (rfront_f a b)
end Go.Proofs.YtgjdcdhfijkoiaaDoor.Str
end
section
namespace Go.Proofs.YtgjdcdhfijkoiaaDoor.Str
open Go.RowKit Go.Proofs.YtgjdcdhfijkoiaaDoorW.PrintWords Go.Proofs.YtgjdcdhfijkoiaaDoorW.PrintLast Go.Proofs.YtgjdcdhfijkoiaaDoorW.PrintMore Go.Proofs.YtgjdcdhfijkoiaaDoor.Mem Go.Proofs.YtgjdcdhfijkoiaaDoor.PCod Go.Proofs.YtgjdcdhfijkoiaaDoor.Cod
set_option linter.unusedVariables false
set_option linter.unusedSimpArgs false
def ofF (f : S80) : FS := ⟨f.f0, bytesOf f.f1⟩
theorem ofF_toF {f : FS} (h : Byt f.f1) : ofF (toF f) = f := by
  unfold toF ofF
  dsimp only
  rw [bytesOf_str h]
theorem ofFs {l : List FS} (h : ∀ f ∈ l, Byt f.f1) : (l.map toF).map ofF = l := by
  rw [List.map_map]
  conv => rhs; rw [← List.map_id l]
  exact List.map_congr_left (fun f hf => ofF_toF (h f hf))
def pth (m : List S80) (i : Nat) : ByteArray := (m.getD i z80).f0
def goodR (m : List S80) (i : Nat) : Bool := pathM (pth m i) && (decide (i = 0) || lessS (pth m (i - 1)) (pth m i)) && !(m.any (fun f => froB f.f0 (pth m i)))
def bigR (f : S80) : Bool := decide (1048576 < f.f1.size)
def sumR (m : List S80) : Nat := (m.map (fun f => f.f1.size)).sum
def sizeR (m : List S80) : Int := if m.any bigR = true then 13 else if 16777216 < sumR m ∨ 65536 < m.length then 13 else 0
def chkR (m : List S80) : Int := if (List.range m.length).all (goodR m) = true then sizeR m else 1
/-! ### as the code's -/
theorem pathsGo_iff : ∀ (l : List FS) (p : Option ByteArray) (seen : List (List UInt8)), pathsGo p seen l = true ↔ ∀ i, i < l.length → pathM (l.getD i z50).f0 = true ∧ (match (if i = 0 then p else some (l.getD (i - 1) z50).f0) with | none => true | some q => lessS q (l.getD i z50).f0) = true ∧ (∀ a ∈ seen, ¬ Fro a (tl (l.getD i z50).f0)) ∧ ∀ k, k < i → ¬ Fro (tl (l.getD k z50).f0) (tl (l.getD i z50).f0)
  | [], p, seen => by
    rw [pathsGo_nil]
    exact ⟨fun _ i hi => by simp at hi, fun _ => rfl⟩
  | f :: r, p, seen => by
    have hfi : ∀ (s : List (List UInt8)) (x : ByteArray), (!frontIn s x) = true ↔ ∀ a ∈ s, ¬ Fro a (tl x) := by
      intro s x
      rw [Bool.not_eq_true', Bool.eq_false_iff, ne_eq, frontIn_iff]
      exact ⟨fun h a ha hf => h ⟨a, ha, hf⟩, fun h ⟨a, ha, hf⟩ => h a ha hf⟩
    rw [pathsGo_cons, Bool.and_eq_true, Bool.and_eq_true, Bool.and_eq_true, hfi, pathsGo_iff r]
    constructor
    · rintro ⟨⟨⟨h1, h2⟩, h3⟩, h4⟩ i hi
      cases i with
      | zero => exact ⟨h1, h2, h3, fun k hk => by omega⟩
      | succ i =>
        obtain ⟨g1, g2, g3, g4⟩ := h4 i (by simpa using hi)
        refine ⟨g1, ?_, fun a ha => g3 a (List.mem_cons_of_mem _ ha), fun k hk => ?_⟩
        · cases i with
          | zero => exact g2
          | succ i => exact g2
        · cases k with
          | zero => exact g3 _ List.mem_cons_self
          | succ k => exact g4 k (by omega)
    · intro h
      obtain ⟨h1, h2, h3, _⟩ := h 0 (by simp)
      refine ⟨⟨⟨h1, h2⟩, h3⟩, fun i hi => ?_⟩
      obtain ⟨g1, g2, g3, g4⟩ := h (i + 1) (by simpa using hi)
      refine ⟨g1, ?_, fun a ha => ?_, fun k hk => g4 (k + 1) (by omega)⟩
      · cases i with
        | zero => exact g2
        | succ i => exact g2
      · rcases List.mem_cons.1 ha with rfl | ha
        · exact g4 0 (by omega)
        · exact g3 a ha
theorem pth_of (m : List S80) (i : Nat) : ((m.map ofF).getD i z50).f0 = pth m i := by
  unfold pth
  rw [List.getD_eq_getElem?_getD, List.getD_eq_getElem?_getD, List.getElem?_map]
  cases m[i]? <;> rfl
/-- In order: each path before all that stand behind it. -/
theorem sorted_lt {m : List S80} (h : ∀ i, i < m.length → 0 < i → lessS (pth m (i - 1)) (pth m i) = true) : ∀ (d i : Nat), i + d + 1 < m.length → lessS (pth m i) (pth m (i + d + 1)) = true
  | 0, i, hi => h (i + 1) hi (by omega)
  | d + 1, i, hi => by
    have h1 := sorted_lt h d i (by omega)
    have h2 := h (i + (d + 1) + 1) hi (by omega)
    rw [lessS_tl] at *
    exact less_trans _ _ _ h1 h2
theorem good_paths (m : List S80) : (List.range m.length).all (goodR m) = pathsM (m.map ofF) := by
  rw [Bool.eq_iff_iff, List.all_eq_true]
  unfold pathsM
  rw [pathsGo_iff, List.length_map]
  have hg : ∀ i, goodR m i = true ↔ pathM (pth m i) = true ∧ (i = 0 ∨ lessS (pth m (i - 1)) (pth m i) = true) ∧ ∀ f ∈ m, ¬ Fro (tl f.f0) (tl (pth m i)) := by
    intro i
    unfold goodR
    rw [Bool.and_eq_true, Bool.and_eq_true, Bool.or_eq_true, decide_eq_true_eq, Bool.not_eq_true', List.any_eq_false, and_assoc]
    unfold froB
    simp only [decide_eq_true_eq]
  have hmem : ∀ k, k < m.length → m.getD k z80 ∈ m := fun k hk => by
    rw [List.getD_eq_getElem?_getD, List.getElem?_eq_getElem hk]
    exact List.getElem_mem hk
  constructor
  · intro h i hi
    obtain ⟨h1, h2, h3⟩ := (hg i).1 (h i (List.mem_range.2 hi))
    rw [pth_of]
    refine ⟨h1, ?_, (fun a ha => nomatch ha), fun k hk => ?_⟩
    · by_cases h0 : i = 0
      · rw [if_pos h0]
      · rw [if_neg h0, pth_of]
        rcases h2 with h2 | h2
        · exact absurd h2 h0
        · exact h2
    · rw [pth_of]
      exact h3 _ (hmem k (by omega))
  · intro h i hi
    have hi := List.mem_range.1 hi
    have h' : ∀ j, j < m.length → pathM (pth m j) = true ∧ (0 < j → lessS (pth m (j - 1)) (pth m j) = true) ∧ ∀ k, k < j → ¬ Fro (tl (pth m k)) (tl (pth m j)) := by
      intro j hj
      obtain ⟨h1, h2, _, h4⟩ := h j hj
      rw [pth_of] at h1 h2 h4
      refine ⟨h1, fun h0 => ?_, fun k hk => ?_⟩
      · rw [if_neg (by omega), pth_of] at h2
        exact h2
      · have := h4 k hk
        rwa [pth_of] at this
    obtain ⟨h1, h2, h4⟩ := h' i hi
    refine (hg i).2 ⟨h1, ?_, fun f hf hfr => ?_⟩
    · by_cases h0 : i = 0
      · exact .inl h0
      · exact .inr (h2 (by omega))
    · obtain ⟨k, hk, rfl⟩ := List.getElem_of_mem hf
      have e : m[k] = m.getD k z80 := by rw [List.getD_eq_getElem?_getD, List.getElem?_eq_getElem hk]; rfl
      rw [e] at hfr
      have hfr2 : Fro (tl (pth m k)) (tl (pth m i)) := hfr
      have hl := fro_less hfr2
      rcases Nat.lt_trichotomy k i with hlt | rfl | hgt
      · exact h4 k hlt hfr2
      · rw [less_irr] at hl; cases hl
      · have h5 := sorted_lt (m := m) (fun j hj h0 => (h' j hj).2.1 h0) (k - i - 1) i (by omega)
        rw [show i + (k - i - 1) + 1 = k by omega, lessS_tl] at h5
        have h6 := less_trans _ _ _ h5 hl
        rw [less_irr] at h6
        cases h6
end Go.Proofs.YtgjdcdhfijkoiaaDoor.Str
end
section
namespace Go.Proofs.YtgjdcdhfijkoiaaDoor.Str
open Go.RowKit Go.Proofs.YtgjdcdhfijkoiaaDoorW.PrintWords Go.Proofs.YtgjdcdhfijkoiaaDoorW.PrintLast Go.Proofs.YtgjdcdhfijkoiaaDoorW.PrintMore Go.Proofs.YtgjdcdhfijkoiaaDoor.Mem Go.Proofs.YtgjdcdhfijkoiaaDoor.PCod Go.Proofs.YtgjdcdhfijkoiaaDoor.Cod
set_option linter.unusedVariables false
set_option linter.unusedSimpArgs false
def finG (z : RM × List FS) : List S80 × Int := if z.1.end_ ≠ 0 then ([], z.1.end_) else if checkM z.2 ≠ 0 then ([], 11) else (z.2.map toF, 0)
end Go.Proofs.YtgjdcdhfijkoiaaDoor.Str
end
section
namespace Go.Proofs.YtgjdcdhfijkoiaaDoor.Str
open Go.RowKit Go.Proofs.YtgjdcdhfijkoiaaDoorW.PrintWords Go.Proofs.YtgjdcdhfijkoiaaDoorW.PrintLast Go.Proofs.YtgjdcdhfijkoiaaDoorW.PrintMore Go.Proofs.YtgjdcdhfijkoiaaDoor.Mem Go.Proofs.YtgjdcdhfijkoiaaDoor.PCod Go.Proofs.YtgjdcdhfijkoiaaDoor.Cod
set_option linter.unusedVariables false
set_option linter.unusedSimpArgs false
section
variable {w : World}
end
end Go.Proofs.YtgjdcdhfijkoiaaDoor.Str
end
section
namespace Go.Proofs.YtgjdcdhfijkoiaaDoor.Str
open Go.RowKit Go.Proofs.YtgjdcdhfijkoiaaDoorW.PrintWords Go.Proofs.YtgjdcdhfijkoiaaDoorW.PrintLast Go.Proofs.YtgjdcdhfijkoiaaDoorW.PrintMore Go.Proofs.YtgjdcdhfijkoiaaDoor.Mem Go.Proofs.YtgjdcdhfijkoiaaDoor.PCod Go.Proofs.YtgjdcdhfijkoiaaDoor.Cod
set_option linter.unusedVariables false
set_option linter.unusedSimpArgs false
/-! ### put, then got -/
/-! ### got, then put -/
end Go.Proofs.YtgjdcdhfijkoiaaDoor.Str
end
section
namespace Go.Proofs.YtgjdcdhfijkoiaaDoor.Str
open Go.RowKit Go.Proofs.YtgjdcdhfijkoiaaDoorW.PrintWords Go.Proofs.YtgjdcdhfijkoiaaDoorW.PrintLast Go.Proofs.YtgjdcdhfijkoiaaDoorW.PrintMore Go.Proofs.YtgjdcdhfijkoiaaDoor.Mem Go.Proofs.YtgjdcdhfijkoiaaDoor.PCod Go.Proofs.YtgjdcdhfijkoiaaDoor.Cod Go.Proofs.YtgjdcdhfijkoiaaDoor.Conv
set_option linter.unusedVariables false
set_option linter.unusedSimpArgs false
/-- The tree, as the calls hand it on. -/
structure Gt (w : World) (A : Option Addr) (n c : Nat) (b : List Int) (l : List FS) (er : Int) : Prop where
  get : ∀ W, Below w.heap.size w W → Calls Tryd.prog 22 #[.slice A n c] W fun e w' => ∃ v, e = .returned (.tuple #[v, .int .i64 er]) ∧ Kd.R k50 50 w' W.heap.size (fun _ => True) v l ∧ Below W.heap.size W w'
  ref : ∀ W, Calls Tryd.prog 24 #[.string (S b)] W fun e w' => ∃ v, e = .returned (.tuple #[v, .int .i64 er]) ∧ Kd.R k80 80 w' W.heap.size (fun _ => True) v (l.map toF) ∧ Below W.heap.size W w'
  fo : ∀ W B d, Kd.C k50 W B l.length l → l.length ≤ d → Calls Tryd.prog 15 #[.slice B l.length d] W fun e w' => ∃ v, e = .returned v ∧ Kd.R k80 80 w' W.heap.size (fun _ => True) v (l.map toF) ∧ Below W.heap.size W w'
  put : er = 0 → ∀ W B d, Kd.C k50 W B l.length l → Calls Tryd.prog 16 #[.slice B l.length d] W fun e w' => ∃ v, e = .returned (.tuple #[v, .int .i64 0]) ∧ Kd.R (Kd.int .u8) 5 w' W.heap.size (fun _ => True) v b ∧ Below W.heap.size W w'
  len : l.length ≤ 65536
section
variable {w : World} {A : Option Addr} {c : Nat} {b : List Int}
end
end Go.Proofs.YtgjdcdhfijkoiaaDoor.Str
end
