/- The reference's names, its Path, and what it calls a front: as the code's. -/
import Derived.Test.YtgjdcdhfijkoiaaDoorFiD
import Derived.Test.YtgjdcdhfijkoiaaDoorCoB
section
namespace Go.Proofs.YtgjdcdhfijkoiaaDoor.Str
open Go.RowKit Go.Proofs.YtgjdcdhfijkoiaaDoorW.PrintWords Go.Proofs.YtgjdcdhfijkoiaaDoorW.PrintLast Go.Proofs.YtgjdcdhfijkoiaaDoorW.PrintMore Go.Proofs.YtgjdcdhfijkoiaaDoor.Mem Go.Proofs.YtgjdcdhfijkoiaaDoor.PCod Go.Proofs.YtgjdcdhfijkoiaaDoor.Cod
set_option linter.unusedVariables false
set_option linter.unusedSimpArgs false
theorem lift_k {α : Type} {f : Nat → Option α} (h : ∀ k, LeO (f k) (f (k + 1))) {r : α} : ∀ (d k : Nat), f k = some r → f (k + d) = some r
  | 0, _, e => e
  | d + 1, k, e => h (k + d) r (lift_k h d k e)
theorem lift_to {α : Type} {f : Nat → Option α} (h : ∀ k, LeO (f k) (f (k + 1))) {r : α} {k m : Nat} (e : f k = some r) (hm : k ≤ m) : f m = some r := by
  obtain ⟨d, rfl⟩ := Nat.exists_eq_add_of_le hm
  exact lift_k h d k e
theorem names_go (s : ByteArray) (hs : s.size ≤ 1000000) : ∀ (m i from_ : Nat) (out : List ByteArray), m + i = s.size + 1 → from_ ≤ i → out.length ≤ i → (∀ j, from_ ≤ j → j < i → (tl s)[j]? ≠ some 47) →
    ∃ R, baileeref11_Names.l0 (m + 1) s out from_ i = some (out ++ R) ∧ (i ≤ s.size → R.map tl = spl ((tl s).drop from_)) ∧ (s.size < i → R = [])
  | 0, i, fr, out, hm, hf, ho, hn => by
    refine ⟨[], ?_, fun h => by omega, fun _ => rfl⟩
    unfold baileeref11_Names.l0
    rw [if_neg (by omega), List.append_nil]
  | m + 1, i, fr, out, hm, hf, ho, hn => by
    have hi : i ≤ s.size := by omega
    have hz := tl_size s
    have hw : wrap64 ((i : Int) + 1) = ((i + 1 : Nat) : Int) := w64n i (by omega)
    have e1 : ((fr : Int).toNat) = fr := Int.toNat_natCast fr
    have e2 : ((i : Int).toNat) = i := Int.toNat_natCast i
    unfold baileeref11_Names.l0
    rw [if_pos (by omega)]
    have hseg : ∀ x ∈ ((tl s).take i).drop fr, x ≠ 47 := by
      intro x hx e
      obtain ⟨k, hk, e3⟩ := List.getElem_of_mem hx
      rw [List.length_drop, List.length_take] at hk
      rw [List.getElem_drop, List.getElem_take] at e3
      exact hn (fr + k) (by omega) (by omega) (by rw [List.getElem?_eq_getElem (by omega), e3, e])
    have hone : spl (((tl s).take i).drop fr) = [((tl s).take i).drop fr] := spl_one _ (fun h => hseg 47 h rfl)
    by_cases hend : (i : Int) = s.size
    · rw [if_pos hend, if_pos (by omega), if_pos (by omega), if_pos (by omega), hw, e1, e2]
      obtain ⟨R, h1, _, h3⟩ := names_go s hs m (i + 1) (i + 1) (out ++ [s.extract fr i]) (by omega) (by omega) (by rw [List.length_append]; simp; omega) (fun j h1 h2 => by omega)
      rw [h3 (by omega), List.append_nil] at h1
      refine ⟨[s.extract fr i], h1, fun _ => ?_, fun h => by omega⟩
      rw [List.map_cons, tl_extract]
      have e4 : (tl s).take i = tl s := List.take_of_length_le (by omega)
      rw [e4] at hone ⊢
      exact hone.symm
    · rw [if_neg hend, if_pos (by omega), if_pos (by omega)]
      by_cases hc : bt s i = 47
      · rw [if_pos hc, if_pos (by omega), if_pos (by omega), if_pos (by omega), hw, e1, e2]
        obtain ⟨R, h1, h2, _⟩ := names_go s hs m (i + 1) (i + 1) (out ++ [s.extract fr i]) (by omega) (by omega) (by rw [List.length_append]; simp; omega) (fun j h1 h2 => by omega)
        refine ⟨s.extract fr i :: R, by rw [h1, List.append_assoc]; rfl, fun _ => ?_, fun h => by omega⟩
        rw [List.map_cons, h2 (by omega), tl_extract]
        have hc2 := (bt_tl s i).1 hc
        obtain ⟨h5, h6⟩ := List.getElem?_eq_some_iff.1 hc2
        have e5 : (tl s).drop fr = ((tl s).take i).drop fr ++ 47 :: (tl s).drop (i + 1) := by
          conv => lhs; rw [← List.take_append_drop i (tl s), List.drop_eq_getElem_cons h5, h6, List.drop_append_of_le_length (by rw [List.length_take]; omega)]
        rw [e5, spl_app, hone]
        rfl
      · rw [if_neg hc, hw]
        obtain ⟨R, h1, h2, h3⟩ := names_go s hs m (i + 1) fr out (by omega) (by omega) (by omega) (fun j h1 h2 => by
          by_cases h : j = i
          · rw [h]; exact fun h => hc ((bt_tl s i).2 h)
          · exact hn j h1 (by omega))
        exact ⟨R, h1, fun _ => h2 (by omega), fun h => by omega⟩
theorem map_tl_inj : ∀ {a b : List ByteArray}, a.map tl = b.map tl → a = b
  | [], [], _ => rfl
  | [], _ :: _, h => by cases h
  | _ :: _, [], h => by cases h
  | x :: a, y :: b, h => by
    rw [List.map_cons, List.map_cons] at h
    injection h with h1 h2
    rw [tl_inj h1, map_tl_inj h2]
theorem names_f (s : ByteArray) (hs : s.size ≤ 1000000) : baileeref11_Names.f (s.size + 2) s = some (namesB s) := by
  obtain ⟨R, h1, h2, _⟩ := names_go s hs (s.size + 1) 0 0 [] (by omega) (by omega) (by simp) (fun j h1 h2 => by omega)
  have h3 : R = namesB s := map_tl_inj (by rw [h2 (by omega), List.drop_zero, namesB_spl])
  rw [h3] at h1
  exact h1
theorem rnames_calls (s : ByteArray) (hs : s.size ≤ 1000000) (w : World) : Calls Tryd.prog 46 #[.string s] w fun e w' => ∃ v, e = .returned v ∧ Kd.R Kd.string 9 w' w.heap.size (fun _ => True) v (namesB s) ∧ Below w.heap.size w w' :=
  baileeref11_Names.calls (s.size + 2) s _ w (names_f s hs)
/-! ### Path -/
theorem rp_names (l : List ByteArray) (hl : l.length ≤ 1000000) : ∀ (k i : Nat), k + i = l.length → baileeref11_Path.l1 (k + 1) l i = some ((l.drop i).all okName)
  | 0, i, h => by
    unfold baileeref11_Path.l1
    rw [if_neg (by omega), List.drop_of_length_le (by omega)]
    rfl
  | k + 1, i, h => by
    have e : rdOf ByteArray.empty l (i : Int) = l[i]'(by omega) := by
      unfold rdOf
      rw [Int.toNat_natCast, List.getD_eq_getElem?_getD, List.getElem?_eq_getElem (by omega)]
      rfl
    have hw : wrap64 ((i : Int) + 1) = ((i + 1 : Nat) : Int) := w64n i (by omega)
    unfold baileeref11_Path.l1
    rw [if_pos (by omega), if_pos (by omega), e, hw, rp_names l hl k (i + 1) (by omega), List.drop_eq_getElem_cons (l := l) (i := i) (by omega), List.all_cons]
    generalize l[i]'(by omega) = n
    unfold okName
    by_cases h1 : n.toList = []
    · rw [if_pos h1, h1]; rfl
    · rw [if_neg h1]
      by_cases h2 : n.toList = [46]
      · rw [if_pos h2, h2]; rfl
      · rw [if_neg h2]
        by_cases h3 : n.toList = [46, 46]
        · rw [if_pos h3, h3]; rfl
        · rw [if_neg h3, List.isEmpty_eq_false_iff.2 h1, beq_eq_false_iff_ne.2 h2, beq_eq_false_iff_ne.2 h3]; rfl
theorem rp_bytes (s : ByteArray) (hs : s.size ≤ 255) : ∀ (k i : Nat), k + i = s.size → baileeref11_Path.l0 (k + 600) s i = some (((tl s).drop i).all (fun c => decide (32 ≤ c.toNat)) && (namesB s).all okName)
  | 0, i, h => by
    have hz := tl_size s
    have hln : (namesB s).length ≤ 256 := by
      have h1 := congrArg List.length (namesB_spl s)
      rw [List.length_map] at h1
      have h2 : ∀ l : List UInt8, (spl l).length ≤ l.length + 1 := by
        intro l
        induction l with
        | nil => simp [spl]
        | cons c r ih =>
          by_cases hc : c = 47
          · subst hc; rw [spl_slash]; simp; omega
          · obtain ⟨a, b, e⟩ := spl_ne r
            rw [spl_cons hc e]; rw [e] at ih; simp at ih ⊢; omega
      rw [h1]
      have := h2 (tl s)
      omega
    have hN : baileeref11_Names.f 599 s = some (namesB s) := lift_to (f := fun k => baileeref11_Names.f k s) (fun k => baileeref11_Names.mono s k) (names_f s (by omega)) (by omega)
    have hP : baileeref11_Path.l1 599 (namesB s) ((0 : Nat) : Int) = some (((namesB s).drop 0).all okName) := lift_to (f := fun k => baileeref11_Path.l1 k (namesB s) ((0 : Nat) : Int)) (fun k => (baileeref11_Path.mono_l k).2.2 _ _) (rp_names (namesB s) (by omega) (namesB s).length 0 (by omega)) (by omega)
    show baileeref11_Path.l0 (599 + 1) s i = _
    unfold baileeref11_Path.l0
    rw [if_neg (by omega), hN, Option.bind_some, List.drop_of_length_le (by omega)]
    exact hP
  | k + 1, i, h => by
    have hz := tl_size s
    have hw : wrap64 ((i : Int) + 1) = ((i + 1 : Nat) : Int) := w64n i (by omega)
    have ih := rp_bytes s hs k (i + 1) (by omega)
    show baileeref11_Path.l0 (k + 600 + 1) s i = _
    unfold baileeref11_Path.l0
    rw [if_pos (by omega), if_pos (by omega), hw, ih, List.drop_eq_getElem_cons (l := tl s) (i := i) (by omega), List.all_cons]
    have hb : bt s (i : Int) = ((tl s)[i]'(by omega)).toNat := by
      rw [← bt_at s (i : Int) (by rw [Int.toNat_natCast]; omega)]
      rfl
    rw [hb]
    by_cases hc : (((tl s)[i]'(by omega)).toNat : Int) < 32
    · rw [if_pos hc, decide_eq_false (by omega)]; rfl
    · rw [if_neg hc, decide_eq_true (by omega), Bool.true_and]
theorem j0_step (k : Nat) (s : ByteArray) (b : Bool) : baileeref11_Path.j0 (k + 1) s b = if b = true then some false else baileeref11_Path.l0 k s 0 := by
  unfold baileeref11_Path.j0
  rfl
theorem rpath_f (s : ByteArray) : baileeref11_Path.f 1000 s = some (pathM s) := by
  have hz := tl_size s
  unfold baileeref11_Path.f pathM
  rw [toList_tl]
  by_cases h0 : tl s = []
  · rw [if_pos h0]
    have : s.size = 0 := by rw [← hz, h0]; rfl
    refine (j0_step 999 s true).trans ?_
    rw [if_pos rfl, decide_eq_false (by omega)]
    rfl
  · rw [if_neg h0]
    have h1 : 1 ≤ s.size := by
      rw [← hz]
      exact List.length_pos_iff.2 h0
    refine (j0_step 999 s _).trans ?_
    by_cases h2 : (s.size : Int) > 255
    · rw [if_pos (decide_eq_true h2), decide_eq_false (by omega)]; rfl
    · rw [if_neg (by rw [decide_eq_false h2]; decide), decide_eq_true (by omega), Bool.true_and]
      have h3 := rp_bytes s (by omega) s.size 0 (by omega)
      exact lift_to (f := fun k => baileeref11_Path.l0 k s 0) (fun k => (baileeref11_Path.mono_l k).2.1 _ _) h3 (by omega)
theorem rpath_calls (s : ByteArray) (w : World) : Calls Tryd.prog 19 #[.string s] w fun e w' => e = .returned (.bool (pathM s)) ∧ Below w.heap.size w w' :=
  baileeref11_Path.calls 1000 s _ w (rpath_f s)
/-! ### front -/
instance froDec (a b : List UInt8) : Decidable (Fro a b) := decidable_of_iff _ (fro_iff a b).symm
def froB (a b : ByteArray) : Bool := decide (Fro (tl a) (tl b))
end Go.Proofs.YtgjdcdhfijkoiaaDoor.Str
end
section
namespace Go.Proofs.YtgjdcdhfijkoiaaDoor.Str
open Go.RowKit Go.Proofs.YtgjdcdhfijkoiaaDoorW.PrintWords Go.Proofs.YtgjdcdhfijkoiaaDoorW.PrintLast Go.Proofs.YtgjdcdhfijkoiaaDoorW.PrintMore Go.Proofs.YtgjdcdhfijkoiaaDoor.Mem Go.Proofs.YtgjdcdhfijkoiaaDoor.PCod Go.Proofs.YtgjdcdhfijkoiaaDoor.Cod
set_option linter.unusedVariables false
set_option linter.unusedSimpArgs false
def ofF (f : S80) : FS := ⟨f.f0, bytesOf f.f1⟩
def pth (m : List S80) (i : Nat) : ByteArray := (m.getD i z80).f0
def goodR (m : List S80) (i : Nat) : Bool := pathM (pth m i) && (decide (i = 0) || lessS (pth m (i - 1)) (pth m i)) && !(m.any (fun f => froB f.f0 (pth m i)))
def bigR (f : S80) : Bool := decide (1048576 < f.f1.size)
def sumR (m : List S80) : Nat := (m.map (fun f => f.f1.size)).sum
def sizeR (m : List S80) : Int := if m.any bigR = true then 13 else if 16777216 < sumR m ∨ 65536 < m.length then 13 else 0
def chkR (m : List S80) : Int := if (List.range m.length).all (goodR m) = true then sizeR m else 1
/-! ### as the code's -/
end Go.Proofs.YtgjdcdhfijkoiaaDoor.Str
end
section
namespace Go.Proofs.YtgjdcdhfijkoiaaDoor.Str
open Go.RowKit Go.Proofs.YtgjdcdhfijkoiaaDoorW.PrintWords Go.Proofs.YtgjdcdhfijkoiaaDoorW.PrintLast Go.Proofs.YtgjdcdhfijkoiaaDoorW.PrintMore Go.Proofs.YtgjdcdhfijkoiaaDoor.Mem Go.Proofs.YtgjdcdhfijkoiaaDoor.PCod Go.Proofs.YtgjdcdhfijkoiaaDoor.Cod
set_option linter.unusedVariables false
set_option linter.unusedSimpArgs false
def finG (z : RM × List FS) : List S80 × Int := if z.1.end_ ≠ 0 then ([], z.1.end_) else if checkM z.2 ≠ 0 then ([], 11) else (z.2.map toF, 0)
end Go.Proofs.YtgjdcdhfijkoiaaDoor.Str
end
section
namespace Go.Proofs.YtgjdcdhfijkoiaaDoor.Str
open Go.RowKit Go.Proofs.YtgjdcdhfijkoiaaDoorW.PrintWords Go.Proofs.YtgjdcdhfijkoiaaDoorW.PrintLast Go.Proofs.YtgjdcdhfijkoiaaDoorW.PrintMore Go.Proofs.YtgjdcdhfijkoiaaDoor.Mem Go.Proofs.YtgjdcdhfijkoiaaDoor.PCod Go.Proofs.YtgjdcdhfijkoiaaDoor.Cod
set_option linter.unusedVariables false
set_option linter.unusedSimpArgs false
section
variable {w : World}
end
end Go.Proofs.YtgjdcdhfijkoiaaDoor.Str
end
section
namespace Go.Proofs.YtgjdcdhfijkoiaaDoor.Str
open Go.RowKit Go.Proofs.YtgjdcdhfijkoiaaDoorW.PrintWords Go.Proofs.YtgjdcdhfijkoiaaDoorW.PrintLast Go.Proofs.YtgjdcdhfijkoiaaDoorW.PrintMore Go.Proofs.YtgjdcdhfijkoiaaDoor.Mem Go.Proofs.YtgjdcdhfijkoiaaDoor.PCod Go.Proofs.YtgjdcdhfijkoiaaDoor.Cod
set_option linter.unusedVariables false
set_option linter.unusedSimpArgs false
theorem rd_inv : ∀ (b : List Int) (i : Nat) (x : Int), Byt b → i ≤ 9 → (rdNum i x (128 ^ i) b).2.1 = 0 →
    ∃ y : Int, 0 ≤ y ∧ (rdNum i x (128 ^ i) b).2.2 = x + 128 ^ i * y ∧ b = putN (9 - i) y ++ (rdNum i x (128 ^ i) b).1 ∧ (0 < i → 0 < y) := by
  intro b
  induction b with
  | nil => intro i x _ _ h; exact absurd h (by unfold rdNum; decide)
  | cons c r ih =>
    intro i x hb hi h1
    have hc := hb c List.mem_cons_self
    unfold rdNum at h1 ⊢
    by_cases hbad : (i = 9 ∧ 1 < c) ∨ (0 < i ∧ c = 0)
    · rw [if_pos hbad] at h1; exact absurd h1 (by show ¬ (11 : Int) = 0; omega)
    · rw [if_neg hbad] at h1 ⊢
      by_cases hlt : c < 128
      · rw [if_pos hlt] at h1 ⊢
        refine ⟨c, hc.1, ?_, by rw [putN_small _ hlt]; rfl, fun h => by omega⟩
        show x + 128 ^ i * (c % 128) = x + 128 ^ i * c
        rw [show c % 128 = c by omega]
      · rw [if_neg hlt] at h1 ⊢
        rw [← pow_128] at h1 ⊢
        have hi9 : i + 1 ≤ 9 := by omega
        obtain ⟨y, hy0, hy1, hy2, hy3⟩ := ih (i + 1) _ (fun x hx => hb x (List.mem_cons_of_mem _ hx)) hi9 h1
        have hyp := hy3 (by omega)
        refine ⟨c % 128 + 128 * y, by omega, ?_, ?_, fun _ => by omega⟩
        · rw [hy1, pow_128, Int.mul_add, ← Int.mul_assoc, Int.add_assoc]
        · have e : 9 - i = (9 - (i + 1)) + 1 := by omega
          rw [e, putN_great _ (by omega), ← show y = (c % 128 + 128 * y) / 128 by omega, List.cons_append, ← hy2]
          congr 1
          omega
theorem uint_inv {R : RM} (hb : Byt R.b) (he : R.e = 0) (h : R.uint.1.e = 0) : R.b = putNum R.uint.2 ++ R.uint.1.b := by
  obtain ⟨b, e⟩ := R
  dsimp only at hb he
  subst he
  rw [RM.uint_0] at h ⊢
  obtain ⟨y, hy0, hy1, hy2, _⟩ := rd_inv b 0 0 hb (by omega) h
  have e1 : (rdNum 0 0 1 b).2.2 = y := by rw [show (1 : Int) = 128 ^ 0 from rfl, hy1]; simp
  show b = putNum (rdNum 0 0 1 b).2.2 ++ (rdNum 0 0 1 b).1
  rw [e1]
  exact hy2
theorem fixed_inv {R : RM} {n : Int} (he : R.e = 0) (h : (R.fixed n).1.e = 0) : R.b = (R.fixed n).2 ++ (R.fixed n).1.b ∧ ((R.fixed n).2.length : Int) = n := by
  by_cases h0 : n < 0
  · rw [RM.fixed_neg he h0] at h; exact absurd (show (1 : Int) = 0 from h) (by decide)
  · by_cases h1 : (R.b.length : Int) < n
    · rw [RM.fixed_short he h0 h1] at h; exact absurd (show (10 : Int) = 0 from h) (by decide)
    · rw [RM.fixed_ok he h0 h1]
      exact ⟨(List.take_append_drop _ _).symm, by rw [List.length_take]; omega⟩
theorem bytes_inv {R : RM} {m : Int} (hb : Byt R.b) (he : R.e = 0) (h : (R.bytes m).1.e = 0) : R.b = putNum (R.bytes m).2.length ++ (R.bytes m).2 ++ (R.bytes m).1.b ∧ ((R.bytes m).2.length : Int) ≤ m := by
  by_cases h1 : R.uint.1.e = 0
  · by_cases h2 : m < 0 ∨ m < R.uint.2
    · rw [RM.bytes_big h1 h2] at h; exact absurd (show (13 : Int) = 0 from h) (by decide)
    · rw [RM.bytes_ok h1 h2] at h ⊢
      obtain ⟨f1, f2⟩ := fixed_inv h1 h
      have hu := uint_inv hb he h1
      refine ⟨?_, by omega⟩
      rw [f2, List.append_assoc, ← f1]
      exact hu
  · rw [RM.bytes_e h1] at h; exact absurd h h1
theorem e_uint {R : RM} (h : R.uint.1.e = 0) : R.e = 0 := by
  by_cases he : R.e = 0
  · exact he
  · unfold RM.uint at h; rw [if_pos he] at h; exact h
theorem e_fixed {R : RM} {n : Int} (h : (R.fixed n).1.e = 0) : R.e = 0 := by
  by_cases he : R.e = 0
  · exact he
  · rw [RM.fixed_e he] at h; exact h
theorem e_bytes {R : RM} {m : Int} (h : (R.bytes m).1.e = 0) : R.e = 0 := by
  by_cases h1 : R.uint.1.e = 0
  · exact e_uint h1
  · rw [RM.bytes_e h1] at h; exact absurd h h1
/-! ### put, then got -/
/-! ### got, then put -/
theorem end_0 {R : RM} (h : R.end_ = 0) : R.e = 0 ∧ R.b = [] := by
  unfold RM.end_ at h
  split at h
  · rename_i h1; exact absurd h h1
  · rename_i h1
    split at h
    · rename_i h2; exact ⟨by simpa using h1, h2⟩
    · exact absurd h (by decide)
end Go.Proofs.YtgjdcdhfijkoiaaDoor.Str
end
