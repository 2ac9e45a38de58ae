/- files.Get: the tree of bytes. -/
import Derived.Test.YtgjdcdhfijkoiaaDoorFiB
import Derived.Test.YtgjdcdhfijkoiaaDoorCoB
section
namespace Go.Proofs.YtgjdcdhfijkoiaaDoor.Str
open Go.RowKit Go.Proofs.YtgjdcdhfijkoiaaDoorW.PrintWords Go.Proofs.YtgjdcdhfijkoiaaDoorW.PrintLast Go.Proofs.YtgjdcdhfijkoiaaDoorW.PrintMore Go.Proofs.YtgjdcdhfijkoiaaDoor.Mem Go.Proofs.YtgjdcdhfijkoiaaDoor.PCod Go.Proofs.YtgjdcdhfijkoiaaDoor.Cod
set_option linter.unusedVariables false
set_option linter.unusedSimpArgs false
/-- What is held may become more, behind some operations of a drawn region. -/
theorem hold_ {P : Program} {md : Region.Mode} {ops : Array Oper} {Q : Exit → Act → World → Prop} {S' : World → Prop} {ds : List Nat} : ∀ (fuel : Nat) (l : Array Bool) (a : Act) (w : World), wpAnyLast P md ops Q S' ds fuel l a w → wpAnyLast P md ops Q (fun _ => True) ds fuel l a w
  | 0, _, _, _, h => h
  | fuel + 1, _, _, _, h => ⟨h.1, fun i hi => wpOp_mono (fun a' w' h' => ⟨fun _ _ => trivial, hold_ fuel _ a' w' h'.2⟩) (h.2 i hi)⟩
def oneF (R : RM) : FS := ⟨strOfNums (R.bytes 255).2, ((R.bytes 255).1.bytes 1048576).2⟩
def stepF (R : RM) : RM := ((R.bytes 255).1.bytes 1048576).1
def getGo : Nat → RM → List FS → RM × List FS
  | 0, R, o => (R, o)
  | n + 1, R, o => if R.e ≠ 0 then (R, o) else getGo n (stepF R) (o ++ [oneF R])
def getM (b : List Int) : List FS × Int :=
  if 65536 < (⟨b, 0⟩ : RM).uint.2 then ([], 13) else
  if (getGo (⟨b, 0⟩ : RM).uint.2.toNat (⟨b, 0⟩ : RM).uint.1 []).1.end_ ≠ 0 then ([], (getGo (⟨b, 0⟩ : RM).uint.2.toNat (⟨b, 0⟩ : RM).uint.1 []).1.end_) else
  if checkM (getGo (⟨b, 0⟩ : RM).uint.2.toNat (⟨b, 0⟩ : RM).uint.1 []).2 ≠ 0 then ([], 11) else ((getGo (⟨b, 0⟩ : RM).uint.2.toNat (⟨b, 0⟩ : RM).uint.1 []).2, 0)
/-- The reader, and what has come out of it. -/
structure GS (w W : World) (b2 g : Nat) (R : RM) (v : Value) (o : List FS) : Prop where
  bl : Below w.heap.size w W
  b0 : w.heap.size ≤ b2
  bs : b2 ≤ W.heap.size
  rd : ∃ F : Nat → Prop, RdAt W F g R ∧ (∀ k, F k → w.heap.size ≤ k ∧ k < b2) ∧ F g
  out : Kd.R k50 50 W w.heap.size (fun k => b2 ≤ k) v o
section
variable {w W W' : World} {b2 g : Nat} {R R' : RM} {v : Value} {o : List FS}
theorem GS.below (h : GS w W b2 g R v o) (hb : Below W.heap.size W W') : GS w W' b2 g R v o := by
  obtain ⟨F, h1, h2, h3⟩ := h.rd
  exact ⟨below_step h.bl hb, h.b0, Nat.le_trans h.bs hb.size, ⟨F, h1.below hb, h2, h3⟩, Kd.R_below h.out hb⟩
theorem GS.lt (h : GS w W b2 g R v o) : g < b2 := by
  obtain ⟨F, h1, h2, h3⟩ := h.rd
  exact (h2 g h3).2
theorem GS.step (h : GS w W b2 g R v o) (hb : Below w.heap.size w W') (hk : Kept W W' (fun k => k = g)) (hd : ∀ F : Nat → Prop, RdAt W F g R → (∀ k, F k → w.heap.size ≤ k ∧ k < b2) → RdAt W' F g R') : GS w W' b2 g R' v o := by
  have hlt := h.lt
  obtain ⟨F, h1, h2, h3⟩ := h.rd
  exact ⟨hb, h.b0, Nat.le_trans h.bs hk.1, ⟨F, hd F h1 h2, h2, h3⟩, Kd.R_kept h.out hk (fun k hk e => by have : k = g := e; omega)⟩
theorem GS.uint (h : GS w W b2 g R v o) : Calls Tryd.prog 50 #[.pointer (some ⟨g, 0, none⟩)] W fun e w' => e = .returned (.int .u64 R.uint.2) ∧ GS w w' b2 g R.uint.1 v o := by
  have hlt := h.lt
  obtain ⟨F, h1, h2, h3⟩ := h.rd
  refine (uint_any h.bl (fun k hk => (h2 k hk).1) h1).mono ?_
  rintro e w' ⟨rfl, q1, q2, q3⟩
  exact ⟨rfl, q2, h.b0, Nat.le_trans h.bs q3.1, ⟨F, q1, h2, h3⟩, Kd.R_kept h.out q3 (fun k hk e => by have : k = g := e; omega)⟩
theorem GS.err (h : GS w W b2 g R v o) : Calls Tryd.prog 51 #[.pointer (some ⟨g, 0, none⟩)] W fun e w' => e = .returned (.int .i64 R.e) ∧ W = w' := by
  obtain ⟨F, h1, h2, h3⟩ := h.rd
  exact err_calls h1
theorem GS.end_ (h : GS w W b2 g R v o) : Calls Tryd.prog 53 #[.pointer (some ⟨g, 0, none⟩)] W fun e w' => e = .returned (.int .i64 R.end_) ∧ W = w' := by
  obtain ⟨F, h1, h2, h3⟩ := h.rd
  exact end_calls h1
theorem GS.byt (h : GS w W b2 g R v o) : Byt R.b := by
  obtain ⟨F, h1, h2, h3⟩ := h.rd
  exact h1.byt
theorem GS.bytes (h : GS w W b2 g R v o) (m : Int) (hm : m ≤ 9223372036854775807) : Calls Tryd.prog 52 #[.pointer (some ⟨g, 0, none⟩), .int .i64 m] W fun e w' => ∃ u, e = .returned u ∧ Kd.R (Kd.int .u8) 5 w' W.heap.size (fun k => some k = u.ownBlock) u (R.bytes m).2 ∧ GS w w' b2 g (R.bytes m).1 v o ∧ Kept W w' (fun k => k = g) := by
  have hlt := h.lt
  obtain ⟨F, h1, h2, h3⟩ := h.rd
  refine (bytes_calls h.bl (fun k hk => (h2 k hk).1) h1 m hm).mono ?_
  rintro e w' ⟨u, rfl, q0, q1, q2, q3⟩
  exact ⟨u, rfl, Kd.R_tight rfl q0, ⟨q2, h.b0, Nat.le_trans h.bs q3.1, ⟨F, q1, h2, h3⟩, Kd.R_kept h.out q3 (fun k hk e => by have : k = g := e; omega)⟩, q3⟩
/-- A row of bytes in its own block stays, where its block stays. -/
theorem row_stays {e N : Nat} {u : Value} {p : List Int} {S : Nat → Prop} (h : Kd.R (Kd.int .u8) e W N (fun k => some k = u.ownBlock) u p) (hk : Kept W W' S) (hs : ∀ k, N ≤ k → ¬ S k) : Kd.R (Kd.int .u8) e W' N (fun k => some k = u.ownBlock) u p :=
  Kd.R_mono (Kd.R_kept (Kd.R_bound h) hk (fun k hk => hs k hk.2.1)) (fun k hk => hk.1)
theorem row_conv {N : Nat} {u : Value} {p : List Int} {ok : Nat → Prop} (hy : Byt p) (h : Kd.R (Kd.int .u8) 5 W N ok u p) : (convert 27 9 u).run Tryd.prog W = .ok (.string (S p)) W := by
  obtain ⟨A, c, rfl, _, hC⟩ := Kd.R_reads h
  exact conv_row rfl hC (Below.refl _ _)
end
section
variable {w : World}
end
end Go.Proofs.YtgjdcdhfijkoiaaDoor.Str
end
section
namespace Go.Proofs.YtgjdcdhfijkoiaaDoor.Str
open Go.RowKit Go.Proofs.YtgjdcdhfijkoiaaDoorW.PrintWords Go.Proofs.YtgjdcdhfijkoiaaDoorW.PrintLast Go.Proofs.YtgjdcdhfijkoiaaDoorW.PrintMore Go.Proofs.YtgjdcdhfijkoiaaDoor.Mem Go.Proofs.YtgjdcdhfijkoiaaDoor.PCod Go.Proofs.YtgjdcdhfijkoiaaDoor.Cod
set_option linter.unusedVariables false
set_option linter.unusedSimpArgs false
def cutB (s : ByteArray) : ByteArray := if slashAt s < 0 then s else s.extract 0 (slashAt s).toNat
def cutA (s : ByteArray) : ByteArray := if slashAt s < 0 then ⟨#[]⟩ else s.extract ((slashAt s).toNat + 1) s.size
def cutQ (s : ByteArray) : Bool := decide (0 ≤ slashAt s)
section
variable {w : World}
/-- What stands behind a front, and whether it does. -/
def pre (s p : ByteArray) : Bool := decide (p.size ≤ s.size) && ((s.extract 0 p.size).toList == p.toList)
end
end Go.Proofs.YtgjdcdhfijkoiaaDoor.Str
end
section
namespace Go.Proofs.YtgjdcdhfijkoiaaDoor.Str
open Go.RowKit Go.Proofs.YtgjdcdhfijkoiaaDoorW.PrintWords Go.Proofs.YtgjdcdhfijkoiaaDoorW.PrintLast Go.Proofs.YtgjdcdhfijkoiaaDoorW.PrintMore Go.Proofs.YtgjdcdhfijkoiaaDoor.Mem Go.Proofs.YtgjdcdhfijkoiaaDoor.PCod Go.Proofs.YtgjdcdhfijkoiaaDoor.Cod
set_option linter.unusedVariables false
set_option linter.unusedSimpArgs false
def slashB : ByteArray := ⟨#[47]⟩
def dirP (d : ByteArray) : ByteArray := if d.toList = [] then d else d ++ slashB
def restP (p s : ByteArray) : ByteArray := s.extract p.size s.size
/-- One file more: the names, whether they are directories, what was seen. -/
def undStep (p : ByteArray) (f : FS) (z : List ByteArray × List Bool) : List ByteArray × List Bool :=
  if pre f.f0 p = true then (if (cutB (restP p f.f0)).data.toList ∈ z.1.map (fun n => n.data.toList) then z else (z.1 ++ [cutB (restP p f.f0)], z.2 ++ [cutQ (restP p f.f0)])) else z
def undM (l : List FS) (d : ByteArray) : List ByteArray × List Bool := l.foldl (fun z f => undStep (dirP d) f z) ([], [])
/-- What has been found, in the worlds' rows. -/
structure US (w W : World) (bm : Nat) (i : Nat) (v u : Value) (z : List ByteArray × List Bool) : Prop where
  bl : Below w.heap.size w W
  sn : Seen W bm i (z.1.map (fun n => n.data.toList)).reverse
  b0 : w.heap.size ≤ bm
  ns : Kd.R Kd.string 9 W w.heap.size (fun k => bm < k) v z.1
  ds : Kd.R Kd.bool 4 W w.heap.size (fun k => bm < k) u z.2
section
variable {w W W' : World} {bm i : Nat} {v u : Value} {z : List ByteArray × List Bool}
theorem US.below (h : US w W bm i v u z) (hb : Below W.heap.size W W') : US w W' bm i v u z :=
  ⟨below_step h.bl hb, h.sn.blk (hb.block _ h.sn.lt), h.b0, Kd.R_below h.ns hb, Kd.R_below h.ds hb⟩
end
section
variable {w : World}
end
end Go.Proofs.YtgjdcdhfijkoiaaDoor.Str
end
section
namespace Go.Proofs.YtgjdcdhfijkoiaaDoor.Str
open Go.RowKit Go.Proofs.YtgjdcdhfijkoiaaDoorW.PrintWords Go.Proofs.YtgjdcdhfijkoiaaDoorW.PrintLast Go.Proofs.YtgjdcdhfijkoiaaDoorW.PrintMore Go.Proofs.YtgjdcdhfijkoiaaDoor.Mem Go.Proofs.YtgjdcdhfijkoiaaDoor.PCod Go.Proofs.YtgjdcdhfijkoiaaDoor.Cod
set_option linter.unusedVariables false
set_option linter.unusedSimpArgs false
theorem w64n (i : Nat) (h : i < 9223372036854775807) : wrap64 ((i : Int) + 1) = ((i + 1 : Nat) : Int) := by rw [w64_small (by omega) (by omega)]; rfl
/-! ### few -/
/-! ### filesOf -/
def toF (f : FS) : S80 := ⟨f.f0, strOfNums f.f1⟩
/-! ### Same -/
def kf (f : FS) : List UInt8 × List UInt8 := (f.f0.toList, (strOfNums f.f1).toList)
def sameM (a b : List FS) : Bool := decide (a.map kf = b.map kf)
/-! ### the reference's Same -/
def kg (f : S80) : List UInt8 × List UInt8 := (f.f0.toList, f.f1.toList)
def sameR (a b : List S80) : Bool := decide (a.map kg = b.map kg)
end Go.Proofs.YtgjdcdhfijkoiaaDoor.Str
end
section
namespace Go.Proofs.YtgjdcdhfijkoiaaDoor.Str
open Go.RowKit Go.Proofs.YtgjdcdhfijkoiaaDoorW.PrintWords Go.Proofs.YtgjdcdhfijkoiaaDoorW.PrintLast Go.Proofs.YtgjdcdhfijkoiaaDoorW.PrintMore Go.Proofs.YtgjdcdhfijkoiaaDoor.Mem Go.Proofs.YtgjdcdhfijkoiaaDoor.PCod Go.Proofs.YtgjdcdhfijkoiaaDoor.Cod
set_option linter.unusedVariables false
set_option linter.unusedSimpArgs false
/-! ### the names of a path -/
def spl : List UInt8 → List (List UInt8)
  | [] => [[]]
  | c :: r => if c = 47 then [] :: spl r else match spl r with
    | [] => [[c]]
    | h :: t => (c :: h) :: t
theorem spl_slash (r : List UInt8) : spl (47 :: r) = [] :: spl r := by rw [spl, if_pos rfl]
theorem spl_ne (l : List UInt8) : ∃ h t, spl l = h :: t := by
  cases l with
  | nil => exact ⟨_, _, rfl⟩
  | cons c r =>
    rw [spl]
    split
    · exact ⟨_, _, rfl⟩
    · split <;> exact ⟨_, _, rfl⟩
theorem spl_cons {c : UInt8} (hc : c ≠ 47) {r h : List UInt8} {t : List (List UInt8)} (e : spl r = h :: t) : spl (c :: r) = (c :: h) :: t := by
  rw [spl, if_neg hc, e]
theorem spl_one : ∀ (l : List UInt8), 47 ∉ l → spl l = [l]
  | [], _ => rfl
  | c :: r, h => spl_cons (fun e => h (by rw [e]; exact List.mem_cons_self)) (spl_one r (fun h2 => h (List.mem_cons_of_mem _ h2)))
theorem spl_app : ∀ (a b : List UInt8), spl (a ++ 47 :: b) = spl a ++ spl b
  | [], b => by rw [List.nil_append, spl_slash]; rfl
  | c :: r, b => by
    have ih := spl_app r b
    by_cases hc : c = 47
    · subst hc
      rw [List.cons_append, spl_slash, spl_slash, ih]; rfl
    · obtain ⟨h, t, e⟩ := spl_ne r
      rw [e] at ih
      rw [List.cons_append, spl_cons hc e, spl_cons hc ih]; rfl
def tl (s : ByteArray) : List UInt8 := s.data.toList
theorem tl_size (s : ByteArray) : (tl s).length = s.size := by unfold tl; rw [Array.length_toList]; rfl
theorem toList_tl (s : ByteArray) : s.toList = tl s := Lib.toList_data s
theorem tl_inj {a b : ByteArray} (h : tl a = tl b) : a = b := ByteArray.ext (Array.ext' h)
theorem tl_extract (s : ByteArray) (i j : Nat) : tl (s.extract i j) = ((tl s).take j).drop i := by
  unfold tl
  rw [ByteArray.data_extract, Array.toList_extract]
  simp [List.extract, List.drop_take]
theorem slash_none {s : ByteArray} (h : slashAt s < 0) : 47 ∉ tl s := by
  have h1 : slashAt s = -1 := by
    have := Lib.indexByte_ge s.data.toList 47
    have h2 : slashAt s = Lib.indexByte s.data.toList 47 := rfl
    omega
  intro hm
  obtain ⟨i, hi, e⟩ := List.getElem_of_mem hm
  exact Lib.indexByte_none (l := tl s) h1 i (by rw [List.getElem?_eq_getElem hi]; exact congrArg some e)
theorem slash_some {s : ByteArray} {o : Nat} (h : slashAt s = o) : tl s = (tl s).take o ++ 47 :: (tl s).drop (o + 1) ∧ 47 ∉ (tl s).take o := by
  obtain ⟨h1, h2⟩ := Lib.indexByte_some (l := tl s) (c := 47) (o := o) h
  obtain ⟨h3, h4⟩ := List.getElem?_eq_some_iff.1 h1
  refine ⟨?_, fun hm => ?_⟩
  · conv => lhs; rw [← List.take_append_drop o (tl s), List.drop_eq_getElem_cons h3, h4]
  · obtain ⟨i, hi, e⟩ := List.getElem_of_mem hm
    rw [List.length_take] at hi
    rw [List.getElem_take] at e
    exact h2 i (by omega) (by rw [List.getElem?_eq_getElem (by omega), e])
theorem namesF_spl : ∀ (k : Nat) (s : ByteArray), s.size ≤ k → (namesF k s).map tl = spl (tl s)
  | 0, s, h => by
    have : tl s = [] := List.eq_nil_of_length_eq_zero (by rw [tl_size]; omega)
    unfold namesF
    rw [List.map_cons, this]; rfl
  | k + 1, s, h => by
    unfold namesF
    split
    · rename_i h1
      rw [spl_one _ (slash_none h1)]; rfl
    · rename_i h1
      obtain ⟨o, ho⟩ : ∃ o : Nat, slashAt s = o := ⟨(slashAt s).toNat, by omega⟩
      have h2 := slash_lt ho
      obtain ⟨h3, h4⟩ := slash_some ho
      have ih := namesF_spl k (s.extract (o + 1) s.size) (by rw [ByteArray.size_extract]; omega)
      rw [ho, Int.toNat_natCast, List.map_cons, ih, tl_extract, tl_extract]
      conv => rhs; rw [h3, spl_app, spl_one _ h4]
      have e9 : (tl s).take s.size = tl s := List.take_of_length_le (by rw [tl_size]; exact Nat.le_refl _)
      rw [List.drop_zero, e9]
      rfl
theorem namesB_spl (s : ByteArray) : (namesB s).map tl = spl (tl s) := namesF_spl _ s (Nat.le_refl _)
/-! ### what may be -/
def okN (n : List UInt8) : Bool := !(n.isEmpty || n == [46] || n == [46, 46])
def okL (l : List UInt8) : Bool := decide (1 ≤ l.length ∧ l.length ≤ 255) && l.all (fun c => decide (32 ≤ c.toNat)) && (spl l).all okN
end Go.Proofs.YtgjdcdhfijkoiaaDoor.Str
end
section
namespace Go.Proofs.YtgjdcdhfijkoiaaDoor.Str
open Go.RowKit Go.Proofs.YtgjdcdhfijkoiaaDoorW.PrintWords Go.Proofs.YtgjdcdhfijkoiaaDoorW.PrintLast Go.Proofs.YtgjdcdhfijkoiaaDoorW.PrintMore Go.Proofs.YtgjdcdhfijkoiaaDoor.Mem Go.Proofs.YtgjdcdhfijkoiaaDoor.PCod Go.Proofs.YtgjdcdhfijkoiaaDoor.Cod Go.Proofs.YtgjdcdhfijkoiaaDoor.Conv
set_option linter.unusedVariables false
set_option linter.unusedSimpArgs false
theorem C_kept {α : Type} {d : Kd α} {w w' : World} {S : Nat → Prop} {A : Option Addr} {n : Nat} {xs : List α} (hK : ∀ x c, d.K w x c → d.K w' x c) (h : Kd.C d w A n xs) (hk : Kept w w' S) (hs : ∀ ad, A = some ad → ¬ S ad.block) : Kd.C d w' A n xs := by
  obtain ⟨q1, q2, q3⟩ := h
  refine ⟨q1, q2, fun hp => ?_⟩
  obtain ⟨ad, e1, hc0⟩ := q3 hp
  refine ⟨ad, e1, fun j p hj => ?_⟩
  obtain ⟨cc, hl, hkk, hcell⟩ := hc0 j p hj
  refine ⟨cc, hl, hK _ _ hkk, fun i u hu => ?_⟩
  have hq := hcell i u hu
  refine Go.Proofs.YtgjdcdhfijkoiaaDoorW.PrintWords.cell_kept hq hk ?_
  have hb : (ad.add (j * d.sz + i)).block = ad.block := by unfold Addr.add; split <;> rfl
  rw [hb]
  exact hs ad e1
def sA : ByteArray := ⟨#[97, 47, 98]⟩
def sB : ByteArray := ⟨#[97, 47, 99, 47, 100]⟩
def sC : ByteArray := ⟨#[101]⟩
def lA : List FS := [⟨⟨#[97, 47, 98]⟩, [120]⟩, ⟨⟨#[97, 47, 99, 47, 100]⟩, []⟩, ⟨⟨#[101]⟩, []⟩]
def pL : List Int := [3, 3, 97, 47, 98, 1, 120, 5, 97, 47, 99, 47, 100, 0, 1, 101, 0]
end Go.Proofs.YtgjdcdhfijkoiaaDoor.Str
end
