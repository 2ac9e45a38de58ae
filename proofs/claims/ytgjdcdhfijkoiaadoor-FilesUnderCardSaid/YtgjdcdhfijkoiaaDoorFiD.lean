/- The order of paths, and what stands in front of a path. -/
import Derived.Test.YtgjdcdhfijkoiaaDoorFiC
import Derived.Test.YtgjdcdhfijkoiaaDoorCoB
section
namespace Go.Proofs.YtgjdcdhfijkoiaaDoor.Str
open Go.RowKit Go.Proofs.YtgjdcdhfijkoiaaDoorW.PrintWords Go.Proofs.YtgjdcdhfijkoiaaDoorW.PrintLast Go.Proofs.YtgjdcdhfijkoiaaDoorW.PrintMore Go.Proofs.YtgjdcdhfijkoiaaDoor.Mem Go.Proofs.YtgjdcdhfijkoiaaDoor.PCod Go.Proofs.YtgjdcdhfijkoiaaDoor.Cod
set_option linter.unusedVariables false
set_option linter.unusedSimpArgs false
theorem less_cons (a b : UInt8) (x y : List UInt8) : Op.bytesLess (a :: x) (b :: y) = true ↔ a < b ∨ (a = b ∧ Op.bytesLess x y = true) := by
  rw [Op.bytesLess, Bool.or_eq_true, Bool.and_eq_true, decide_eq_true_eq, beq_iff_eq]
theorem less_irr : ∀ (x : List UInt8), Op.bytesLess x x = false
  | [] => rfl
  | a :: x => by
    rw [Bool.eq_false_iff]
    intro h
    rcases (less_cons a a x x).1 h with h | ⟨_, h⟩
    · exact absurd h (UInt8.lt_irrefl a)
    · rw [less_irr x] at h; cases h
theorem less_trans : ∀ (x y z : List UInt8), Op.bytesLess x y = true → Op.bytesLess y z = true → Op.bytesLess x z = true
  | _, [], _, h, _ => by rw [Op.bytesLess] at h; cases h
  | _, _ :: _, [], _, h => by cases h
  | [], _ :: _, _ :: _, _, _ => rfl
  | a :: x, b :: y, c :: z, h1, h2 => by
    rw [less_cons] at h1 h2 ⊢
    rcases h1 with h1 | ⟨rfl, h1⟩
    · rcases h2 with h2 | ⟨rfl, h2⟩
      · exact .inl (UInt8.lt_trans h1 h2)
      · exact .inl h1
    · rcases h2 with h2 | ⟨rfl, h2⟩
      · exact .inl h2
      · exact .inr ⟨rfl, less_trans x y z h1 h2⟩
theorem less_front : ∀ (a b : List UInt8), b ≠ [] → Op.bytesLess a (a ++ b) = true
  | [], [], h => absurd rfl h
  | [], _ :: _, _ => rfl
  | a :: x, b, h => (less_cons a a x (x ++ b)).2 (.inr ⟨rfl, less_front x b h⟩)
theorem lessS_tl (a b : ByteArray) : lessS a b = Op.bytesLess (tl a) (tl b) := by unfold lessS; rw [toList_tl, toList_tl]
theorem bt_tl (s : ByteArray) (k : Nat) : bt s k = 47 ↔ (tl s)[k]? = some 47 := by
  have hz := tl_size s
  by_cases h : k < s.size
  · have h1 := bt_at s (k : Int) (by simpa using h)
    rw [← h1]
    have e : (tl s)[k]? = some (s[k]'h) := by
      unfold tl
      rw [Array.getElem?_toList]
      exact Array.getElem?_eq_getElem (xs := s.data) (by exact h)
    rw [e]
    have e2 : (s[(k : Int).toNat]'(by simpa using h)) = s[k]'h := rfl
    rw [e2]
    constructor
    · intro h2
      refine congrArg some (UInt8.toNat_inj.1 ?_)
      show (s[k]'h).toNat = 47
      omega
    · intro h2
      rw [Option.some.inj h2]
      rfl
  · rw [List.getElem?_eq_none (by omega)]
    constructor
    · intro h2
      unfold bt at h2
      rw [dif_neg (by simpa using h)] at h2
      omega
    · intro h2; cases h2
/-- Is the first text, with a slash behind it, the front of the second? -/
def Fro (a b : List UInt8) : Prop := ∃ r, b = a ++ 47 :: r
theorem fro_iff (a b : List UInt8) : Fro a b ↔ b[a.length]? = some 47 ∧ b.take a.length = a := by
  constructor
  · rintro ⟨r, rfl⟩
    exact ⟨by rw [List.getElem?_append_right (Nat.le_refl _), Nat.sub_self]; rfl, List.take_left⟩
  · rintro ⟨h1, h2⟩
    obtain ⟨h3, h4⟩ := List.getElem?_eq_some_iff.1 h1
    refine ⟨b.drop (a.length + 1), ?_⟩
    conv => lhs; rw [← List.take_append_drop a.length b, h2, List.drop_eq_getElem_cons h3, h4]
theorem frontIn_iff (seen : List (List UInt8)) (s : ByteArray) : frontIn seen s = true ↔ ∃ a ∈ seen, Fro a (tl s) := by
  unfold frontIn
  rw [List.any_eq_true]
  constructor
  · rintro ⟨k, hk, h⟩
    rw [Bool.and_eq_true, beq_iff_eq, bt_tl, decide_eq_true_eq] at h
    have e : (s.extract 0 k).data.toList = (tl s).take k := (tl_extract s 0 k)
    rw [e] at h
    have hl : k < (tl s).length := (List.getElem?_eq_some_iff.1 h.1).1
    have hl2 : ((tl s).take k).length = k := by rw [List.length_take]; omega
    exact ⟨_, h.2, (fro_iff _ _).2 (by rw [hl2]; exact ⟨h.1, rfl⟩)⟩
  · rintro ⟨a, ha, h⟩
    obtain ⟨h1, h2⟩ := (fro_iff _ _).1 h
    have hl : a.length < (tl s).length := (List.getElem?_eq_some_iff.1 h1).1
    refine ⟨a.length, List.mem_range.2 (by rw [tl_size] at hl; exact hl), ?_⟩
    rw [Bool.and_eq_true, beq_iff_eq, bt_tl, decide_eq_true_eq]
    refine ⟨h1, ?_⟩
    have e : (s.extract 0 a.length).data.toList = (tl s).take a.length := (tl_extract s 0 a.length)
    rw [e, h2]
    exact ha
theorem fro_less {a b : List UInt8} (h : Fro a b) : Op.bytesLess a b = true := by
  obtain ⟨r, rfl⟩ := h
  exact less_front a _ (by simp)
end Go.Proofs.YtgjdcdhfijkoiaaDoor.Str
end
section
namespace Go.Proofs.YtgjdcdhfijkoiaaDoor.Str
open Go.RowKit Go.Proofs.YtgjdcdhfijkoiaaDoorW.PrintWords Go.Proofs.YtgjdcdhfijkoiaaDoorW.PrintLast Go.Proofs.YtgjdcdhfijkoiaaDoorW.PrintMore Go.Proofs.YtgjdcdhfijkoiaaDoor.Mem Go.Proofs.YtgjdcdhfijkoiaaDoor.PCod Go.Proofs.YtgjdcdhfijkoiaaDoor.Cod
set_option linter.unusedVariables false
set_option linter.unusedSimpArgs false
section
variable {w : World}
end
end Go.Proofs.YtgjdcdhfijkoiaaDoor.Str
end
section
namespace Go.Proofs.YtgjdcdhfijkoiaaDoor.Str
open Go.RowKit Go.Proofs.YtgjdcdhfijkoiaaDoorW.PrintWords Go.Proofs.YtgjdcdhfijkoiaaDoorW.PrintLast Go.Proofs.YtgjdcdhfijkoiaaDoorW.PrintMore Go.Proofs.YtgjdcdhfijkoiaaDoor.Mem Go.Proofs.YtgjdcdhfijkoiaaDoor.PCod Go.Proofs.YtgjdcdhfijkoiaaDoor.Cod
set_option linter.unusedVariables false
set_option linter.unusedSimpArgs false
section
variable {w : World}
end
end Go.Proofs.YtgjdcdhfijkoiaaDoor.Str
end
section
namespace Go.Proofs.YtgjdcdhfijkoiaaDoor.Str
open Go.RowKit Go.Proofs.YtgjdcdhfijkoiaaDoorW.PrintWords Go.Proofs.YtgjdcdhfijkoiaaDoorW.PrintLast Go.Proofs.YtgjdcdhfijkoiaaDoorW.PrintMore Go.Proofs.YtgjdcdhfijkoiaaDoor.Mem Go.Proofs.YtgjdcdhfijkoiaaDoor.PCod Go.Proofs.YtgjdcdhfijkoiaaDoor.Cod
set_option linter.unusedVariables false
set_option linter.unusedSimpArgs false
/-- Files as Check lets them pass. -/
def Small (f : FS) : Prop := f.f0.size ≤ 255 ∧ f.f1.length ≤ 1048576 ∧ Byt f.f1
end Go.Proofs.YtgjdcdhfijkoiaaDoor.Str
end
section
namespace Go.Proofs.YtgjdcdhfijkoiaaDoor.Str
open Go.RowKit Go.Proofs.YtgjdcdhfijkoiaaDoorW.PrintWords Go.Proofs.YtgjdcdhfijkoiaaDoorW.PrintLast Go.Proofs.YtgjdcdhfijkoiaaDoorW.PrintMore Go.Proofs.YtgjdcdhfijkoiaaDoor.Mem Go.Proofs.YtgjdcdhfijkoiaaDoor.PCod Go.Proofs.YtgjdcdhfijkoiaaDoor.Cod
set_option linter.unusedVariables false
set_option linter.unusedSimpArgs false
/-- Two trees and what is told of them. -/
structure Tw (w : World) (A : Option Addr) (n c : Nat) (B : Option Addr) (m d : Nat) (ca cb : Int) (xa xb : List Int) (r : Bool) : Prop where
  pa : ∀ W, Below w.heap.size w W → Calls Tryd.prog 16 #[.slice A n c] W fun e w' => ∃ v, e = .returned (.tuple #[v, .int .i64 ca]) ∧ Kd.R (Kd.int .u8) 5 w' W.heap.size (fun _ => True) v xa ∧ Below W.heap.size W w'
  pb : ∀ W, Below w.heap.size w W → Calls Tryd.prog 16 #[.slice B m d] W fun e w' => ∃ v, e = .returned (.tuple #[v, .int .i64 cb]) ∧ Kd.R (Kd.int .u8) 5 w' W.heap.size (fun _ => True) v xb ∧ Below W.heap.size W w'
  saa : ∀ W, Below w.heap.size w W → Calls Tryd.prog 23 #[.slice A n c, .slice A n c] W fun e w' => e = .returned (.bool true) ∧ Below W.heap.size W w'
  sbb : ∀ W, Below w.heap.size w W → Calls Tryd.prog 23 #[.slice B m d, .slice B m d] W fun e w' => e = .returned (.bool true) ∧ Below W.heap.size W w'
  sab : ∀ W, Below w.heap.size w W → Calls Tryd.prog 23 #[.slice A n c, .slice B m d] W fun e w' => e = .returned (.bool r) ∧ Below W.heap.size W w'
  sba : ∀ W, Below w.heap.size w W → Calls Tryd.prog 23 #[.slice B m d, .slice A n c] W fun e w' => e = .returned (.bool r) ∧ Below W.heap.size W w'
  eq : ca = 0 → cb = 0 → r = ((S xa).toList == (S xb).toList)
section
variable {w : World} {A B : Option Addr} {c d : Nat} {a b : List FS}
end
end Go.Proofs.YtgjdcdhfijkoiaaDoor.Str
end
