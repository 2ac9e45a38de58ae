/- The order of paths, and what stands in front of a path. -/
import Derived.Test.YtgjdcdhfijkoiaaDoorFiC
import Derived.Test.YtgjdcdhfijkoiaaDoorCoB
section
namespace Go.Proofs.YtgjdcdhfijkoiaaDoor.Str
open Go.RowKit Go.Proofs.YtgjdcdhfijkoiaaDoorW.PrintWords Go.Proofs.YtgjdcdhfijkoiaaDoorW.PrintLast Go.Proofs.YtgjdcdhfijkoiaaDoorW.PrintMore Go.Proofs.YtgjdcdhfijkoiaaDoor.Mem Go.Proofs.YtgjdcdhfijkoiaaDoor.PCod Go.Proofs.YtgjdcdhfijkoiaaDoor.Cod
set_option linter.unusedVariables false
set_option linter.unusedSimpArgs false
theorem bt_tl (s : ByteArray) (k : Nat) : bt s k = 47 ↔ (tl s)[k]? = some 47 := by
  have hz := tl_size s
  by_cases h : k < s.size
  · have h1 := bt_at s (k : Int) (by simpa using h)
    rw [← h1]
    have e : (tl s)[k]? = some (s[k]'h) := by
      unfold tl
      rw [Array.getElem?_toList]
      exact Array.getElem?_eq_getElem (xs := s.data) (by exact h)
    rw [e]
    have e2 : (s[(k : Int).toNat]'(by simpa using h)) = s[k]'h := rfl
    rw [e2]
    constructor
    · intro h2
      refine congrArg some (UInt8.toNat_inj.1 ?_)
      show (s[k]'h).toNat = 47
      omega
    · intro h2
      rw [Option.some.inj h2]
      rfl
  · rw [List.getElem?_eq_none (by omega)]
    constructor
    · intro h2
      unfold bt at h2
      rw [dif_neg (by simpa using h)] at h2
      omega
    · intro h2; cases h2
/-- Is the first text, with a slash behind it, the front of the second? -/
def Fro (a b : List UInt8) : Prop := ∃ r, b = a ++ 47 :: r
theorem fro_iff (a b : List UInt8) : Fro a b ↔ b[a.length]? = some 47 ∧ b.take a.length = a := by
  constructor
  · rintro ⟨r, rfl⟩
    exact ⟨by rw [List.getElem?_append_right (Nat.le_refl _), Nat.sub_self]; rfl, List.take_left⟩
  · rintro ⟨h1, h2⟩
    obtain ⟨h3, h4⟩ := List.getElem?_eq_some_iff.1 h1
    refine ⟨b.drop (a.length + 1), ?_⟩
    conv => lhs; rw [← List.take_append_drop a.length b, h2, List.drop_eq_getElem_cons h3, h4]
end Go.Proofs.YtgjdcdhfijkoiaaDoor.Str
end
section
namespace Go.Proofs.YtgjdcdhfijkoiaaDoor.Str
open Go.RowKit Go.Proofs.YtgjdcdhfijkoiaaDoorW.PrintWords Go.Proofs.YtgjdcdhfijkoiaaDoorW.PrintLast Go.Proofs.YtgjdcdhfijkoiaaDoorW.PrintMore Go.Proofs.YtgjdcdhfijkoiaaDoor.Mem Go.Proofs.YtgjdcdhfijkoiaaDoor.PCod Go.Proofs.YtgjdcdhfijkoiaaDoor.Cod
set_option linter.unusedVariables false
set_option linter.unusedSimpArgs false
section
variable {w : World}
end
end Go.Proofs.YtgjdcdhfijkoiaaDoor.Str
end
section
namespace Go.Proofs.YtgjdcdhfijkoiaaDoor.Str
open Go.RowKit Go.Proofs.YtgjdcdhfijkoiaaDoorW.PrintWords Go.Proofs.YtgjdcdhfijkoiaaDoorW.PrintLast Go.Proofs.YtgjdcdhfijkoiaaDoorW.PrintMore Go.Proofs.YtgjdcdhfijkoiaaDoor.Mem Go.Proofs.YtgjdcdhfijkoiaaDoor.PCod Go.Proofs.YtgjdcdhfijkoiaaDoor.Cod
set_option linter.unusedVariables false
set_option linter.unusedSimpArgs false
section
variable {w : World}
end
end Go.Proofs.YtgjdcdhfijkoiaaDoor.Str
end
section
namespace Go.Proofs.YtgjdcdhfijkoiaaDoor.Str
open Go.RowKit Go.Proofs.YtgjdcdhfijkoiaaDoorW.PrintWords Go.Proofs.YtgjdcdhfijkoiaaDoorW.PrintLast Go.Proofs.YtgjdcdhfijkoiaaDoorW.PrintMore Go.Proofs.YtgjdcdhfijkoiaaDoor.Mem Go.Proofs.YtgjdcdhfijkoiaaDoor.PCod Go.Proofs.YtgjdcdhfijkoiaaDoor.Cod
set_option linter.unusedVariables false
set_option linter.unusedSimpArgs false
/-- Files as Check lets them pass. -/
def Small (f : FS) : Prop := f.f0.size ≤ 255 ∧ f.f1.length ≤ 1048576 ∧ Byt f.f1
end Go.Proofs.YtgjdcdhfijkoiaaDoor.Str
end
