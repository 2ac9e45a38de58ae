/- The names in a directory: the reference's words, and what they say (plain). -/
import Derived.Test.YtgjdcdhfijkoiaaDoorFiF
namespace Go.Proofs.YtgjdcdhfijkoiaaDoor.Str
open Go.RowKit Go.Proofs.YtgjdcdhfijkoiaaDoorW.PrintWords Go.Proofs.YtgjdcdhfijkoiaaDoorW.PrintLast Go.Proofs.YtgjdcdhfijkoiaaDoorW.PrintMore Go.Proofs.YtgjdcdhfijkoiaaDoor.Mem Go.Proofs.YtgjdcdhfijkoiaaDoor.PCod Go.Proofs.YtgjdcdhfijkoiaaDoor.Cod
set_option linter.unusedVariables false
set_option linter.unusedSimpArgs false
theorem namesF_ne : ∀ (k : Nat) (s : ByteArray), namesF k s ≠ []
  | 0, _ => by unfold namesF; simp
  | k + 1, s => by unfold namesF; split <;> simp
theorem namesF_none {s : ByteArray} (h : slashAt s < 0) : ∀ k, namesF k s = [s]
  | 0 => rfl
  | k + 1 => by unfold namesF; rw [if_pos h]
theorem names_cut (s : ByteArray) : ∃ t, namesB s = cutB s :: t ∧ decide (1 < (namesB s).length) = cutQ s := by
  by_cases h : slashAt s < 0
  · refine ⟨[], ?_, ?_⟩
    · unfold namesB cutB; rw [namesF_none h, if_pos h]
    · unfold namesB cutQ; rw [namesF_none h, decide_eq_false (show ¬ 0 ≤ slashAt s by omega)]; rfl
  · obtain ⟨o, ho⟩ : ∃ o : Nat, slashAt s = o := ⟨(slashAt s).toNat, by omega⟩
    have h2 := slash_lt ho
    obtain ⟨k, hk⟩ : ∃ k, s.size = k + 1 := ⟨s.size - 1, by omega⟩
    have e : namesB s = cutB s :: namesF k (s.extract ((slashAt s).toNat + 1) s.size) := by
      unfold namesB cutB
      rw [hk, if_neg h]
      conv => lhs; unfold namesF
      rw [if_neg h, ← hk]
    refine ⟨_, e, ?_⟩
    have hl : 0 < (namesF k (s.extract ((slashAt s).toNat + 1) s.size)).length := List.length_pos_iff.2 (namesF_ne _ _)
    rw [e, List.length_cons, decide_eq_true (show 1 < _ + 1 by omega)]
    unfold cutQ
    rw [decide_eq_true (show 0 ≤ slashAt s by omega)]
/-! ### none is a file's and a directory's, too -/
/-- Each name comes of a file. -/
def Of (l : List FS) (p : ByteArray) (z : List ByteArray × List Bool) : Prop :=
  z.1.length = z.2.length ∧ z.1.length ≤ l.length ∧ ∀ i, i < z.1.length → ∃ f ∈ l, pre f.f0 p = true ∧ z.1.getD i ByteArray.empty = cutB (restP p f.f0) ∧ z.2.getD i false = cutQ (restP p f.f0)
def fileIn (l : List FS) (p : ByteArray) : Bool := l.any (fun f => f.f0.toList == p.toList)
end Go.Proofs.YtgjdcdhfijkoiaaDoor.Str
