/- Which of a note's fields aren't nothing: over a map literal whose order is drawn. -/
import Derived.Test.YtlcanfniphdelaaDoorCodA
import Derived.Test.YtlcanfniphdelaaDoorIns
namespace Go.Proofs.YtlcanfniphdelaaDoor.Not
open Go.RowKit Go.Maps Go.Proofs.YtlcanfniphdelaaDoorW.PrintWords Go.Proofs.YtlcanfniphdelaaDoorW.PrintLast Go.Proofs.YtlcanfniphdelaaDoorW.PrintMore Go.Proofs.YtlcanfniphdelaaDoor.Mem Go.Proofs.YtlcanfniphdelaaDoor.Cod Go.Proofs.YtlcanfniphdelaaDoor.Ins
set_option linter.unusedVariables false
set_option linter.unusedSimpArgs false
section
variable {H : Type}
/-! ### the map's entries, by the operations that lay them -/
def alls : List Nat := [5, 9, 13, 18, 23]
def keyN (i : Nat) : Int := if i = 5 then 1 else if i = 9 then 2 else if i = 13 then 4 else if i = 18 then 8 else 16
def keyL (i : Nat) : Lit := .int .i64 (keyN i)
theorem keyN_inj : ∀ i ∈ alls, ∀ j ∈ alls, keyN i = keyN j → i = j := by decide
theorem key_wf : ∀ i ∈ alls, (Lit.int .i64 (keyN i)).wf = true := by decide
/-- What of it has been laid: all but J. -/
structure MD (v : Nat → Bool) (J : List Nat) (D : DataW H) : Prop where
  m : IsMap D
  has : ∀ kl, has D kl = true → ∃ i ∈ alls, i ∉ J ∧ kl = keyL i
  at_ : ∀ i ∈ alls, i ∉ J → Maps.has D (keyL i) = true ∧ ∀ z, D.atKey (keyL i) z = .lit (.bool (v i))
theorem MD.start (v : Nat → Bool) : MD v alls (.map [] : DataW H) :=
  ⟨isMap_empty, fun kl h => by simp [Maps.has] at h, fun i h1 h2 => absurd h1 h2⟩
theorem keyL_is (i : Nat) (hi : i ∈ alls) : WideAt.IsKeyLit (keyL i) := by
  simp only [alls, List.mem_cons, List.not_mem_nil, or_false] at hi
  rcases hi with rfl | rfl | rfl | rfl | rfl <;> simp [WideAt.IsKeyLit, keyL]
theorem MD.put {v : Nat → Bool} {J : List Nat} {D : DataW H} (h : MD v J D) (hJ : J.Nodup) {i : Nat} (hi : i ∈ J) (ha : i ∈ alls) : MD v (J.erase i) (D.put (keyL i) (.lit (.bool (v i)))) := by
  have hk := keyL_is i ha
  have hne : ∀ j ∈ alls, j ≠ i → keyL j ≠ keyL i := fun j hj hji e => hji (keyN_inj j hj i ha (by simpa [keyL] using e))
  refine ⟨h.m.put _ _, fun kl hkl => ?_, fun j hj hn => ?_⟩
  · by_cases e : kl = keyL i
    · exact ⟨i, ha, hJ.not_mem_erase, e⟩
    · rw [has_put_other e] at hkl
      obtain ⟨j, h1, h2, h3⟩ := h.has kl hkl
      exact ⟨j, h1, fun hm => h2 (List.mem_of_mem_erase hm), h3⟩
  · by_cases e : j = i
    · subst e
      exact ⟨has_put_same h.m hk _, fun z => atKey_put_same h.m hk _ z⟩
    · have hjn : j ∉ J := fun hm => hn ((List.mem_erase_of_ne e).2 hm)
      have h2 := h.at_ j hj hjn
      exact ⟨(has_put_other (hne j hj e) _).trans h2.1, fun z => (atKey_put_other (hne j hj e) _ z).trans (h2.2 z)⟩
end
end Go.Proofs.YtlcanfniphdelaaDoor.Not
