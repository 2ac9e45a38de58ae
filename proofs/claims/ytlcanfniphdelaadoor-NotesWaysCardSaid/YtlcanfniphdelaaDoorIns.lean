/- Stores in a region whose order is drawn, each of which may come at any time: what holds of a map that is filled so. -/
import Derived.Test.YtlcanfniphdelaaDoorWMore
import Derived.Maps.RangeWalk
import Derived.Maps.Views
namespace Go.Proofs.YtlcanfniphdelaaDoor.Ins
open Go.RowKit Go.Maps Go.Proofs.YtlcanfniphdelaaDoorW.PrintWords Go.Proofs.YtlcanfniphdelaaDoorW.PrintLast
set_option linter.unusedVariables false
set_option linter.unusedSimpArgs false
/-- Which operations have come up: by bits. -/
def bm (n m : Nat) : Array Bool := ((List.range n).map fun i => m.testBit i).toArray
section
variable {P : Program} {md : Region.Mode} {ops : Array Oper} {Q : Exit → Act → World → Prop} {S : World → Prop} {ds : List Nat}
/-- 'subs': what may still be to do, all the ways; 'lay': what has come up then. -/
def insB (md : Region.Mode) (ops : Array Oper) (ds : List Nat) (subs : List (List Nat)) (lay : List Nat → Array Bool) : Bool :=
  subs.all fun J => J.isEmpty || (Region.ready md ops (lay J) == J && J.all fun i => ((lay J).setIfInBounds i true == lay (J.erase i)) && subs.contains (J.erase i))
theorem inserts_ {a : Act} {f : Nat} (subs : List (List Nat)) (lay : List Nat → Array Bool) (M : List Nat → World → Prop) (hc : insB md ops ds subs lay = true)
    (hstep : ∀ J ∈ subs, ∀ i ∈ J, ∀ w, M J w → S w → ∃ oi w1, ops[i]? = some oi ∧ Region.wanted oi (yielded ops a.tmps) = true ∧ oi.dst = none ∧ (execOp a.eval oi).run P w = .ok .skip w1 ∧ M (J.erase i) w1 ∧ S w1)
    (hend : ∀ w, M [] w → S w → wpAnyLast P md ops Q S ds f (lay []) (a.put none undef) w) (ha : a.put none undef = a) :
    ∀ (n : Nat) (J : List Nat), J ∈ subs → J.length = n → ∀ w, M J w → S w → wpAnyLast P md ops Q S ds (n + f) (lay J) a w := by
  intro n
  induction n with
  | zero =>
    intro J _ hl w hM hS
    have e : J = [] := List.length_eq_zero_iff.1 hl
    subst e
    have h := hend w hM hS
    rw [ha] at h
    rw [Nat.zero_add]
    exact h
  | succ n ih =>
    intro J hJ hl w hM hS
    have h1 := List.all_eq_true.1 hc J hJ
    have hne : J ≠ [] := fun e => by rw [e] at hl; simp at hl
    have hne2 : J.isEmpty = false := by cases J <;> simp_all
    rw [hne2, Bool.false_or, Bool.and_eq_true, beq_iff_eq] at h1
    obtain ⟨h2, h3⟩ := h1
    rw [show n + 1 + f = (n + f) + 1 by omega]
    refine wpAnyLast_ready h2 hne (fun i hi => ?_)
    have h4 := List.all_eq_true.1 h3 i hi
    rw [Bool.and_eq_true, beq_iff_eq] at h4
    obtain ⟨h5, h6⟩ := h4
    obtain ⟨oi, w1, ho, hw, hd, hrun, hM1, hS1⟩ := hstep J hJ i hi w hM hS
    refine wpOp_step ho (fun K hK => ?_)
    have hx : K (a.put none undef) w1 := by
      refine hK _ _ ⟨fun _ _ => hS1, ?_⟩
      rw [h5, ha]
      exact ih (J.erase i) (by simpa using h6) (by rw [List.length_erase_of_mem hi]; omega) w1 hM1 hS1
    have hx2 := skip_ (P := P) (ops := ops) (Q := Q) (oi := oi) (a := a) (w := w) (K := K) hw hd hrun hx
    rw [hd]
    exact hx2
end
end Go.Proofs.YtlcanfniphdelaaDoor.Ins
