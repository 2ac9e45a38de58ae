/- 'awake' of layer 1. -/
import Derived.Test.YtlcanfniphdelaaDoorCodJ
import Derived.Test.YtlcanfniphdelaaDoorConv
import Derived.ChangeKeysEq
namespace Go.Proofs.YtlcanfniphdelaaDoor.Cod
open Go.RowKit Go.Proofs.YtlcanfniphdelaaDoorW.PrintWords Go.Proofs.YtlcanfniphdelaaDoorW.PrintLast Go.Proofs.YtlcanfniphdelaaDoorW.PrintMore Go.Proofs.YtlcanfniphdelaaDoor.Mem Go.Proofs.YtlcanfniphdelaaDoor.PCod Go.Proofs.YtlcanfniphdelaaDoor.Conv
set_option linter.unusedVariables false
set_option linter.unusedSimpArgs false
section
variable {w : World} {R : RM} {b r xs : List Int}
theorem own_at {w : World} {e base : Nat} {ok : Nat → Prop} {v : Value} {xs : List Int} (h : Kd.R (Kd.int .u8) e w base ok v xs) (hn : 0 < xs.length) : ∃ b c, v = .slice (some ⟨b, 0, none⟩) xs.length c ∧ base ≤ b ∧ b < w.heap.size ∧ ok b ∧ xs.length ≤ c ∧ ∀ i : Nat, i < xs.length → w.cell? ⟨b, i, none⟩ = some (.int .u8 (rd xs i)) := by
  obtain ⟨A, c, rfl, hc, hC⟩ := Kd.R_reads h
  have hB := Kd.R_bound h
  obtain ⟨h0, inner, ho, hr⟩ := h
  rcases ho.2 with ⟨h2, _⟩ | ⟨g, cap, cur, h2, hg, hh, r⟩
  · injection h2 with _ h3 _
    omega
  · injection h2 with h3 h4 h5
    subst h3
    refine ⟨g, c, rfl, hg, blk_lt hh, h0 g (by simp [Value.ownBlock]), hc, fun i hi => ?_⟩
    obtain ⟨ad, e1, e2⟩ := Kd.at_int hC i (by omega) (by omega)
    cases e1
    rw [← e2]
    congr 1
    unfold Addr.add
    split <;> simp_all
/-- A row as a string, in any later world. -/
theorem conv_row {w wd : World} {A : Option Addr} {c : Nat} {n : Nat} {xs : List Int} (hn : n = xs.length) (h : Kd.C (Kd.int .u8) w A xs.length xs) (hb : Below w.heap.size w wd) :
    (convert 25 9 (.slice A n c)).run Tryd.prog wd = .ok (.string (S xs)) wd := by
  subst hn
  exact Kd.C_string (P := Tryd.prog) (w := wd) (src := 25) (dst := 9) (e := 5) Tryd.underlying25 Tryd.underlying5 Tryd.underlying9 (Kd.C_below h hb)
theorem awk_b : ([] ++ putNum 300 ++ [bit true] ++ putNum (([120, 121] : List Int).length : Int) ++ [120, 121]) = [172, 2, 1, 2, 120, 121] := by kernel_rfl
theorem awk_u : (⟨[172, 2, 1, 2, 120, 121], 0⟩ : RM).uint = (⟨[1, 2, 120, 121], 0⟩, 300) := by kernel_rfl
theorem awk_o : (⟨[1, 2, 120, 121], 0⟩ : RM).bool = (⟨[2, 120, 121], 0⟩, true) := by kernel_rfl
theorem awk_y : (⟨[2, 120, 121], 0⟩ : RM).bytes 5 = (⟨[], 0⟩, [120, 121]) := by kernel_rfl
theorem awk_e : (⟨[], 0⟩ : RM).end_ = 0 := by kernel_rfl
theorem awk_l : (⟨[1], 0⟩ : RM).end_ = 12 := by kernel_rfl
theorem awk_s : (S [120, 121]).toList = [120, 121] := by kernel_rfl
theorem byt2 : Byt [120, 121] := by intro x hx; simp at hx; omega
theorem byt1 : Byt [1] := by intro x hx; simp at hx; omega
theorem byt6 : Byt [172, 2, 1, 2, 120, 121] := by intro x hx; simp at hx; omega
/-- A row that came in, as it is read. -/
def InRow (w : World) (a : Option Addr) (len cap : Nat) (zs : List Int) : Prop :=
  (a = none ∧ len = 0 ∧ cap = 0 ∧ zs = []) ∨
  ∃ x, a = some x ∧ len ≤ cap ∧ cap ≤ maxLen ∧ zs.length = cap ∧ (∀ i, i < zs.length → w.cell? (x.add i) = some (.int .u8 (zs.getD i 0))) ∧ ∀ n ∈ zs, (Lit.int .u8 n).wf = true
theorem row_bytes {a : Option Addr} {len cap : Nat} {zs : List Int} (h : InRow w a len cap zs) (hl : len * 1 ≤ 140737488351232) : ∃ xs, len = xs.length ∧ Kd.C (Kd.int .u8) w a xs.length xs ∧ len ≤ cap ∧ len < 140737488355328 ∧ Byt xs := by
  obtain ⟨l0, rfl, hr0, hm0, hw0, hc0⟩ := ReadsInt.ofRowC h
  exact ⟨l0, rfl, Kd.C_of_reads (d := (0 : Int)) (h1 := fun _ => rfl) hr0, hc0, by omega, byt_of_wf hw0⟩
/-! ### digests, compared -/
theorem plain_u8 : Tryd.prog.plainKey 5 = true := by kernel_rfl
theorem cells_u8 : Tryd.prog.cellsOf 5 = 1 := by kernel_rfl
theorem items_eq (W : World) (a b : List Int) : ∀ is : List Nat, (∀ j ∈ is, j < a.length ∧ j < b.length) →
    (Op.eqItems 9999 5 (Tryd.prog.cellsOf 5) (nums .u8 a).toArray (nums .u8 b).toArray is).run Tryd.prog W = .ok (is.all fun j => a.getD j 0 == b.getD j 0) W := by
  intro is
  induction is with
  | nil => intro _; simp [Op.eqItems]
  | cons j is ih =>
    intro h
    have hj := h j List.mem_cons_self
    have e : ∀ l : List Int, j < l.length → (nums .u8 l).toArray[j * Tryd.prog.cellsOf 5]? = some (.int .u8 (l.getD j 0)) := fun l hl => by
      rw [cells_u8, Nat.mul_one, List.getElem?_toArray]
      unfold nums
      rw [List.getElem?_map, List.getElem?_eq_getElem hl, List.getD_eq_getElem?_getD, List.getElem?_eq_getElem hl]
      rfl
    simp only [Op.eqItems, Sem.run_bind, run_part_plain W plain_u8 (e a hj.1), run_part_plain W plain_u8 (e b hj.2), Result.andThen_ok, run_equalIn_int W 9998 5 .u8 .u8 (a.getD j 0) (b.getD j 0) Tryd.underlying5, List.all_cons]
    cases hq : (a.getD j 0 == b.getD j 0)
    · simp
    · simp only [Bool.not_true, Bool.false_eq_true, if_false, Bool.true_and]
      exact ih (fun k hk => h k (List.mem_cons_of_mem _ hk))
theorem eq_id (a b : List Int) (ha : a.length = 32) (hb : b.length = 32) (W : World) : (Op.equalIn 10000 23 (.agg (nums .u8 a).toArray) (.agg (nums .u8 b).toArray)).run Tryd.prog W = .ok (a == b) W := by
  obtain ⟨i, hi, _⟩ := Option.map_eq_some_iff.1 info_u8s
  rw [run_equalIn_array W 9999 _ _ Tryd.underlying23 hi, items_eq W a b (List.range 32) (fun j hj => by have := List.mem_range.1 hj; omega)]
  congr 1
  rw [Bool.eq_iff_iff, List.all_eq_true, beq_iff_eq]
  constructor
  · intro h
    apply List.ext_getElem (by omega)
    intro j h1 h2
    have h3 := h j (List.mem_range.2 (by omega))
    rw [beq_iff_eq, List.getD_eq_getElem?_getD, List.getD_eq_getElem?_getD, List.getElem?_eq_getElem h1, List.getElem?_eq_getElem h2] at h3
    exact h3
  · intro h j _
    rw [h]; simp
end
end Go.Proofs.YtlcanfniphdelaaDoor.Cod
