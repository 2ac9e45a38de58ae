/- Rows of structs that come in. -/
import Derived.Test.YtnajdnhgoakgaaaWWa
import Derived.Deep.Slices
import Derived.ChangeArms
import Derived.ChangeSlices
import Derived.WideShapes
import Derived.Deep.MidRow
namespace Go.Proofs.Ytnajdnhgoakgaaa.Open
open Go.ChangeShapes Go.WideShapes Go.RowKit
set_option linter.unusedVariables false
set_option linter.unusedSimpArgs false
section
variable {H : Type} {enc : TypeId × Value → H} {P : Program} {w : World} {base : Nat} {spare : Nat → Bool} {held : Bool}
/-- A row of structs, each field of one cell: element by element, cell by cell. -/
theorem open_structs {t e : TypeId} {fs : Array Field} {nf : Nat} {A : Option Addr} {len cap : Nat} {d : DataW H} {p : List MemPlace} (ht : P.underlying t = some (.slice e)) (he : P.underlying e = some (.struct fs)) (ce : P.cellsOf e = nf) (hnf : fs.size = nf)
    (hf : ∀ (j : Nat) (f : Field), fs[j]? = some f → f.offset = j ∧ P.cellsOf f.type = 1) (h : DataW.Trod enc P w base spare held t (.slice A len cap) d p) :
    (A = none ∧ len = 0 ∧ cap = 0) ∨ ∃ a : Addr, A = some a ∧ len ≤ cap ∧ cap ≤ maxLen ∧ ∀ i, i < len → ∃ (vs : List Value) (n : Nat), vs.length = nf ∧ (∀ j, j < nf → w.cell? (a.add (i * nf + j)) = vs[j]?) ∧
      ∀ (j : Nat) (f : Field), fs[j]? = some f → ∃ x u, vs[j]? = some u ∧ DataW.trod enc P w base spare held n f.type [u] = some x := by
  obtain ⟨fuel, hq⟩ := h
  rcases Deep.open_slice ht hq with ⟨hc, _⟩ | ⟨a, ln, cp, m, n, D, Pl, hc, _, hl, hm, hmm, _, hx⟩
  · simp [Value.cells] at hc
    exact .inl hc
  · simp [Value.cells] at hc
    obtain ⟨rfl, rfl, rfl⟩ := hc
    refine .inr ⟨a, rfl, hl, hm, fun i hi => ?_⟩
    obtain ⟨cs', h1, h2⟩ := hx i (by rw [hmm]; split <;> omega)
    rw [ce] at h1
    obtain ⟨_, hlen, hcell⟩ := World.cells?_some h1
    obtain ⟨xs, k, hk, hxy, _, hxl, hff⟩ := DataW.trod_struct he h2
    refine ⟨cs', k, hlen, fun j hj => ?_, fun j f hjf => ?_⟩
    · have := hcell j hj
      rwa [Deep.add_add] at this
    · obtain ⟨ho, hc1⟩ := hf j f hjf
      have h3 := hff j f hjf
      have hjx : j < xs.length := by rw [hxl]; exact (Array.getElem?_eq_some_iff.1 hjf).1
      rw [ho, hc1, List.getElem?_eq_getElem hjx] at h3
      cases hd : (cs'.drop j).take 1 with
      | nil =>
        exfalso
        have := congrArg List.length hd
        rw [List.length_take, List.length_drop, List.length_nil] at this
        omega
      | cons u r =>
        have hr : r = [] := by
          have := congrArg List.length hd
          rw [List.length_take, List.length_cons] at this
          cases r with
          | nil => rfl
          | cons _ _ => simp only [List.length_cons] at this; omega
        subst hr
        have hu : cs'[j]? = some u := by
          have h4 : (cs'.drop j)[0]? = some u := by
            have h5 : ((cs'.drop j).take 1)[0]? = some u := by rw [hd]; rfl
            rwa [List.getElem?_take_of_lt (by omega)] at h5
          rwa [List.getElem?_drop] at h4
        rw [hd] at h3
        exact ⟨_, u, hu, h3⟩
/-- A struct, loaded out of the middle of a row. -/
theorem exec_load_any {o : Oper} {ev : Operand → Value} (W : World) (ty : TypeId) (x : Operand) (ho : o.op = .load ty x) (ad : Addr) (hx : ev x = .pointer (some ad)) (cs : List Value) (d : TypeDesc) (hc : ∀ (j : Nat) (v : Value), cs[j]? = some v → W.cell? (ad.add j) = some v)
    (hu : P.underlying ty = some d) (hd : d.isRow = true) (hi : (P.info? ty).map (·.size) = some cs.length) : (execOp ev o).run P W = .ok (.value (.agg cs.toArray)) W := by
  have hl : (loadCells ad cs.length).run P W = .ok cs.toArray W := run_loadCells_list (P := P) W ad cs hc
  have hv : (loadVar ty ad).run P W = .ok (.agg cs.toArray) W := by
    cases hq : P.info? ty with
    | none => simp [hq] at hi
    | some i =>
      simp [hq] at hi
      have hagg : (isAgg ty).run P W = .ok true W := by
        cases d <;> simp_all [TypeDesc.isRow, isAgg, run_underlying hu]
      simp [loadVar, Sem.run_bind, hagg, sizeOf, typeInfo, hq, hi, hl]
  unfold execOp
  simp only [ho, hx, Instr.loadAt, Instr.sureAddr, Sem.run_bind, Sem.run_pure, Result.andThen_ok, hv]
/-- Pairs of numbers, in a row that came in. -/
def PairsAt (w : World) (A : Option Addr) (l : List (Int × Int)) : Prop := l.length ≤ 9223372036854775807 ∧ ∀ i, i < l.length → ∃ a : Addr, A = some a ∧ w.cell? (a.add (i * 2)) = some (.int .i64 (l.getD i (0, 0)).1) ∧ w.cell? (a.add (i * 2 + 1)) = some (.int .i64 (l.getD i (0, 0)).2)
def I64 (x : Int) : Prop := -9223372036854775808 ≤ x ∧ x ≤ 9223372036854775807
theorem i64_of_wf {x : Int} (h : (Lit.int .i64 x).wf = true) : I64 x := by
  simpa [I64, Lit.wf, IntKind.min, IntKind.max, IntKind.signed, IntKind.bits] using h
theorem PairsAt.below {w w' : World} {A : Option Addr} {l : List (Int × Int)} (h : PairsAt w A l) (hb : Below w.heap.size w w') : PairsAt w' A l := by
  refine ⟨h.1, fun i hi => ?_⟩
  obtain ⟨a, e, h1, h2⟩ := h.2 i hi
  exact ⟨a, e, (hb.cell (World.block_lt_of_cell? w _ h1)).trans h1, (hb.cell (World.block_lt_of_cell? w _ h2)).trans h2⟩
end
end Go.Proofs.Ytnajdnhgoakgaaa.Open
