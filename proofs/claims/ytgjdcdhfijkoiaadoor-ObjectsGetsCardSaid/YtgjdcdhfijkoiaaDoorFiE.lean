/- Rows of structs that come in. -/
import Derived.Test.YtgjdcdhfijkoiaaDoorWWa
import Derived.Deep.Slices
import Derived.ChangeArms
import Derived.ChangeSlices
import Derived.WideShapes
import Derived.Deep.MidRow
section
namespace Go.Proofs.YtgjdcdhfijkoiaaDoor.Open
open Go.ChangeShapes Go.WideShapes Go.RowKit
set_option linter.unusedVariables false
set_option linter.unusedSimpArgs false
section
variable {H : Type} {enc : TypeId × Value → H} {P : Program} {w : World} {base : Nat} {spare : Nat → Bool} {held : Bool}
/-- A struct, loaded out of the middle of a row. -/
theorem exec_load_any {o : Oper} {ev : Operand → Value} (W : World) (ty : TypeId) (x : Operand) (ho : o.op = .load ty x) (ad : Addr) (hx : ev x = .pointer (some ad)) (cs : List Value) (d : TypeDesc) (hc : ∀ (j : Nat) (v : Value), cs[j]? = some v → W.cell? (ad.add j) = some v)
    (hu : P.underlying ty = some d) (hd : d.isRow = true) (hi : (P.info? ty).map (·.size) = some cs.length) : (execOp ev o).run P W = .ok (.value (.agg cs.toArray)) W := by
  have hl : (loadCells ad cs.length).run P W = .ok cs.toArray W := run_loadCells_list (P := P) W ad cs hc
  have hv : (loadVar ty ad).run P W = .ok (.agg cs.toArray) W := by
    cases hq : P.info? ty with
    | none => simp [hq] at hi
    | some i =>
      simp [hq] at hi
      have hagg : (isAgg ty).run P W = .ok true W := by
        cases d <;> simp_all [TypeDesc.isRow, isAgg, run_underlying hu]
      simp [loadVar, Sem.run_bind, hagg, sizeOf, typeInfo, hq, hi, hl]
  unfold execOp
  simp only [ho, hx, Instr.loadAt, Instr.sureAddr, Sem.run_bind, Sem.run_pure, Result.andThen_ok, hv]
/-- Pairs of numbers, in a row that came in. -/
def PairsAt (w : World) (A : Option Addr) (l : List (Int × Int)) : Prop := l.length ≤ 9223372036854775807 ∧ ∀ i, i < l.length → ∃ a : Addr, A = some a ∧ w.cell? (a.add (i * 2)) = some (.int .i64 (l.getD i (0, 0)).1) ∧ w.cell? (a.add (i * 2 + 1)) = some (.int .i64 (l.getD i (0, 0)).2)
def I64 (x : Int) : Prop := -9223372036854775808 ≤ x ∧ x ≤ 9223372036854775807
theorem PairsAt.below {w w' : World} {A : Option Addr} {l : List (Int × Int)} (h : PairsAt w A l) (hb : Below w.heap.size w w') : PairsAt w' A l := by
  refine ⟨h.1, fun i hi => ?_⟩
  obtain ⟨a, e, h1, h2⟩ := h.2 i hi
  exact ⟨a, e, (hb.cell (World.block_lt_of_cell? w _ h1)).trans h1, (hb.cell (World.block_lt_of_cell? w _ h2)).trans h2⟩
end
end Go.Proofs.YtgjdcdhfijkoiaaDoor.Open
end
section
namespace Go.Proofs.YtgjdcdhfijkoiaaDoor.Open
open Go.ChangeShapes Go.WideShapes Go.RowKit Go.Proofs.YtgjdcdhfijkoiaaDoorW.PrintWords
set_option linter.unusedVariables false
set_option linter.unusedSimpArgs false
section
variable {H : Type} {enc : TypeId × Value → H} {P : Program} {w : World} {base : Nat} {held : Bool}
/-- A number, a number, bytes. -/
structure Part where
  k : Int
  x : Int
  b : List Int
def Part.none : Part := ⟨0, 0, []⟩
/-- Parts, in a row that came in. -/
def PartsAt (w : World) (A : Option Addr) (l : List Part) : Prop := l.length ≤ 9223372036854775807 ∧ ∀ i, i < l.length → ∃ (a : Addr) (B : Option Addr) (c : Nat), A = some a ∧ w.cell? (a.add (i * 3)) = some (.int .i64 (l.getD i Part.none).k) ∧ w.cell? (a.add (i * 3 + 1)) = some (.int .u64 (l.getD i Part.none).x) ∧ w.cell? (a.add (i * 3 + 2)) = some (.slice B (l.getD i Part.none).b.length c) ∧ Kd.C (Kd.int .u8) w B (l.getD i Part.none).b.length (l.getD i Part.none).b ∧ (l.getD i Part.none).b.length ≤ c ∧ (l.getD i Part.none).b.length ≤ 9223372036854775807
theorem PartsAt.below {w w' : World} {A : Option Addr} {l : List Part} (h : PartsAt w A l) (hb : Below w.heap.size w w') : PartsAt w' A l := by
  refine ⟨h.1, fun i hi => ?_⟩
  obtain ⟨a, B, c, e, h1, h2, h3, h4, h5⟩ := h.2 i hi
  exact ⟨a, B, c, e, (hb.cell (World.block_lt_of_cell? w _ h1)).trans h1, (hb.cell (World.block_lt_of_cell? w _ h2)).trans h2, (hb.cell (World.block_lt_of_cell? w _ h3)).trans h3, Kd.C_below h4 hb, h5⟩
def U64 (x : Int) : Prop := 0 ≤ x ∧ x ≤ 18446744073709551615
def Part.Ok (p : Part) : Prop := I64 p.k ∧ U64 p.x ∧ ∀ y ∈ p.b, 0 ≤ y ∧ y ≤ 255
end
end Go.Proofs.YtgjdcdhfijkoiaaDoor.Open
end
