/- Rows of bytes, in a row that came in. -/
import Derived.Test.YtnajdnhgoakgaaaOpen2
namespace Go.Proofs.Ytnajdnhgoakgaaa.Open
open Go.ChangeShapes Go.WideShapes Go.RowKit Go.Proofs.YtnajdnhgoakgaaaW.PrintWords
set_option linter.unusedVariables false
set_option linter.unusedSimpArgs false
def RowsAt (w : World) (A : Option Addr) (l : List (List Int)) : Prop := l.length ≤ 9223372036854775807 ∧ ∀ i, i < l.length → ∃ (a : Addr) (B : Option Addr) (c : Nat), A = some a ∧ w.cell? (a.add i) = some (.slice B (l.getD i []).length c) ∧ Kd.C (Kd.int .u8) w B (l.getD i []).length (l.getD i []) ∧ (l.getD i []).length ≤ c ∧ (l.getD i []).length ≤ 9223372036854775807
theorem RowsAt.below {w w' : World} {A : Option Addr} {l : List (List Int)} (h : RowsAt w A l) (hb : Below w.heap.size w w') : RowsAt w' A l := by
  refine ⟨h.1, fun i hi => ?_⟩
  obtain ⟨a, B, c, e, h1, h2, h3⟩ := h.2 i hi
  exact ⟨a, B, c, e, (hb.cell (World.block_lt_of_cell? w _ h1)).trans h1, Kd.C_below h2 hb, h3⟩
section
variable {H : Type} {enc : TypeId × Value → H} {P : Program} {w : World} {base : Nat} {held : Bool}
theorem open_rows {t e te : TypeId} {A : Option Addr} {len cap : Nat} {d : DataW H} {p : List MemPlace} (ht : P.underlying t = some (.slice e)) (he : P.underlying e = some (.slice te)) (hte : P.underlying te = some (.int .u8)) (ce : P.cellsOf e = 1) (cte : P.cellsOf te = 1)
    (h : DataW.Trod enc P w base (fun _ => true) held t (.slice A len cap) d p) :
    ∃ l : List (List Int), len = l.length ∧ RowsAt w A l ∧ len ≤ cap ∧ ∀ q ∈ l, ∀ y ∈ q, 0 ≤ y ∧ y ≤ 255 := by
  obtain ⟨fuel, hq⟩ := h
  rcases Deep.open_slice ht hq with ⟨hc, _⟩ | ⟨a, ln, cp, m, n, D, Pl, hc, _, hl, hm, hmm, _, hx⟩
  · simp [Value.cells] at hc
    obtain ⟨rfl, rfl, rfl⟩ := hc
    exact ⟨[], rfl, ⟨by simp, fun i hi => by simp at hi⟩, Nat.le_refl _, fun q hq => by cases hq⟩
  · simp [Value.cells] at hc
    obtain ⟨rfl, rfl, rfl⟩ := hc
    have hx2 : ∀ i, i < len → ∃ q : List Int × Option Addr × Nat, w.cell? (a.add i) = some (.slice q.2.1 q.1.length q.2.2) ∧ Kd.C (Kd.int .u8) w q.2.1 q.1.length q.1 ∧ q.1.length ≤ q.2.2 ∧ q.1.length ≤ 9223372036854775807 ∧ ∀ y ∈ q.1, 0 ≤ y ∧ y ≤ 255 := by
      intro i hi
      obtain ⟨cs', h1, h2⟩ := hx i (by rw [hmm]; split <;> omega)
      rw [ce] at h1
      obtain ⟨_, hlen, hcell⟩ := World.cells?_some h1
      obtain ⟨u, rfl⟩ : ∃ u, cs' = [u] := by
        match cs', hlen with
        | [u], _ => exact ⟨u, rfl⟩
      obtain ⟨B, c, bs, rfl, h4, h5, h6, h7⟩ := open_bytes he hte cte h2
      have h8 := hcell 0 (by omega)
      rw [Deep.add_add, Nat.mul_one, Nat.add_zero] at h8
      exact ⟨(bs, B, c), h8, h4, h5, h6, h7⟩
    obtain ⟨f, hf2⟩ : ∃ f : Nat → List Int × Option Addr × Nat, ∀ i, i < len → w.cell? (a.add i) = some (.slice (f i).2.1 (f i).1.length (f i).2.2) ∧ Kd.C (Kd.int .u8) w (f i).2.1 (f i).1.length (f i).1 ∧ (f i).1.length ≤ (f i).2.2 ∧ (f i).1.length ≤ 9223372036854775807 ∧ ∀ y ∈ (f i).1, 0 ≤ y ∧ y ≤ 255 := by
      haveI : Inhabited (List Int × Option Addr × Nat) := ⟨([], none, 0)⟩
      exact Deep.choose_lt hx2
    refine ⟨(List.range len).map fun i => (f i).1, by simp, ⟨by simp; unfold maxLen at hm; omega, fun i hi => ⟨a, (f i).2.1, (f i).2.2, rfl, ?_⟩⟩, hl, fun q hq => ?_⟩
    · have hi' : i < len := by simpa using hi
      rw [List.getD_eq_getElem?_getD, List.getElem?_map, List.getElem?_range hi']
      have h := hf2 i hi'
      exact ⟨h.1, h.2.1, h.2.2.1, h.2.2.2.1⟩
    · obtain ⟨i, hi, rfl⟩ := List.mem_map.1 hq
      exact (hf2 i (List.mem_range.1 hi)).2.2.2.2
end
end Go.Proofs.Ytnajdnhgoakgaaa.Open
