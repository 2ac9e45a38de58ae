/- Rows of six numbers that come in. -/
import Derived.Test.YtnajdnhgoakgaaaOpen
namespace Go.Proofs.Ytnajdnhgoakgaaa.Open
open Go.ChangeShapes Go.WideShapes Go.RowKit
set_option linter.unusedVariables false
set_option linter.unusedSimpArgs false
section
variable {H : Type} {enc : TypeId × Value → H} {P : Program} {w : World} {base : Nat} {spare : Nat → Bool} {held : Bool}
structure A6 where
  k : Int
  i : Int
  s : Int
  l : Int
  n : Int
  t : Int
def A6.none : A6 := ⟨0, 0, 0, 0, 0, 0⟩
def U8 (x : Int) : Prop := 0 ≤ x ∧ x ≤ 255
theorem u8_of_wf {x : Int} (h : (Lit.int .u8 x).wf = true) : U8 x := by
  simpa [U8, Lit.wf, IntKind.min, IntKind.max, IntKind.signed, IntKind.bits] using h
def A6.Ok (q : A6) : Prop := I64 q.k ∧ I64 q.i ∧ U8 q.s ∧ U8 q.l ∧ I64 q.n ∧ I64 q.t
def A6.At (q : A6) (w : World) (a : Addr) (b : Nat) : Prop := w.cell? (a.add b) = some (.int .i64 q.k) ∧ w.cell? (a.add (b + 1)) = some (.int .i64 q.i) ∧ w.cell? (a.add (b + 2)) = some (.int .u8 q.s) ∧ w.cell? (a.add (b + 3)) = some (.int .u8 q.l) ∧ w.cell? (a.add (b + 4)) = some (.int .i64 q.n) ∧ w.cell? (a.add (b + 5)) = some (.int .i64 q.t)
theorem A6.At.below {q : A6} {w w' : World} {a : Addr} {b : Nat} (h : q.At w a b) (hb : Below w.heap.size w w') : q.At w' a b := by
  obtain ⟨h0, h1, h2, h3, h4, h5⟩ := h
  exact ⟨(hb.cell (World.block_lt_of_cell? w _ h0)).trans h0, (hb.cell (World.block_lt_of_cell? w _ h1)).trans h1, (hb.cell (World.block_lt_of_cell? w _ h2)).trans h2, (hb.cell (World.block_lt_of_cell? w _ h3)).trans h3, (hb.cell (World.block_lt_of_cell? w _ h4)).trans h4, (hb.cell (World.block_lt_of_cell? w _ h5)).trans h5⟩
def ActsAt (w : World) (A : Option Addr) (l : List A6) : Prop := l.length ≤ 9223372036854775807 ∧ ∀ i, i < l.length → ∃ a : Addr, A = some a ∧ (l.getD i A6.none).At w a (i * 6)
theorem open_acts {t e ti tu : TypeId} {f0 f1 f2 f3 f4 f5 : Field} {A : Option Addr} {len cap : Nat} {d : DataW H} {p : List MemPlace} (ht : P.underlying t = some (.slice e)) (he : P.underlying e = some (.struct #[f0, f1, f2, f3, f4, f5])) (ce : P.cellsOf e = 6)
    (o : f0.offset = 0 ∧ f1.offset = 1 ∧ f2.offset = 2 ∧ f3.offset = 3 ∧ f4.offset = 4 ∧ f5.offset = 5) (ts : f0.type = ti ∧ f1.type = ti ∧ f2.type = tu ∧ f3.type = tu ∧ f4.type = ti ∧ f5.type = ti) (hti : P.underlying ti = some (.int .i64)) (htu : P.underlying tu = some (.int .u8)) (c0 : P.cellsOf ti = 1) (c1 : P.cellsOf tu = 1) (h : DataW.Trod enc P w base spare held t (.slice A len cap) d p) :
    ∃ l : List A6, len = l.length ∧ ActsAt w A l ∧ len ≤ cap ∧ ∀ q ∈ l, q.Ok := by
  obtain ⟨t0, t1, t2, t3, t4, t5⟩ := ts
  have hf : ∀ (j : Nat) (f : Field), (#[f0, f1, f2, f3, f4, f5] : Array Field)[j]? = some f → f.offset = j ∧ P.cellsOf f.type = 1 := by
    intro j f hj
    match j with
    | 0 => simp at hj; subst hj; exact ⟨o.1, by rw [t0, c0]⟩
    | 1 => simp at hj; subst hj; exact ⟨o.2.1, by rw [t1, c0]⟩
    | 2 => simp at hj; subst hj; exact ⟨o.2.2.1, by rw [t2, c1]⟩
    | 3 => simp at hj; subst hj; exact ⟨o.2.2.2.1, by rw [t3, c1]⟩
    | 4 => simp at hj; subst hj; exact ⟨o.2.2.2.2.1, by rw [t4, c0]⟩
    | 5 => simp at hj; subst hj; exact ⟨o.2.2.2.2.2, by rw [t5, c0]⟩
    | j + 6 => simp at hj
  rcases open_structs ht he ce rfl hf h with ⟨rfl, rfl, rfl⟩ | ⟨a, rfl, hl, hm, hx⟩
  · exact ⟨[], rfl, ⟨by simp, fun i hi => by simp at hi⟩, Nat.le_refl _, fun q hq => by cases hq⟩
  · have hx2 : ∀ i, i < len → ∃ q : A6, q.At w a (i * 6) ∧ q.Ok := by
      intro i hi
      obtain ⟨vs, n, hvl, hc, hfs⟩ := hx i hi
      obtain ⟨x0, u0, hu0, hd0⟩ := hfs 0 f0 rfl
      obtain ⟨x1, u1, hu1, hd1⟩ := hfs 1 f1 rfl
      obtain ⟨x2, u2, hu2, hd2⟩ := hfs 2 f2 rfl
      obtain ⟨x3, u3, hu3, hd3⟩ := hfs 3 f3 rfl
      obtain ⟨x4, u4, hu4, hd4⟩ := hfs 4 f4 rfl
      obtain ⟨x5, u5, hu5, hd5⟩ := hfs 5 f5 rfl
      rw [t0] at hd0
      rw [t1] at hd1
      rw [t2] at hd2
      rw [t3] at hd3
      rw [t4] at hd4
      rw [t5] at hd5
      obtain ⟨n0, e0, _, w0⟩ := DataW.trod_int hti hd0
      obtain ⟨n1, e1, _, w1⟩ := DataW.trod_int hti hd1
      obtain ⟨n2, e2, _, w2⟩ := DataW.trod_int htu hd2
      obtain ⟨n3, e3, _, w3⟩ := DataW.trod_int htu hd3
      obtain ⟨n4, e4, _, w4⟩ := DataW.trod_int hti hd4
      obtain ⟨n5, e5, _, w5⟩ := DataW.trod_int hti hd5
      simp only [List.cons.injEq, and_true] at e0 e1 e2 e3 e4 e5
      subst e0 e1 e2 e3 e4 e5
      exact ⟨⟨n0, n1, n2, n3, n4, n5⟩, ⟨(hc 0 (by omega)).trans hu0, (hc 1 (by omega)).trans hu1, (hc 2 (by omega)).trans hu2, (hc 3 (by omega)).trans hu3, (hc 4 (by omega)).trans hu4, (hc 5 (by omega)).trans hu5⟩, i64_of_wf w0, i64_of_wf w1, u8_of_wf w2, u8_of_wf w3, i64_of_wf w4, i64_of_wf w5⟩
    obtain ⟨f, hf2⟩ : ∃ f : Nat → A6, ∀ i, i < len → (f i).At w a (i * 6) ∧ (f i).Ok := by
      haveI : Inhabited A6 := ⟨A6.none⟩
      exact Deep.choose_lt hx2
    refine ⟨(List.range len).map f, by simp, ⟨by simp; unfold maxLen at hm; omega, fun i hi => ⟨a, rfl, ?_⟩⟩, hl, fun q hq => ?_⟩
    · have hi' : i < len := by simpa using hi
      rw [List.getD_eq_getElem?_getD, List.getElem?_map, List.getElem?_range hi']
      exact (hf2 i hi').1
    · obtain ⟨i, hi, rfl⟩ := List.mem_map.1 hq
      exact (hf2 i (List.mem_range.1 hi)).2
end
end Go.Proofs.Ytnajdnhgoakgaaa.Open
