/- The script's acts: number, number, bytes, number, number. -/
import Derived.Test.YtnajdnhgoakgaaaOpen2
namespace Go.Proofs.Ytnajdnhgoakgaaa.Open
open Go.ChangeShapes Go.WideShapes Go.RowKit Go.Proofs.YtnajdnhgoakgaaaW.PrintWords
set_option linter.unusedVariables false
set_option linter.unusedSimpArgs false
structure A9 where
  k : Int
  i : Int
  b : List Int
  n : Int
  t : Int
def A9.none : A9 := ⟨0, 0, [], 0, 0⟩
def A9.Ok (p : A9) : Prop := I64 p.k ∧ I64 p.i ∧ I64 p.n ∧ I64 p.t ∧ ∀ y ∈ p.b, 0 ≤ y ∧ y ≤ 255
def A9.At (q : A9) (w : World) (a : Addr) (b : Nat) (B : Option Addr) (c : Nat) : Prop := w.cell? (a.add b) = some (.int .i64 q.k) ∧ w.cell? (a.add (b + 1)) = some (.int .i64 q.i) ∧ w.cell? (a.add (b + 2)) = some (.slice B q.b.length c) ∧ w.cell? (a.add (b + 3)) = some (.int .i64 q.n) ∧ w.cell? (a.add (b + 4)) = some (.int .i64 q.t) ∧ Kd.C (Kd.int .u8) w B q.b.length q.b ∧ q.b.length ≤ c ∧ q.b.length ≤ 9223372036854775807
theorem A9.At.below {q : A9} {w w' : World} {a : Addr} {b : Nat} {B : Option Addr} {c : Nat} (h : q.At w a b B c) (hb : Below w.heap.size w w') : q.At w' a b B c := by
  obtain ⟨h0, h1, h2, h3, h4, h5, h6⟩ := h
  exact ⟨(hb.cell (World.block_lt_of_cell? w _ h0)).trans h0, (hb.cell (World.block_lt_of_cell? w _ h1)).trans h1, (hb.cell (World.block_lt_of_cell? w _ h2)).trans h2, (hb.cell (World.block_lt_of_cell? w _ h3)).trans h3, (hb.cell (World.block_lt_of_cell? w _ h4)).trans h4, Kd.C_below h5 hb, h6⟩
def Acts9At (w : World) (A : Option Addr) (l : List A9) : Prop := l.length ≤ 9223372036854775807 ∧ ∀ i, i < l.length → ∃ (a : Addr) (B : Option Addr) (c : Nat), A = some a ∧ (l.getD i A9.none).At w a (i * 5) B c
theorem Acts9At.below {w w' : World} {A : Option Addr} {l : List A9} (h : Acts9At w A l) (hb : Below w.heap.size w w') : Acts9At w' A l := by
  refine ⟨h.1, fun i hi => ?_⟩
  obtain ⟨a, B, c, e, h1⟩ := h.2 i hi
  exact ⟨a, B, c, e, h1.below hb⟩
section
variable {H : Type} {enc : TypeId × Value → H} {P : Program} {w : World} {base : Nat} {held : Bool}
theorem open_acts9 {t e ti tb te : TypeId} {f0 f1 f2 f3 f4 : Field} {A : Option Addr} {len cap : Nat} {d : DataW H} {p : List MemPlace} (ht : P.underlying t = some (.slice e)) (he : P.underlying e = some (.struct #[f0, f1, f2, f3, f4])) (ce : P.cellsOf e = 5)
    (o : f0.offset = 0 ∧ f1.offset = 1 ∧ f2.offset = 2 ∧ f3.offset = 3 ∧ f4.offset = 4) (ts : f0.type = ti ∧ f1.type = ti ∧ f2.type = tb ∧ f3.type = ti ∧ f4.type = ti) (hti : P.underlying ti = some (.int .i64)) (htb : P.underlying tb = some (.slice te)) (hte : P.underlying te = some (.int .u8)) (c0 : P.cellsOf ti = 1 ∧ P.cellsOf tb = 1 ∧ P.cellsOf te = 1) (h : DataW.Trod enc P w base (fun _ => true) held t (.slice A len cap) d p) :
    ∃ l : List A9, len = l.length ∧ Acts9At w A l ∧ len ≤ cap ∧ ∀ q ∈ l, q.Ok := by
  obtain ⟨t0, t1, t2, t3, t4⟩ := ts
  have hf : ∀ (j : Nat) (f : Field), (#[f0, f1, f2, f3, f4] : Array Field)[j]? = some f → f.offset = j ∧ P.cellsOf f.type = 1 := by
    intro j f hj
    match j with
    | 0 => simp at hj; subst hj; exact ⟨o.1, by rw [t0, c0.1]⟩
    | 1 => simp at hj; subst hj; exact ⟨o.2.1, by rw [t1, c0.1]⟩
    | 2 => simp at hj; subst hj; exact ⟨o.2.2.1, by rw [t2, c0.2.1]⟩
    | 3 => simp at hj; subst hj; exact ⟨o.2.2.2.1, by rw [t3, c0.1]⟩
    | 4 => simp at hj; subst hj; exact ⟨o.2.2.2.2, by rw [t4, c0.1]⟩
    | j + 5 => simp at hj
  rcases open_structs ht he ce rfl hf h with ⟨rfl, rfl, rfl⟩ | ⟨a, rfl, hl, hm, hx⟩
  · exact ⟨[], rfl, ⟨by simp, fun i hi => by simp at hi⟩, Nat.le_refl _, fun q hq => by cases hq⟩
  · have hx2 : ∀ i, i < len → ∃ q : A9 × Option Addr × Nat, q.1.At w a (i * 5) q.2.1 q.2.2 ∧ q.1.Ok := by
      intro i hi
      obtain ⟨vs, n, hvl, hc, hfs⟩ := hx i hi
      obtain ⟨x0, u0, hu0, hd0⟩ := hfs 0 f0 rfl
      obtain ⟨x1, u1, hu1, hd1⟩ := hfs 1 f1 rfl
      obtain ⟨x2, u2, hu2, hd2⟩ := hfs 2 f2 rfl
      obtain ⟨x3, u3, hu3, hd3⟩ := hfs 3 f3 rfl
      obtain ⟨x4, u4, hu4, hd4⟩ := hfs 4 f4 rfl
      rw [t0] at hd0
      rw [t1] at hd1
      rw [t2] at hd2
      rw [t3] at hd3
      rw [t4] at hd4
      obtain ⟨n0, e0, _, w0⟩ := DataW.trod_int hti hd0
      obtain ⟨n1, e1, _, w1⟩ := DataW.trod_int hti hd1
      obtain ⟨n3, e3, _, w3⟩ := DataW.trod_int hti hd3
      obtain ⟨n4, e4, _, w4⟩ := DataW.trod_int hti hd4
      simp only [List.cons.injEq, and_true] at e0 e1 e3 e4
      subst e0 e1 e3 e4
      obtain ⟨B, c, bs, rfl, h4, h5, h6, h7⟩ := open_bytes htb hte c0.2.2 hd2
      exact ⟨(⟨n0, n1, bs, n3, n4⟩, B, c), ⟨(hc 0 (by omega)).trans hu0, (hc 1 (by omega)).trans hu1, (hc 2 (by omega)).trans hu2, (hc 3 (by omega)).trans hu3, (hc 4 (by omega)).trans hu4, h4, h5, h6⟩, i64_of_wf w0, i64_of_wf w1, i64_of_wf w3, i64_of_wf w4, h7⟩
    obtain ⟨f, hf2⟩ : ∃ f : Nat → A9 × Option Addr × Nat, ∀ i, i < len → (f i).1.At w a (i * 5) (f i).2.1 (f i).2.2 ∧ (f i).1.Ok := by
      haveI : Inhabited (A9 × Option Addr × Nat) := ⟨(A9.none, none, 0)⟩
      exact Deep.choose_lt hx2
    refine ⟨(List.range len).map fun i => (f i).1, by simp, ⟨by simp; unfold maxLen at hm; omega, fun i hi => ⟨a, (f i).2.1, (f i).2.2, rfl, ?_⟩⟩, hl, fun q hq => ?_⟩
    · have hi' : i < len := by simpa using hi
      rw [List.getD_eq_getElem?_getD, List.getElem?_map, List.getElem?_range hi']
      exact (hf2 i hi').1
    · obtain ⟨i, hi, rfl⟩ := List.mem_map.1 hq
      exact (hf2 i (List.mem_range.1 hi)).2
end
end Go.Proofs.Ytnajdnhgoakgaaa.Open
