/- Rows of structs that hold rows of bytes. -/
import Derived.Test.YtnajdnhgoakgaaaOpen
namespace Go.Proofs.Ytnajdnhgoakgaaa.Open
open Go.ChangeShapes Go.WideShapes Go.RowKit Go.Proofs.YtnajdnhgoakgaaaW.PrintWords
set_option linter.unusedVariables false
set_option linter.unusedSimpArgs false
section
variable {H : Type} {enc : TypeId × Value → H} {P : Program} {w : World} {base : Nat} {held : Bool}
/-- A row of bytes that came in inside something. -/
theorem open_bytes {t e : TypeId} {u : Value} {n : Nat} {x : DataW H × List MemPlace} (ht : P.underlying t = some (.slice e)) (he : P.underlying e = some (.int .u8)) (hc : P.cellsOf e = 1) (h : DataW.trod enc P w base (fun _ => true) held n t [u] = some x) :
    ∃ (A : Option Addr) (cap : Nat) (bs : List Int), u = .slice A bs.length cap ∧ Kd.C (Kd.int .u8) w A bs.length bs ∧ bs.length ≤ cap ∧ bs.length ≤ 9223372036854775807 ∧ ∀ y ∈ bs, 0 ≤ y ∧ y ≤ 255 := by
  have hrow : ∃ (A : Option Addr) (len cap : Nat) (zs : List Int), u = .slice A len cap ∧ ((A = none ∧ len = 0 ∧ cap = 0 ∧ zs = []) ∨ ∃ x, A = some x ∧ len ≤ cap ∧ cap ≤ maxLen ∧ zs.length = cap ∧ (∀ i, i < zs.length → w.cell? (x.add i) = some (.int .u8 (zs.getD i 0))) ∧ ∀ n ∈ zs, (Lit.int .u8 n).wf = true) := by
    rcases open_ints ht he hc h with ⟨hcs, _⟩ | ⟨x, l, c, zs, hcs, _, hl, hm, hz, _, hcell, hwz⟩
    · simp only [List.cons.injEq, and_true] at hcs
      exact ⟨none, 0, 0, [], hcs, .inl ⟨rfl, rfl, rfl, rfl⟩⟩
    · simp only [List.cons.injEq, and_true] at hcs
      exact ⟨some x, l, c, zs, hcs, .inr ⟨x, rfl, hl, hm, by simpa using hz, hcell, hwz⟩⟩
  obtain ⟨A, len, cap, zs, rfl, hz⟩ := hrow
  obtain ⟨l0, rfl, hr0, hm0, hw0, hc0⟩ := ReadsInt.ofRowC hz
  refine ⟨A, cap, l0, rfl, Kd.C_of_reads (d := (0 : Int)) (h1 := fun _ => rfl) hr0, hc0, by unfold maxLen at hm0; omega, fun y hy => ?_⟩
  simpa [Lit.wf, IntKind.min, IntKind.max, IntKind.signed, IntKind.bits] using hw0 y hy
/-- A number, a number, bytes. -/
structure Part where
  k : Int
  x : Int
  b : List Int
def Part.none : Part := ⟨0, 0, []⟩
/-- Parts, in a row that came in. -/
def PartsAt (w : World) (A : Option Addr) (l : List Part) : Prop := l.length ≤ 9223372036854775807 ∧ ∀ i, i < l.length → ∃ (a : Addr) (B : Option Addr) (c : Nat), A = some a ∧ w.cell? (a.add (i * 3)) = some (.int .i64 (l.getD i Part.none).k) ∧ w.cell? (a.add (i * 3 + 1)) = some (.int .u64 (l.getD i Part.none).x) ∧ w.cell? (a.add (i * 3 + 2)) = some (.slice B (l.getD i Part.none).b.length c) ∧ Kd.C (Kd.int .u8) w B (l.getD i Part.none).b.length (l.getD i Part.none).b ∧ (l.getD i Part.none).b.length ≤ c ∧ (l.getD i Part.none).b.length ≤ 9223372036854775807
theorem PartsAt.below {w w' : World} {A : Option Addr} {l : List Part} (h : PartsAt w A l) (hb : Below w.heap.size w w') : PartsAt w' A l := by
  refine ⟨h.1, fun i hi => ?_⟩
  obtain ⟨a, B, c, e, h1, h2, h3, h4, h5⟩ := h.2 i hi
  exact ⟨a, B, c, e, (hb.cell (World.block_lt_of_cell? w _ h1)).trans h1, (hb.cell (World.block_lt_of_cell? w _ h2)).trans h2, (hb.cell (World.block_lt_of_cell? w _ h3)).trans h3, Kd.C_below h4 hb, h5⟩
def U64 (x : Int) : Prop := 0 ≤ x ∧ x ≤ 18446744073709551615
theorem u64_of_wf {x : Int} (h : (Lit.int .u64 x).wf = true) : U64 x := by
  simpa [U64, Lit.wf, IntKind.min, IntKind.max, IntKind.signed, IntKind.bits] using h
def Part.Ok (p : Part) : Prop := I64 p.k ∧ U64 p.x ∧ ∀ y ∈ p.b, 0 ≤ y ∧ y ≤ 255
theorem open_parts {t e ti tu tb te : TypeId} {f0 f1 f2 : Field} {A : Option Addr} {len cap : Nat} {d : DataW H} {p : List MemPlace} (ht : P.underlying t = some (.slice e)) (he : P.underlying e = some (.struct #[f0, f1, f2])) (ce : P.cellsOf e = 3)
    (o : f0.offset = 0 ∧ f1.offset = 1 ∧ f2.offset = 2) (t0 : f0.type = ti) (t1 : f1.type = tu) (t2 : f2.type = tb) (hti : P.underlying ti = some (.int .i64)) (htu : P.underlying tu = some (.int .u64)) (htb : P.underlying tb = some (.slice te)) (hte : P.underlying te = some (.int .u8)) (c0 : P.cellsOf ti = 1 ∧ P.cellsOf tu = 1 ∧ P.cellsOf tb = 1 ∧ P.cellsOf te = 1) (h : DataW.Trod enc P w base (fun _ => true) held t (.slice A len cap) d p) :
    ∃ l : List Part, len = l.length ∧ PartsAt w A l ∧ len ≤ cap ∧ ∀ q ∈ l, q.Ok := by
  have hf : ∀ (j : Nat) (f : Field), (#[f0, f1, f2] : Array Field)[j]? = some f → f.offset = j ∧ P.cellsOf f.type = 1 := by
    intro j f hj
    match j with
    | 0 => simp at hj; subst hj; exact ⟨o.1, by rw [t0, c0.1]⟩
    | 1 => simp at hj; subst hj; exact ⟨o.2.1, by rw [t1, c0.2.1]⟩
    | 2 => simp at hj; subst hj; exact ⟨o.2.2, by rw [t2, c0.2.2.1]⟩
    | j + 3 => simp at hj
  rcases open_structs ht he ce rfl hf h with ⟨rfl, rfl, rfl⟩ | ⟨a, rfl, hl, hm, hx⟩
  · exact ⟨[], rfl, ⟨by simp, fun i hi => by simp at hi⟩, Nat.le_refl _, fun q hq => by cases hq⟩
  · have hx2 : ∀ i, i < len → ∃ q : Part × Option Addr × Nat, w.cell? (a.add (i * 3)) = some (.int .i64 q.1.k) ∧ w.cell? (a.add (i * 3 + 1)) = some (.int .u64 q.1.x) ∧ w.cell? (a.add (i * 3 + 2)) = some (.slice q.2.1 q.1.b.length q.2.2) ∧ Kd.C (Kd.int .u8) w q.2.1 q.1.b.length q.1.b ∧ q.1.b.length ≤ q.2.2 ∧ q.1.b.length ≤ 9223372036854775807 ∧ q.1.Ok := by
      intro i hi
      obtain ⟨vs, n, hvl, hc, hfs⟩ := hx i hi
      obtain ⟨x0, u0, hu0, hd0⟩ := hfs 0 f0 rfl
      obtain ⟨x1, u1, hu1, hd1⟩ := hfs 1 f1 rfl
      obtain ⟨x2, u2, hu2, hd2⟩ := hfs 2 f2 rfl
      rw [t0] at hd0
      rw [t1] at hd1
      rw [t2] at hd2
      obtain ⟨n0, e0, _, w0⟩ := DataW.trod_int hti hd0
      obtain ⟨n1, e1, _, w1⟩ := DataW.trod_int htu hd1
      simp only [List.cons.injEq, and_true] at e0 e1
      subst e0 e1
      obtain ⟨B, c, bs, rfl, h4, h5, h6, h7⟩ := open_bytes htb hte c0.2.2.2 hd2
      exact ⟨(⟨n0, n1, bs⟩, B, c), (hc 0 (by omega)).trans hu0, (hc 1 (by omega)).trans hu1, (hc 2 (by omega)).trans hu2, h4, h5, h6, i64_of_wf w0, u64_of_wf w1, h7⟩
    obtain ⟨f, hf2⟩ : ∃ f : Nat → Part × Option Addr × Nat, ∀ i, i < len → w.cell? (a.add (i * 3)) = some (.int .i64 (f i).1.k) ∧ w.cell? (a.add (i * 3 + 1)) = some (.int .u64 (f i).1.x) ∧ w.cell? (a.add (i * 3 + 2)) = some (.slice (f i).2.1 (f i).1.b.length (f i).2.2) ∧ Kd.C (Kd.int .u8) w (f i).2.1 (f i).1.b.length (f i).1.b ∧ (f i).1.b.length ≤ (f i).2.2 ∧ (f i).1.b.length ≤ 9223372036854775807 ∧ (f i).1.Ok := by
      haveI : Inhabited (Part × Option Addr × Nat) := ⟨(Part.none, none, 0)⟩
      exact Deep.choose_lt hx2
    refine ⟨(List.range len).map fun i => (f i).1, by simp, ⟨by simp; unfold maxLen at hm; omega, fun i hi => ⟨a, (f i).2.1, (f i).2.2, rfl, ?_⟩⟩, hl, fun q hq => ?_⟩
    · have hi' : i < len := by simpa using hi
      rw [List.getD_eq_getElem?_getD, List.getElem?_map, List.getElem?_range hi']
      have h := hf2 i hi'
      exact ⟨h.1, h.2.1, h.2.2.1, h.2.2.2.1, h.2.2.2.2.1, h.2.2.2.2.2.1⟩
    · obtain ⟨i, hi, rfl⟩ := List.mem_map.1 hq
      exact (hf2 i (List.mem_range.1 hi)).2.2.2.2.2.2
end
end Go.Proofs.Ytnajdnhgoakgaaa.Open
