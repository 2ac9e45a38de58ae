/- Rows of structs that come in. -/
import Derived.Test.YtgjdcdhfijkoiaaDoorWWa
import Derived.Deep.Slices
import Derived.ChangeArms
import Derived.ChangeSlices
import Derived.WideShapes
import Derived.Deep.MidRow
import Derived.Test.YtgjdcdhfijkoiaaDoorFiD
import Derived.OpenShut
import Derived.ShutString
import Derived.Lib.SmallJoins
section
namespace Go.Proofs.YtgjdcdhfijkoiaaDoor.Open
open Go.ChangeShapes Go.WideShapes Go.RowKit
set_option linter.unusedVariables false
set_option linter.unusedSimpArgs false
section
variable {H : Type} {enc : TypeId × Value → H} {P : Program} {w : World} {base : Nat} {spare : Nat → Bool} {held : Bool}
/-- A row of structs, each field of one cell: element by element, cell by cell. -/
theorem open_structs {t e : TypeId} {fs : Array Field} {nf : Nat} {A : Option Addr} {len cap : Nat} {d : DataW H} {p : List MemPlace} (ht : P.underlying t = some (.slice e)) (he : P.underlying e = some (.struct fs)) (ce : P.cellsOf e = nf) (hnf : fs.size = nf)
    (hf : ∀ (j : Nat) (f : Field), fs[j]? = some f → f.offset = j ∧ P.cellsOf f.type = 1) (h : DataW.Trod enc P w base spare held t (.slice A len cap) d p) :
    (A = none ∧ len = 0 ∧ cap = 0) ∨ ∃ a : Addr, A = some a ∧ len ≤ cap ∧ cap ≤ maxLen ∧ ∀ i, i < len → ∃ (vs : List Value) (n : Nat), vs.length = nf ∧ (∀ j, j < nf → w.cell? (a.add (i * nf + j)) = vs[j]?) ∧
      ∀ (j : Nat) (f : Field), fs[j]? = some f → ∃ x u, vs[j]? = some u ∧ DataW.trod enc P w base spare held n f.type [u] = some x := by
  obtain ⟨fuel, hq⟩ := h
  rcases Deep.open_slice ht hq with ⟨hc, _⟩ | ⟨a, ln, cp, m, n, D, Pl, hc, _, hl, hm, hmm, _, hx⟩
  · simp [Value.cells] at hc
    exact .inl hc
  · simp [Value.cells] at hc
    obtain ⟨rfl, rfl, rfl⟩ := hc
    refine .inr ⟨a, rfl, hl, hm, fun i hi => ?_⟩
    obtain ⟨cs', h1, h2⟩ := hx i (by rw [hmm]; split <;> omega)
    rw [ce] at h1
    obtain ⟨_, hlen, hcell⟩ := World.cells?_some h1
    obtain ⟨xs, k, hk, hxy, _, hxl, hff⟩ := DataW.trod_struct he h2
    refine ⟨cs', k, hlen, fun j hj => ?_, fun j f hjf => ?_⟩
    · have := hcell j hj
      rwa [Deep.add_add] at this
    · obtain ⟨ho, hc1⟩ := hf j f hjf
      have h3 := hff j f hjf
      have hjx : j < xs.length := by rw [hxl]; exact (Array.getElem?_eq_some_iff.1 hjf).1
      rw [ho, hc1, List.getElem?_eq_getElem hjx] at h3
      cases hd : (cs'.drop j).take 1 with
      | nil =>
        exfalso
        have := congrArg List.length hd
        rw [List.length_take, List.length_drop, List.length_nil] at this
        omega
      | cons u r =>
        have hr : r = [] := by
          have := congrArg List.length hd
          rw [List.length_take, List.length_cons] at this
          cases r with
          | nil => rfl
          | cons _ _ => simp only [List.length_cons] at this; omega
        subst hr
        have hu : cs'[j]? = some u := by
          have h4 : (cs'.drop j)[0]? = some u := by
            have h5 : ((cs'.drop j).take 1)[0]? = some u := by rw [hd]; rfl
            rwa [List.getElem?_take_of_lt (by omega)] at h5
          rwa [List.getElem?_drop] at h4
        rw [hd] at h3
        exact ⟨_, u, hu, h3⟩
/-- Pairs of numbers, in a row that came in. -/
def PairsAt (w : World) (A : Option Addr) (l : List (Int × Int)) : Prop := l.length ≤ 9223372036854775807 ∧ ∀ i, i < l.length → ∃ a : Addr, A = some a ∧ w.cell? (a.add (i * 2)) = some (.int .i64 (l.getD i (0, 0)).1) ∧ w.cell? (a.add (i * 2 + 1)) = some (.int .i64 (l.getD i (0, 0)).2)
def I64 (x : Int) : Prop := -9223372036854775808 ≤ x ∧ x ≤ 9223372036854775807
theorem PairsAt.below {w w' : World} {A : Option Addr} {l : List (Int × Int)} (h : PairsAt w A l) (hb : Below w.heap.size w w') : PairsAt w' A l := by
  refine ⟨h.1, fun i hi => ?_⟩
  obtain ⟨a, e, h1, h2⟩ := h.2 i hi
  exact ⟨a, e, (hb.cell (World.block_lt_of_cell? w _ h1)).trans h1, (hb.cell (World.block_lt_of_cell? w _ h2)).trans h2⟩
end
end Go.Proofs.YtgjdcdhfijkoiaaDoor.Open
end
section
namespace Go.Proofs.YtgjdcdhfijkoiaaDoor.Open
open Go.ChangeShapes Go.WideShapes Go.RowKit Go.Proofs.YtgjdcdhfijkoiaaDoorW.PrintWords
set_option linter.unusedVariables false
set_option linter.unusedSimpArgs false
section
variable {H : Type} {enc : TypeId × Value → H} {P : Program} {w : World} {base : Nat} {held : Bool}
/-- A row of bytes that came in inside something. -/
theorem open_bytes {t e : TypeId} {u : Value} {n : Nat} {x : DataW H × List MemPlace} (ht : P.underlying t = some (.slice e)) (he : P.underlying e = some (.int .u8)) (hc : P.cellsOf e = 1) (h : DataW.trod enc P w base (fun _ => true) held n t [u] = some x) :
    ∃ (A : Option Addr) (cap : Nat) (bs : List Int), u = .slice A bs.length cap ∧ Kd.C (Kd.int .u8) w A bs.length bs ∧ bs.length ≤ cap ∧ bs.length ≤ 9223372036854775807 ∧ ∀ y ∈ bs, 0 ≤ y ∧ y ≤ 255 := by
  have hrow : ∃ (A : Option Addr) (len cap : Nat) (zs : List Int), u = .slice A len cap ∧ ((A = none ∧ len = 0 ∧ cap = 0 ∧ zs = []) ∨ ∃ x, A = some x ∧ len ≤ cap ∧ cap ≤ maxLen ∧ zs.length = cap ∧ (∀ i, i < zs.length → w.cell? (x.add i) = some (.int .u8 (zs.getD i 0))) ∧ ∀ n ∈ zs, (Lit.int .u8 n).wf = true) := by
    rcases open_ints ht he hc h with ⟨hcs, _⟩ | ⟨x, l, c, zs, hcs, _, hl, hm, hz, _, hcell, hwz⟩
    · simp only [List.cons.injEq, and_true] at hcs
      exact ⟨none, 0, 0, [], hcs, .inl ⟨rfl, rfl, rfl, rfl⟩⟩
    · simp only [List.cons.injEq, and_true] at hcs
      exact ⟨some x, l, c, zs, hcs, .inr ⟨x, rfl, hl, hm, by simpa using hz, hcell, hwz⟩⟩
  obtain ⟨A, len, cap, zs, rfl, hz⟩ := hrow
  obtain ⟨l0, rfl, hr0, hm0, hw0, hc0⟩ := ReadsInt.ofRowC hz
  refine ⟨A, cap, l0, rfl, Kd.C_of_reads (d := (0 : Int)) (h1 := fun _ => rfl) hr0, hc0, by unfold maxLen at hm0; omega, fun y hy => ?_⟩
  simpa [Lit.wf, IntKind.min, IntKind.max, IntKind.signed, IntKind.bits] using hw0 y hy
/-- A number, a number, bytes. -/
structure Part where
  k : Int
  x : Int
  b : List Int
def Part.none : Part := ⟨0, 0, []⟩
/-- Parts, in a row that came in. -/
def PartsAt (w : World) (A : Option Addr) (l : List Part) : Prop := l.length ≤ 9223372036854775807 ∧ ∀ i, i < l.length → ∃ (a : Addr) (B : Option Addr) (c : Nat), A = some a ∧ w.cell? (a.add (i * 3)) = some (.int .i64 (l.getD i Part.none).k) ∧ w.cell? (a.add (i * 3 + 1)) = some (.int .u64 (l.getD i Part.none).x) ∧ w.cell? (a.add (i * 3 + 2)) = some (.slice B (l.getD i Part.none).b.length c) ∧ Kd.C (Kd.int .u8) w B (l.getD i Part.none).b.length (l.getD i Part.none).b ∧ (l.getD i Part.none).b.length ≤ c ∧ (l.getD i Part.none).b.length ≤ 9223372036854775807
theorem PartsAt.below {w w' : World} {A : Option Addr} {l : List Part} (h : PartsAt w A l) (hb : Below w.heap.size w w') : PartsAt w' A l := by
  refine ⟨h.1, fun i hi => ?_⟩
  obtain ⟨a, B, c, e, h1, h2, h3, h4, h5⟩ := h.2 i hi
  exact ⟨a, B, c, e, (hb.cell (World.block_lt_of_cell? w _ h1)).trans h1, (hb.cell (World.block_lt_of_cell? w _ h2)).trans h2, (hb.cell (World.block_lt_of_cell? w _ h3)).trans h3, Kd.C_below h4 hb, h5⟩
def U64 (x : Int) : Prop := 0 ≤ x ∧ x ≤ 18446744073709551615
def Part.Ok (p : Part) : Prop := I64 p.k ∧ U64 p.x ∧ ∀ y ∈ p.b, 0 ≤ y ∧ y ≤ 255
end
end Go.Proofs.YtgjdcdhfijkoiaaDoor.Open
end
section
namespace Go.Proofs.YtgjdcdhfijkoiaaDoor.Str
open Go.ChangeShapes Go.WideShapes Go.RowKit Go.Proofs.YtgjdcdhfijkoiaaDoorW.PrintWords Go.Proofs.YtgjdcdhfijkoiaaDoor.Mem Go.Proofs.YtgjdcdhfijkoiaaDoor.PCod Go.Proofs.YtgjdcdhfijkoiaaDoor.Cod Go.Proofs.YtgjdcdhfijkoiaaDoor.Open
set_option linter.unusedVariables false
set_option linter.unusedSimpArgs false
section
variable {H : Type} {enc : TypeId × Value → H} {P : Program} {w : World} {base : Nat}
theorem open_fs {t e ts tb te : TypeId} {f0 f1 : Field} {A : Option Addr} {len cap : Nat} {d : DataW H} {p : List MemPlace} (ht : P.underlying t = some (.slice e)) (he : P.underlying e = some (.struct #[f0, f1])) (ce : P.cellsOf e = 2)
    (o : f0.offset = 0 ∧ f1.offset = 1) (t0 : f0.type = ts) (t1 : f1.type = tb) (hts : P.underlying ts = some .string) (htb : P.underlying tb = some (.slice te)) (hte : P.underlying te = some (.int .u8)) (c0 : P.cellsOf ts = 1 ∧ P.cellsOf tb = 1 ∧ P.cellsOf te = 1) (h : DataW.Trod enc P w base (fun _ => true) true t (.slice A len cap) d p) :
    ∃ l : List FS, len = l.length ∧ Kd.C k50 w A l.length l ∧ l.length ≤ cap ∧ l.length ≤ 9223372036854775807 ∧ ∀ f ∈ l, Byt f.f1 := by
  have hf : ∀ (j : Nat) (f : Field), (#[f0, f1] : Array Field)[j]? = some f → f.offset = j ∧ P.cellsOf f.type = 1 := by
    intro j f hj
    match j with
    | 0 => simp at hj; subst hj; exact ⟨o.1, by rw [t0, c0.1]⟩
    | 1 => simp at hj; subst hj; exact ⟨o.2, by rw [t1, c0.2.1]⟩
    | j + 2 => simp at hj
  rcases open_structs ht he ce rfl hf h with ⟨rfl, rfl, rfl⟩ | ⟨a, rfl, hl, hm, hx⟩
  · exact ⟨[], rfl, ⟨rfl, by simp, fun h => absurd h (by simp)⟩, Nat.le_refl _, by simp, fun q hq => by cases hq⟩
  · have hx2 : ∀ i, i < len → ∃ q : FS × Option Addr × Nat, w.cell? (a.add (i * 2)) = some (.string q.1.f0) ∧ w.cell? (a.add (i * 2 + 1)) = some (.slice q.2.1 q.1.f1.length q.2.2) ∧ Kd.C (Kd.int .u8) w q.2.1 q.1.f1.length q.1.f1 ∧ q.1.f1.length ≤ q.2.2 ∧ Byt q.1.f1 := by
      intro i hi
      obtain ⟨vs, n, hvl, hc, hfs⟩ := hx i hi
      obtain ⟨x0, u0, hu0, hd0⟩ := hfs 0 f0 rfl
      obtain ⟨x1, u1, hu1, hd1⟩ := hfs 1 f1 rfl
      rw [t0] at hd0
      rw [t1] at hd1
      obtain ⟨s, e0, _⟩ := DataW.trod_string hts hd0
      simp only [List.cons.injEq, and_true] at e0
      subst e0
      obtain ⟨B, c, bs, rfl, h4, h5, h6, h7⟩ := open_bytes htb hte c0.2.2 hd1
      exact ⟨(⟨s, bs⟩, B, c), (hc 0 (by omega)).trans hu0, (hc 1 (by omega)).trans hu1, h4, h5, h7⟩
    obtain ⟨f, hf2⟩ : ∃ f : Nat → FS × Option Addr × Nat, ∀ i, i < len → w.cell? (a.add (i * 2)) = some (.string (f i).1.f0) ∧ w.cell? (a.add (i * 2 + 1)) = some (.slice (f i).2.1 (f i).1.f1.length (f i).2.2) ∧ Kd.C (Kd.int .u8) w (f i).2.1 (f i).1.f1.length (f i).1.f1 ∧ (f i).1.f1.length ≤ (f i).2.2 ∧ Byt (f i).1.f1 := by
      haveI : Inhabited (FS × Option Addr × Nat) := ⟨(z50, none, 0)⟩
      exact Deep.choose_lt hx2
    refine ⟨(List.range len).map fun i => (f i).1, by simp, ⟨rfl, by simp; unfold maxLen at hm; omega, fun _ => ⟨a, rfl, fun j p hj => ?_⟩⟩, by simpa using hl, by simp; unfold maxLen at hm; omega, fun q hq => ?_⟩
    · rw [List.getElem?_map] at hj
      obtain ⟨i, hi, rfl⟩ := Option.map_eq_some_iff.1 hj
      obtain ⟨hi1, rfl⟩ := List.getElem?_eq_some_iff.1 hi
      rw [List.getElem_range] at *
      have hjl : j < len := by simpa using hi1
      have h := hf2 j hjl
      refine ⟨[.string (f j).1.f0, .slice (f j).2.1 (f j).1.f1.length (f j).2.2], rfl, k50_mk w _ h.2.2.2.1 h.2.2.1, fun i u hu => ?_⟩
      match i, hu with
      | 0, hu => cases hu; exact h.1
      | 1, hu => cases hu; exact h.2.1
    · obtain ⟨i, hi, rfl⟩ := List.mem_map.1 hq
      exact (hf2 i (List.mem_range.1 hi)).2.2.2.2
end
section
variable {H : Type} {enc : TypeId × Value → H} {w : World} {base : Nat}
set_option maxRecDepth 100000 in
theorem open_files {v : Value} {d : DataW H} {p : List MemPlace} (hv : Value.okWide Tryd.prog w .any base 22 v) (h : DataW.Trod enc Tryd.prog w 0 (fun _ => true) true 22 v d p) :
    ∃ (A : Option Addr) (c : Nat) (l : List FS), v = .slice A l.length c ∧ Kd.C k50 w A l.length l ∧ l.length ≤ c ∧ l.length ≤ 9223372036854775807 ∧ ∀ f ∈ l, Byt f.f1 := by
  obtain ⟨A, len, cap, rfl⟩ := okWide_slice Tryd.underlying22 hv
  obtain ⟨l, rfl, h1, h2, h3, h4⟩ := open_fs Tryd.underlying22 Tryd.underlying50 (by kernel_rfl) ⟨rfl, rfl⟩ rfl rfl Tryd.underlying9 Tryd.underlying27 Tryd.underlying5 ⟨by kernel_rfl, by kernel_rfl, by kernel_rfl⟩ h
  exact ⟨A, cap, l, rfl, h1, h2, h3, h4⟩
end
end Go.Proofs.YtgjdcdhfijkoiaaDoor.Str
end
