/- ObjectsBelow walked. -/
import Derived.Test.YtgjdcdhfijkoiaaDoorObD
import Derived.Test.YtgjdcdhfijkoiaaDoorFiE
import Derived.OpenShut
import Derived.ShutString
import Derived.Lib.SmallJoins
section
namespace Go.Proofs.YtgjdcdhfijkoiaaDoor.Obj
open Go.RowKit Go.Proofs.YtgjdcdhfijkoiaaDoorW.PrintWords Go.Proofs.YtgjdcdhfijkoiaaDoorW.PrintLast Go.Proofs.YtgjdcdhfijkoiaaDoorW.PrintMore Go.Proofs.YtgjdcdhfijkoiaaDoor.Mem Go.Proofs.YtgjdcdhfijkoiaaDoor.Cod Go.Proofs.YtgjdcdhfijkoiaaDoor.PCod Go.Proofs.YtgjdcdhfijkoiaaDoor.Str Go.Proofs.YtgjdcdhfijkoiaaDoor.Open Go.Proofs.YtgjdcdhfijkoiaaDoor.Conv
set_option linter.unusedVariables false
set_option linter.unusedSimpArgs false
/-- A row of n ids in its own block. -/
def RowB (W : World) (b n : Nat) (L : Nat → List Int) : Prop := ∃ cur : List Value, W.heap[b]? = some (.cells cur.toArray 74 (0, 0)) ∧ n * 32 ≤ cur.length ∧ ∀ i, i < n → (L i).length = 32 ∧ ∀ (j : Nat) (v : Value), (nums .u8 (L i))[j]? = some v → cur[i * 32 + j]? = some v
section
variable {W W' : World} {b n : Nat} {L : Nat → List Int}
theorem RowB.blk (h : RowB W b n L) (hb : W'.heap[b]? = W.heap[b]?) : RowB W' b n L := by
  obtain ⟨cur, h1, h2⟩ := h
  exact ⟨cur, hb.trans h1, h2⟩
theorem RowB.lt (h : RowB W b n L) : b < W.heap.size := by
  obtain ⟨cur, h1, h2⟩ := h
  exact blk_lt h1
theorem RowB.cell (h : RowB W b n L) {i : Nat} (hi : i < n) : ∀ (j : Nat) (v : Value), (nums .u8 (L i))[j]? = some v → W.cell? ⟨b, i * 32 + j, none⟩ = some v := by
  obtain ⟨cur, h1, h2, h3⟩ := h
  intro j v hj
  rw [blk_cell h1, List.getElem?_toArray]
  exact (h3 i hi).2 j v hj
theorem RowB.set (h : RowB W b n L) {i : Nat} (hi : i < n) (y : Int) : RowB (W.setCell ⟨b, i * 32, none⟩ (.int .u8 y)) b n (fun q => if q = i then (L i).set 0 y else L q) := by
  obtain ⟨cur, h1, h2, h3⟩ := h
  refine ⟨cur.set (i * 32) (.int .u8 y), by simpa using blk_set h1 (i * 32) (.int .u8 y), by rw [List.length_set]; exact h2, fun q hq => ?_⟩
  by_cases e : q = i
  · subst e
    dsimp only
    rw [if_pos rfl]
    refine ⟨by rw [List.length_set]; exact (h3 q hq).1, fun j v hj => ?_⟩
    by_cases hj0 : j = 0
    · subst hj0
      rw [Nat.add_zero, List.getElem?_set_self (by omega)]
      unfold nums at hj
      rw [List.getElem?_map, List.getElem?_set_self (by rw [(h3 q hq).1]; omega)] at hj
      exact hj
    · rw [List.getElem?_set_ne (by omega)]
      refine (h3 q hq).2 j v ?_
      unfold nums at hj ⊢
      rw [List.getElem?_map] at hj ⊢
      rw [List.getElem?_set_ne (by omega)] at hj
      exact hj
  · dsimp only
    rw [if_neg e]
    refine ⟨(h3 q hq).1, fun j v hj => ?_⟩
    have hj32 : j < 32 := by
      have := (List.getElem?_eq_some_iff.1 hj).1
      rw [nums_length, (h3 q hq).1] at this
      exact this
    rw [List.getElem?_set_ne (by omega)]
    exact (h3 q hq).2 j v hj
theorem exec_store1 {P : Program} {o : Oper} {ev : Operand → Value} (W : World) (ty : TypeId) (x y : Operand) (ho : o.op = .store ty x y) (g off : Nat) (v : Value) (hx : ev x = .pointer (some ⟨g, off, none⟩)) (hy : ev y = v) (hc : v.cells = #[v])
    (t : TypeId) (cs : List Value) (hg : W.heap[g]? = some (.cells cs.toArray t (0, 0))) (hi : (P.info? ty).map (·.size) = some 1) (hl : off < cs.length) (h1 : v.oneCell' = true) :
    (execOp ev o).run P W = .ok .skip (W.setCell ⟨g, off, none⟩ v) := by
  have hst := run_storeCells_cells (P := P) g off [v] 0 W (fun j hj => by
    have : j = 0 := by simp at hj; omega
    subst this
    rw [blk_cell hg, List.getElem?_toArray, List.getElem?_eq_getElem (by omega)]; rfl) (fun j hj => blk_frozen hg _) (fun u hu => by rw [List.mem_singleton.1 hu]; exact h1)
  cases hq : P.info? ty with
  | none => simp [hq] at hi
  | some i =>
    have hs : i.size = 1 := by simp [hq] at hi; exact hi
    unfold execOp
    simp only [ho, hx, hy, Instr.storeAt, Instr.sureAddr, Sem.run_bind, Sem.run_pure, Result.andThen_ok]
    simp [storeVar, sizeOf, typeInfo, hq, hc, hs, hst, World.setCells]
end
def incL (p : List Int) : List Int := p.set 0 (IntKind.u8.wrap (p.getD 0 0 + 1))
def stL (L0 : Nat → List Int) (i : Nat) : Nat → List Int := fun q => if q < i then incL (L0 q) else L0 q
section
variable {w : World} {x : OM} {cs : Array Value} {A Y E : Option Addr} {bc yc ec : Nat}
end
end Go.Proofs.YtgjdcdhfijkoiaaDoor.Obj
end
section
namespace Go.Proofs.YtgjdcdhfijkoiaaDoor.Obj
open Go.RowKit Go.Proofs.YtgjdcdhfijkoiaaDoorW.PrintWords Go.Proofs.YtgjdcdhfijkoiaaDoorW.PrintLast Go.Proofs.YtgjdcdhfijkoiaaDoorW.PrintMore Go.Proofs.YtgjdcdhfijkoiaaDoor.Mem Go.Proofs.YtgjdcdhfijkoiaaDoor.Cod Go.Proofs.YtgjdcdhfijkoiaaDoor.PCod Go.Proofs.YtgjdcdhfijkoiaaDoor.Str Go.Proofs.YtgjdcdhfijkoiaaDoor.Open Go.Proofs.YtgjdcdhfijkoiaaDoor.Conv
set_option linter.unusedVariables false
set_option linter.unusedSimpArgs false
def zero32 : List Int := List.replicate 32 0
def pO (n : Nat) : OM := ⟨1, List.replicate n 0, 0, [], [], ByteArray.empty⟩
def sO (k : Nat) : OM := ⟨4, [], 0, [zero32], [], S (List.replicate k 0)⟩
def lO (z : Int) (d : Nat) : OM := ⟨2, [], z, List.replicate d zero32, [], ByteArray.empty⟩
section
variable {w : World}
end
end Go.Proofs.YtgjdcdhfijkoiaaDoor.Obj
end
section
namespace Go.Proofs.YtgjdcdhfijkoiaaDoor.Obj
open Go.ChangeShapes Go.WideShapes Go.RowKit Go.Proofs.YtgjdcdhfijkoiaaDoorW.PrintWords Go.Proofs.YtgjdcdhfijkoiaaDoor.Mem Go.Proofs.YtgjdcdhfijkoiaaDoor.Cod Go.Proofs.YtgjdcdhfijkoiaaDoor.PCod Go.Proofs.YtgjdcdhfijkoiaaDoor.Str Go.Proofs.YtgjdcdhfijkoiaaDoor.Open
set_option linter.unusedVariables false
set_option linter.unusedSimpArgs false
section
variable {H : Type} {enc : TypeId × Value → H} {P : Program} {w : World} {base : Nat} {held : Bool}
theorem open_arr {t e : TypeId} {n fuel : Nat} {cs : List Value} {x : DataW H × List MemPlace} (ht : P.underlying t = some (.array n e)) (he : P.underlying e = some (.int .u8)) (ce : P.cellsOf e = 1) (ct : P.cellsOf t = n) (h : DataW.trod enc P w base (fun _ => true) held fuel t cs = some x) : ∃ p : List Int, p.length = n ∧ cs = nums .u8 p ∧ Byt p := by
  obtain ⟨xs, m, _, _, hl, hn, hi⟩ := DataW.trod_array ht h
  rw [ce] at hi
  rw [ct] at hl
  have hx : ∀ i, i < n → ∃ z : Int, (cs.drop i).take 1 = [.int .u8 z] ∧ 0 ≤ z ∧ z ≤ 255 := by
    intro i hin
    have h1 := hi i hin
    rw [Nat.mul_one, List.getElem?_eq_getElem (by omega)] at h1
    obtain ⟨z, e1, _, w1⟩ := DataW.trod_int he h1
    have hb : (0 ≤ z ∧ z ≤ 255) := by simpa [Lit.wf, IntKind.min, IntKind.max, IntKind.signed, IntKind.bits] using w1
    exact ⟨z, e1, hb⟩
  obtain ⟨f, hf⟩ : ∃ f : Nat → Int, ∀ i, i < n → (cs.drop i).take 1 = [.int .u8 (f i)] ∧ 0 ≤ f i ∧ f i ≤ 255 := Deep.choose_lt hx
  refine ⟨(List.range n).map f, by simp, ?_, fun y hy => ?_⟩
  · apply List.ext_getElem?
    intro j
    unfold nums
    by_cases hj : j < n
    · have h1 := (hf j hj).1
      have h2 : ((cs.drop j).take 1)[0]? = some (.int .u8 (f j)) := by rw [h1]; rfl
      rw [List.getElem?_take_of_lt (by omega), List.getElem?_drop, Nat.add_zero] at h2
      rw [h2]
      simp [hj]
    · rw [List.getElem?_eq_none (by omega), List.getElem?_eq_none (by simp; omega)]
  · obtain ⟨i, hi2, rfl⟩ := List.mem_map.1 hy
    exact (hf i (by simpa using hi2)).2
/-- A slice of elements that are told by their cells. -/
theorem open_flat {α : Type} {t e : TypeId} {fuel k : Nat} {u : Value} {x : DataW H × List MemPlace} (encv : α → List Value) (h1 : ∀ x, ∀ u ∈ encv x, u.oneCell' = true) (hk : 0 < k) (q : α → Prop) [Inhabited α] (ht : P.underlying t = some (.slice e)) (ck : P.cellsOf e = k)
    (hone : ∀ (m : Nat) (cs : List Value) (y : DataW H × List MemPlace), cs.length = k → DataW.trod enc P w base (fun _ => true) held m e cs = some y → ∃ p : α, cs = encv p ∧ q p) (h : DataW.trod enc P w base (fun _ => true) held fuel t [u] = some x) :
    ∃ (Y : Option Addr) (yc : Nat) (ids : List α), u = .slice Y ids.length yc ∧ Kd.C (flat k encv h1) w Y ids.length ids ∧ ∀ p ∈ ids, q p := by
  rcases Deep.open_slice ht h with ⟨hc, _⟩ | ⟨a, ln, cp, m, n, D, Pl, hc, _, hl, hm, hmm, _, hx⟩
  · simp only [List.cons.injEq, and_true] at hc
    exact ⟨none, 0, [], hc, Kd.C_nil _ _, fun p hp => by cases hp⟩
  · simp only [List.cons.injEq, and_true] at hc
    have hx2 : ∀ i, i < ln → ∃ p : α, q p ∧ (encv p).length = k ∧ ∀ (j : Nat) (v : Value), (encv p)[j]? = some v → w.cell? (a.add (i * k + j)) = some v := by
      intro i hi
      obtain ⟨cs', g1, g2⟩ := hx i (by rw [hmm]; split <;> omega)
      rw [ck] at g1
      obtain ⟨_, hlen, hcell⟩ := World.cells?_some g1
      obtain ⟨p, rfl, hq⟩ := hone _ cs' _ (by rw [hlen]) g2
      refine ⟨p, hq, by rw [hlen], fun j v hv => ?_⟩
      have hj : j < k := by
        have := (List.getElem?_eq_some_iff.1 hv).1
        omega
      have := hcell j hj
      rw [Deep.add_add] at this
      rw [this, hv]
    obtain ⟨f, hf⟩ : ∃ f : Nat → α, ∀ i, i < ln → q (f i) ∧ (encv (f i)).length = k ∧ ∀ (j : Nat) (v : Value), (encv (f i))[j]? = some v → w.cell? (a.add (i * k + j)) = some v := Deep.choose_lt hx2
    refine ⟨some a, cp, (List.range ln).map f, by rw [hc]; simp, ⟨rfl, by simp; unfold maxLen at hm; omega, fun _ => ⟨a, rfl, fun j p hj => ?_⟩⟩, fun p hp => ?_⟩
    · rw [List.getElem?_map] at hj
      obtain ⟨i, hi, rfl⟩ := Option.map_eq_some_iff.1 hj
      obtain ⟨hi1, rfl⟩ := List.getElem?_eq_some_iff.1 hi
      rw [List.getElem_range] at *
      have hjl : j < ln := by simpa using hi1
      exact ⟨encv (f j), (hf j hjl).2.1, ⟨rfl, (hf j hjl).2.1⟩, fun i u hu => (hf j hjl).2.2 i u hu⟩
    · obtain ⟨i, hi, rfl⟩ := List.mem_map.1 hp
      exact (hf i (List.mem_range.1 hi)).1
end
section
variable {H : Type} {enc : TypeId × Value → H} {w : World} {base : Nat}
theorem drop_take {cs : List Value} {i n : Nat} {l : List Value} (h : (cs.drop i).take n = l) (hl : i + n ≤ cs.length) : cs.drop i = l ++ cs.drop (i + n) := by
  rw [← h, ← List.drop_drop]
  exact (List.take_append_drop n (cs.drop i)).symm
set_option maxRecDepth 100000 in
theorem open_kid {fuel : Nat} {u : Value} {x : DataW H × List MemPlace} {held : Bool} (h : DataW.trod enc Tryd.prog w base (fun _ => true) held fuel 54 [u] = some x) :
    ∃ (Y : Option Addr) (yc : Nat) (ids : List (List Int)), u = .slice Y ids.length yc ∧ Kd.C kId w Y ids.length ids ∧ ∀ p ∈ ids, Byt p :=
  open_flat (nums .u8) (fun p => nums_one p) (by decide) Byt Tryd.underlying54 (by kernel_rfl) (fun m cs y _ hy => by
    obtain ⟨p, _, h1, h2⟩ := open_arr Tryd.underlying74 Tryd.underlying5 (by kernel_rfl) (by kernel_rfl) hy
    exact ⟨p, h1, h2⟩) h
instance : Inhabited EM := ⟨eNone⟩
set_option maxRecDepth 100000 in
theorem fields_e : ∃ f0 f1 f2 : Field, Tryd.prog.underlying 76 = some (.struct #[f0, f1, f2]) ∧ f0.offset = 0 ∧ f1.offset = 1 ∧ f2.offset = 2 ∧ f0.type = 9 ∧ f1.type = 4 ∧ f2.type = 74 :=
  ⟨_, _, _, Tryd.underlying76, rfl, rfl, rfl, rfl, rfl, rfl⟩
set_option maxRecDepth 100000 in
theorem open_ke {fuel : Nat} {u : Value} {x : DataW H × List MemPlace} {held : Bool} (h : DataW.trod enc Tryd.prog w base (fun _ => true) held fuel 55 [u] = some x) :
    ∃ (Y : Option Addr) (yc : Nat) (es : List EM), u = .slice Y es.length yc ∧ Kd.C kE w Y es.length es ∧ ∀ e ∈ es, Byt e.id :=
  open_flat ecells ecells_one (by decide) (fun e : EM => Byt e.id) Tryd.underlying55 (by kernel_rfl) (fun m cs y hl hy => by
    obtain ⟨f0, f1, f2, hs, o0, o1, o2, t0, t1, t2⟩ := fields_e
    obtain ⟨xs, m2, _, _, _, hn, hff⟩ := DataW.trod_struct hs hy
    have hn3 : xs.length = 3 := hn
    have g0 := hff 0 f0 rfl
    have g1 := hff 1 f1 rfl
    have g2 := hff 2 f2 rfl
    rw [o0, t0, show Tryd.prog.cellsOf 9 = 1 by kernel_rfl, List.getElem?_eq_getElem (by omega)] at g0
    rw [o1, t1, show Tryd.prog.cellsOf 4 = 1 by kernel_rfl, List.getElem?_eq_getElem (by omega)] at g1
    rw [o2, t2, show Tryd.prog.cellsOf 74 = 32 by kernel_rfl, List.getElem?_eq_getElem (by omega)] at g2
    obtain ⟨s, e0, _⟩ := DataW.trod_string Tryd.underlying9 g0
    obtain ⟨b, e1, _⟩ := DataW.trod_bool Tryd.underlying4 g1
    obtain ⟨p, hp, e2, hpb⟩ := open_arr Tryd.underlying74 Tryd.underlying5 (by kernel_rfl) (by kernel_rfl) g2
    refine ⟨⟨s, b, p⟩, ?_, hpb⟩
    have d0 := drop_take e0 (by omega)
    have d1 := drop_take e1 (by omega)
    have d2 := drop_take e2 (by omega)
    rw [List.drop_zero] at d0
    have d3 : cs.drop 34 = [] := List.drop_of_length_le (by omega)
    rw [d0, show 0 + 1 = 1 from rfl, d1, show 1 + 1 = 2 from rfl, d2, show 2 + 32 = 34 from rfl, d3]
    unfold ecells
    simp) h
set_option maxRecDepth 100000 in
theorem fields_o : ∃ f0 f1 f2 f3 f4 f5 : Field, Tryd.prog.underlying 57 = some (.struct #[f0, f1, f2, f3, f4, f5]) ∧ f0.offset = 0 ∧ f1.offset = 1 ∧ f2.offset = 2 ∧ f3.offset = 3 ∧ f4.offset = 4 ∧ f5.offset = 5 ∧ f0.type = 5 ∧ f1.type = 27 ∧ f2.type = 53 ∧ f3.type = 54 ∧ f4.type = 55 ∧ f5.type = 9 :=
  ⟨_, _, _, _, _, _, Tryd.underlying57, rfl, rfl, rfl, rfl, rfl, rfl, rfl, rfl, rfl, rfl, rfl, rfl⟩
set_option maxRecDepth 100000 in
theorem open_obj {r : Reach} {b0 : Nat} {v : Value} {d : DataW H} {p : List MemPlace} (hv : Value.okWide Tryd.prog w r b0 57 v) (h : DataW.Trod enc Tryd.prog w base (fun _ => true) true 57 v d p) :
    ∃ (cs : Array Value) (x : OM) (A Y E : Option Addr) (bc yc ec : Nat), v = .agg cs ∧ OV cs x A Y E bc yc ec ∧ InO w x A Y E := by
  obtain ⟨f0, f1, f2, f3, f4, f5, hs, o0, o1, o2, o3, o4, o5, t0, t1, t2, t3, t4, t5⟩ := fields_o
  obtain ⟨cs, rfl, hsz⟩ := okWide_struct hs hv
  obtain ⟨fuel, hf⟩ := h
  obtain ⟨xs, m, _, _, hl, hn, hff⟩ := DataW.trod_struct hs hf
  obtain ⟨cs⟩ := cs
  have c6 : Tryd.prog.cellsOf 57 = 6 := by kernel_rfl
  have hl6 : cs.length = 6 := by rw [← c6]; exact hl
  have hn6 : xs.length = 6 := hn
  have hq0 : (Value.agg { toList := cs }).cells.toList = cs := rfl
  rw [hq0] at hff
  have g0 := hff 0 f0 rfl
  have g1 := hff 1 f1 rfl
  have g2 := hff 2 f2 rfl
  have g3 := hff 3 f3 rfl
  have g4 := hff 4 f4 rfl
  have g5 := hff 5 f5 rfl
  rw [o0, t0, show Tryd.prog.cellsOf 5 = 1 by kernel_rfl, List.getElem?_eq_getElem (by omega)] at g0
  rw [o1, t1, show Tryd.prog.cellsOf 27 = 1 by kernel_rfl, List.getElem?_eq_getElem (by omega)] at g1
  rw [o2, t2, show Tryd.prog.cellsOf 53 = 1 by kernel_rfl, List.getElem?_eq_getElem (by omega)] at g2
  rw [o3, t3, show Tryd.prog.cellsOf 54 = 1 by kernel_rfl, List.getElem?_eq_getElem (by omega)] at g3
  rw [o4, t4, show Tryd.prog.cellsOf 55 = 1 by kernel_rfl, List.getElem?_eq_getElem (by omega)] at g4
  rw [o5, t5, show Tryd.prog.cellsOf 9 = 1 by kernel_rfl, List.getElem?_eq_getElem (by omega)] at g5
  have one : ∀ i, i < 6 → ∃ u, (cs.drop i).take 1 = [u] := fun i hi => by
    rw [List.drop_eq_getElem_cons (by omega)]; exact ⟨_, rfl⟩
  obtain ⟨k, e0, _, w0⟩ := DataW.trod_int Tryd.underlying5 g0
  obtain ⟨u1, e1⟩ := one 1 (by omega)
  obtain ⟨n, e2, _, w2⟩ := DataW.trod_int Tryd.underlying53 g2
  obtain ⟨u3, e3⟩ := one 3 (by omega)
  obtain ⟨u4, e4⟩ := one 4 (by omega)
  obtain ⟨s, e5, _⟩ := DataW.trod_string Tryd.underlying9 g5
  rw [e1] at g1
  rw [e3] at g3
  rw [e4] at g4
  obtain ⟨A, bc, bs, rfl, hC, hbc, hbl, hby⟩ := open_bytes Tryd.underlying27 Tryd.underlying5 (by kernel_rfl) g1
  obtain ⟨Y, yc, ids, rfl, hY, hyb⟩ := open_kid g3
  obtain ⟨E, ec, es, rfl, hE, heb⟩ := open_ke g4
  have uk : 0 ≤ k ∧ k ≤ 255 := by simpa [Lit.wf, IntKind.min, IntKind.max, IntKind.signed, IntKind.bits] using w0
  have un : 0 ≤ n ∧ n ≤ 18446744073709551615 := by simpa [Lit.wf, IntKind.min, IntKind.max, IntKind.signed, IntKind.bits] using w2
  refine ⟨_, ⟨k, bs, n, ids, es, s⟩, A, Y, E, bc, yc, ec, rfl, ?_, ⟨hC, hY, hE, hby, hyb, heb, uk, un, hC.2.1, hY.2.1, hE.2.1⟩⟩
  unfold OV
  congr 1
  have d0 := drop_take e0 (by omega)
  have d1 := drop_take e1 (by omega)
  have d2 := drop_take e2 (by omega)
  have d3 := drop_take e3 (by omega)
  have d4 := drop_take e4 (by omega)
  have d5 := drop_take e5 (by omega)
  rw [List.drop_zero] at d0
  have d6 : cs.drop 6 = [] := List.drop_of_length_le (by omega)
  rw [d0, show 0 + 1 = 1 from rfl, d1, show 1 + 1 = 2 from rfl, d2, show 2 + 1 = 3 from rfl, d3, show 3 + 1 = 4 from rfl, d4, show 4 + 1 = 5 from rfl, d5, show 5 + 1 = 6 from rfl, d6]
  unfold ocells
  simp
end
end Go.Proofs.YtgjdcdhfijkoiaaDoor.Obj
end
