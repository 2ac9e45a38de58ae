/- The codec's reference: what is printed of it answers as the reader's and the writer's model. -/
import Derived.Test.YtgjdcdhfijkoiaaDoorCoA
import Derived.Test.YtgjdcdhfijkoiaaDoorPxC
import Derived.Test.YtgjdcdhfijkoiaaDoorWWa
import Derived.Lib.SlBytesConst
import Derived.ChangeKeysEq
section
namespace Go.Proofs.YtgjdcdhfijkoiaaDoor.Cod
open Go.RowKit Go.Proofs.YtgjdcdhfijkoiaaDoorW.PrintWords Go.Proofs.YtgjdcdhfijkoiaaDoorW.PrintLast Go.Proofs.YtgjdcdhfijkoiaaDoorW.PrintMore Go.Proofs.YtgjdcdhfijkoiaaDoor.Mem Go.Proofs.YtgjdcdhfijkoiaaDoor.PCod
set_option linter.unusedVariables false
set_option linter.unusedSimpArgs false
section
variable {w : World} {R : RM} {b r : List Int}
abbrev S (b : List Int) : ByteArray := strOfNums b
theorem S_size (b : List Int) : (S b).size = b.length := by
  show (S b).data.size = _
  rw [← Array.length_toList, strOfNums_data, List.length_map]
/-! ### Uint -/
abbrev stV (R : RM) : Value := .agg #[.string (S R.b), .int .i64 R.e]
theorem rdNum_sub : ∀ (b : List Int) (i : Nat) (x m : Int), ∀ y ∈ (rdNum i x m b).1, y ∈ b := by
  intro b
  induction b with
  | nil => intro i x m y hy; exact hy
  | cons c r ih =>
    intro i x m y hy
    unfold rdNum at hy
    split at hy
    · exact List.mem_cons_of_mem _ hy
    · split at hy
      · exact List.mem_cons_of_mem _ hy
      · exact List.mem_cons_of_mem _ (ih _ _ _ y hy)
theorem RM.uint_byt (hb : Byt R.b) : Byt R.uint.1.b := by
  unfold RM.uint
  split
  · exact hb
  · exact fun x hx => hb x (rdNum_sub _ _ _ _ x hx)
theorem RM.fixed_byt (hb : Byt R.b) (n : Int) : Byt (R.fixed n).1.b ∧ Byt (R.fixed n).2 := by
  have h0 : Byt [] := fun x hx => by cases hx
  unfold RM.fixed
  split
  · exact ⟨hb, h0⟩
  · split
    · exact ⟨hb, h0⟩
    · split
      · exact ⟨hb, h0⟩
      · exact ⟨fun x hx => hb x (List.mem_of_mem_drop hx), fun x hx => hb x (List.mem_of_mem_take hx)⟩
theorem RM.bytes_byt (hb : Byt R.b) (n : Int) : Byt (R.bytes n).1.b ∧ Byt (R.bytes n).2 := by
  have h0 : Byt [] := fun x hx => by cases hx
  have hu := RM.uint_byt hb
  unfold RM.bytes
  split
  · exact ⟨hu, h0⟩
  · split
    · exact ⟨hu, h0⟩
    · exact RM.fixed_byt hu _
/-- The reference's yes or no: none where there is an error. -/
def RM.rbool (R : RM) : Bool := if R.bool.1.e = 0 then R.bool.2 else false
/-! ### Put, With -/
end
end Go.Proofs.YtgjdcdhfijkoiaaDoor.Cod
end
section
namespace Go.Proofs.YtgjdcdhfijkoiaaDoor.Cod
open Go.RowKit Go.Proofs.YtgjdcdhfijkoiaaDoorW.PrintWords Go.Proofs.YtgjdcdhfijkoiaaDoorW.PrintLast Go.Proofs.YtgjdcdhfijkoiaaDoorW.PrintMore Go.Proofs.YtgjdcdhfijkoiaaDoor.Mem Go.Proofs.YtgjdcdhfijkoiaaDoor.PCod
set_option linter.unusedVariables false
set_option linter.unusedSimpArgs false
section
variable {w : World} {R : RM} {b r xs : List Int}
def idAt (xs : List Int) (i : Nat) : List Int := xs.take i ++ List.replicate (32 - i) 0
/-- What is there behind a call of Id's. -/
def IdW (w : World) (A B : Array Value) (w1 : World) : Prop := w1.heap[w.heap.size]? = some (.cells A 99 (0, 0)) ∧ w1.heap[w.heap.size + 1]? = some (.cells B 99 (0, 0)) ∧ w1.heap[w.heap.size + 2]? = some (.cells zidL.toArray 74 (0, 0)) ∧ Below w.heap.size w w1
theorem IdW.set {A B : Array Value} {w1 : World} (h : IdW w A B w1) {g k : Nat} (hp : w.heap.size + 2 < g) (u : Value) : IdW w A B (w1.setCell ⟨g, k, none⟩ u) :=
  ⟨blk_far h.1 (p := ⟨g, k, none⟩) (show w.heap.size ≠ g by omega) u, blk_far h.2.1 (p := ⟨g, k, none⟩) (show w.heap.size + 1 ≠ g by omega) u, blk_far h.2.2.1 (p := ⟨g, k, none⟩) (show w.heap.size + 2 ≠ g by omega) u, below_set h.2.2.2 (by omega)⟩
section
variable {P : Program} {o : Oper} {ev : Operand → Value}
theorem exec_load_row (W : World) (ty : TypeId) (x : Operand) (ho : o.op = .load ty x) (g : Nat) (hx : ev x = .pointer (some ⟨g, 0, none⟩)) (t : TypeId) (cs : Array Value) (fr : Nat × Nat) (d : TypeDesc) (hg : W.heap[g]? = some (.cells cs t fr))
    (hu : P.underlying ty = some d) (hd : (match d with | .struct _ | .array _ _ => true | _ => false) = true) (hi : (P.info? ty).map (·.size) = some cs.size) : (execOp ev o).run P W = .ok (.value (.agg cs)) W := by
  unfold execOp
  simp only [ho, hx, Instr.loadAt, Instr.sureAddr, Sem.run_bind, Sem.run_pure, Result.andThen_ok, run_loadVar_row W g t ty cs fr d hg hu hd hi]
end
end
end Go.Proofs.YtgjdcdhfijkoiaaDoor.Cod
end
section
namespace Go.Proofs.YtgjdcdhfijkoiaaDoor.Conv
open Go.RowKit Go.Proofs.YtgjdcdhfijkoiaaDoorW.PrintWords Go.Proofs.YtgjdcdhfijkoiaaDoorW.PrintLast Go.Proofs.YtgjdcdhfijkoiaaDoorW.PrintMore
set_option linter.unusedVariables false
set_option linter.unusedSimpArgs false

theorem mark_run {P : Program} {W : World} {t e : TypeId} {g n c : Nat} {cur : Array Value} (ht : P.underlying t = some (.slice e)) (he : P.underlying e = some (.int .u8)) (hb : W.heap[g]? = some (.cells cur e (0, 0))) :
    ∃ W', (convert t t (.slice (some ⟨g, 0, none⟩) n c)).run P W = .ok (.slice (some ⟨g, 0, none⟩) n c) W' ∧ W.grownBy W' (some g) ∧ W'.heap[g]? = some (.cells cur e (cur.size, cur.size + 1)) := by
  have hsh : W.shape? g = some (e, cur.size) := by
    unfold World.shape?
    rw [hb]
  refine ⟨W.freeze ⟨g, cur.size, none⟩ 1, ?_, ?_, ?_⟩
  · simp [convert, run_underlying ht, run_underlying he, markStringish, hsh]
  · unfold World.freeze
    rw [if_neg (by decide)]
    refine ⟨rfl, rfl, rfl, by simp, fun k hk hne => ?_⟩
    simp only [Array.getElem?_modify]
    rw [if_neg (fun h => hne (by rw [h]))]
  · unfold World.freeze
    rw [if_neg (by decide)]
    simp [Array.getElem?_modify, hb]

section
variable {P : Program} {ops : Array Oper} {rest : List Oper} {o : Oper} {a : Act} {Q : Exit → Act → World → Prop}
theorem conv_event {w0 W : World} {base : Nat} {t e : TypeId} {x : Operand} (hgd : o.guard = none) (ho : o.op = .convert t t x) (ht : P.underlying t = some (.slice e)) (he : P.underlying e = some (.int .u8))
    {ok : Nat → Prop} {A : Option Addr} {n c : Nat} {xs : List Int} (hx : a.eval x = .slice A n c) (HO : Kd.R (Kd.int .u8) e W base ok (.slice A n c) xs) (hpos : 0 < xs.length) (HB : Below base w0 W) (hbase : base ≤ W.heap.size)
    (h : ∀ W', n = xs.length → xs.length ≤ c → Kd.C (Kd.int .u8) W' A xs.length xs → W.grownBy W' (Value.slice A n c).ownBlock → Below base w0 W' → wpList P ops Q rest (a.put o.dst (.slice A n c)) W') :
    wpList P ops Q (o :: rest) a W := by
  have hR := Kd.R_reads' HO
  obtain ⟨h0, inner, hown, hr⟩ := HO
  have hn : n = xs.length := hR.1
  rcases hown.2 with ⟨hv, hz⟩ | ⟨g, cap, cur, hv, hb, hh, h1, h2, h3, h4⟩
  · omega
  · injection hv with hA _ hc
    subst hA
    obtain ⟨W', hrun, hg, hh'⟩ := mark_run (P := P) (n := n) (c := c) ht he hh
    refine Kd.event_run hgd (v := .slice (some ⟨g, 0, none⟩) n c) (w1 := W') ?_ (h W' hn (by omega) ?_ hg (HB.grown hg hbase (fun k hk => by injection hk with hk; omega)))
    · unfold execOp
      simp [ho, hx, hrun]
    · obtain ⟨q1, q2, q3⟩ := hR.2.2
      refine ⟨q1, q2, fun hp => ?_⟩
      obtain ⟨ad, e1, hc0⟩ := q3 hp
      refine ⟨ad, e1, fun j p hj => ?_⟩
      obtain ⟨cc, hl, hk, hcell⟩ := hc0 j p hj
      refine ⟨cc, hl, hk, fun i u hu => ?_⟩
      have hq := hcell i u hu
      injection e1 with e1
      subst e1
      rw [← hq]
      have e2 : ((⟨g, 0, none⟩ : Addr).add (j * (Kd.int IntKind.u8).sz + i)) = ⟨g, j * (Kd.int IntKind.u8).sz + i, none⟩ := add_plain _ _
      rw [e2]
      simp [World.cell?, hh, hh']
end
end Go.Proofs.YtgjdcdhfijkoiaaDoor.Conv
end
section
namespace Go.Proofs.YtgjdcdhfijkoiaaDoor.Cod
open Go.RowKit Go.Proofs.YtgjdcdhfijkoiaaDoorW.PrintWords Go.Proofs.YtgjdcdhfijkoiaaDoorW.PrintLast Go.Proofs.YtgjdcdhfijkoiaaDoorW.PrintMore Go.Proofs.YtgjdcdhfijkoiaaDoor.Mem Go.Proofs.YtgjdcdhfijkoiaaDoor.PCod Go.Proofs.YtgjdcdhfijkoiaaDoor.Conv
set_option linter.unusedVariables false
set_option linter.unusedSimpArgs false
section
variable {w : World} {R : RM} {b r xs : List Int}
/-- A row as a string, in any later world. -/
theorem conv_row {w wd : World} {A : Option Addr} {c : Nat} {n : Nat} {xs : List Int} (hn : n = xs.length) (h : Kd.C (Kd.int .u8) w A xs.length xs) (hb : Below w.heap.size w wd) :
    (convert 27 9 (.slice A n c)).run Tryd.prog wd = .ok (.string (S xs)) wd := by
  subst hn
  exact Kd.C_string (P := Tryd.prog) (w := wd) (src := 27) (dst := 9) (e := 5) Tryd.underlying27 Tryd.underlying5 Tryd.underlying9 (Kd.C_below h hb)
/-- A row that came in, as it is read. -/
def InRow (w : World) (a : Option Addr) (len cap : Nat) (zs : List Int) : Prop :=
  (a = none ∧ len = 0 ∧ cap = 0 ∧ zs = []) ∨
  ∃ x, a = some x ∧ len ≤ cap ∧ cap ≤ maxLen ∧ zs.length = cap ∧ (∀ i, i < zs.length → w.cell? (x.add i) = some (.int .u8 (zs.getD i 0))) ∧ ∀ n ∈ zs, (Lit.int .u8 n).wf = true
/-! ### digests, compared -/
theorem plain_u8 : Tryd.prog.plainKey 5 = true := by kernel_rfl
theorem cells_u8 : Tryd.prog.cellsOf 5 = 1 := by kernel_rfl
theorem items_eq (W : World) (a b : List Int) : ∀ is : List Nat, (∀ j ∈ is, j < a.length ∧ j < b.length) →
    (Op.eqItems 9999 5 (Tryd.prog.cellsOf 5) (nums .u8 a).toArray (nums .u8 b).toArray is).run Tryd.prog W = .ok (is.all fun j => a.getD j 0 == b.getD j 0) W := by
  intro is
  induction is with
  | nil => intro _; simp [Op.eqItems]
  | cons j is ih =>
    intro h
    have hj := h j List.mem_cons_self
    have e : ∀ l : List Int, j < l.length → (nums .u8 l).toArray[j * Tryd.prog.cellsOf 5]? = some (.int .u8 (l.getD j 0)) := fun l hl => by
      rw [cells_u8, Nat.mul_one, List.getElem?_toArray]
      unfold nums
      rw [List.getElem?_map, List.getElem?_eq_getElem hl, List.getD_eq_getElem?_getD, List.getElem?_eq_getElem hl]
      rfl
    simp only [Op.eqItems, Sem.run_bind, run_part_plain W plain_u8 (e a hj.1), run_part_plain W plain_u8 (e b hj.2), Result.andThen_ok, run_equalIn_int W 9998 5 .u8 .u8 (a.getD j 0) (b.getD j 0) Tryd.underlying5, List.all_cons]
    cases hq : (a.getD j 0 == b.getD j 0)
    · simp
    · simp only [Bool.not_true, Bool.false_eq_true, if_false, Bool.true_and]
      exact ih (fun k hk => h k (List.mem_cons_of_mem _ hk))
set_option maxRecDepth 100000 in
theorem eq_id (a b : List Int) (ha : a.length = 32) (hb : b.length = 32) (W : World) : (Op.equalIn 10000 74 (.agg (nums .u8 a).toArray) (.agg (nums .u8 b).toArray)).run Tryd.prog W = .ok (a == b) W := by
  obtain ⟨i, hi, _⟩ := Option.map_eq_some_iff.1 info_u8s
  rw [run_equalIn_array W 9999 _ _ Tryd.underlying74 hi, items_eq W a b (List.range 32) (fun j hj => by have := List.mem_range.1 hj; omega)]
  congr 1
  rw [Bool.eq_iff_iff, List.all_eq_true, beq_iff_eq]
  constructor
  · intro h
    apply List.ext_getElem (by omega)
    intro j h1 h2
    have h3 := h j (List.mem_range.2 (by omega))
    rw [beq_iff_eq, List.getD_eq_getElem?_getD, List.getD_eq_getElem?_getD, List.getElem?_eq_getElem h1, List.getElem?_eq_getElem h2] at h3
    exact h3
  · intro h j _
    rw [h]; simp
end
end Go.Proofs.YtgjdcdhfijkoiaaDoor.Cod
end
section
namespace Go.Proofs.YtgjdcdhfijkoiaaDoor.Cod
open Go.RowKit Go.Proofs.YtgjdcdhfijkoiaaDoorW.PrintWords Go.Proofs.YtgjdcdhfijkoiaaDoorW.PrintLast Go.Proofs.YtgjdcdhfijkoiaaDoorW.PrintMore Go.Proofs.YtgjdcdhfijkoiaaDoor.Mem Go.Proofs.YtgjdcdhfijkoiaaDoor.PCod Go.Proofs.YtgjdcdhfijkoiaaDoor.Conv
set_option linter.unusedVariables false
set_option linter.unusedSimpArgs false
section
variable {w : World} {R : RM} {b r xs : List Int}
/-- Numbers, one behind the other. -/
def putAll (l : List Int) : List Int := (l.map putNum).flatten
/-- What is left of a row of numbers that was cut, behind some of them. -/
def restOf (l : List Int) (k i : Nat) : List Int := (putAll (l.drop i)).take (k - (putAll (l.take i)).length)
end
end Go.Proofs.YtgjdcdhfijkoiaaDoor.Cod
end
