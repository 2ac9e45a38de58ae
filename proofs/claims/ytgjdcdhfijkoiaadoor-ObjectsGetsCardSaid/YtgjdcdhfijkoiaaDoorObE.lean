/- ObjectsBelow walked. -/
import Derived.Test.YtgjdcdhfijkoiaaDoorObD
import Derived.Test.YtgjdcdhfijkoiaaDoorFiE
import Derived.OpenShut
import Derived.ShutString
import Derived.Lib.SmallJoins
section
namespace Go.Proofs.YtgjdcdhfijkoiaaDoor.Obj
open Go.RowKit Go.Proofs.YtgjdcdhfijkoiaaDoorW.PrintWords Go.Proofs.YtgjdcdhfijkoiaaDoorW.PrintLast Go.Proofs.YtgjdcdhfijkoiaaDoorW.PrintMore Go.Proofs.YtgjdcdhfijkoiaaDoor.Mem Go.Proofs.YtgjdcdhfijkoiaaDoor.Cod Go.Proofs.YtgjdcdhfijkoiaaDoor.PCod Go.Proofs.YtgjdcdhfijkoiaaDoor.Str Go.Proofs.YtgjdcdhfijkoiaaDoor.Open Go.Proofs.YtgjdcdhfijkoiaaDoor.Conv
set_option linter.unusedVariables false
set_option linter.unusedSimpArgs false
/-- A row of n ids in its own block. -/
def RowB (W : World) (b n : Nat) (L : Nat → List Int) : Prop := ∃ cur : List Value, W.heap[b]? = some (.cells cur.toArray 74 (0, 0)) ∧ n * 32 ≤ cur.length ∧ ∀ i, i < n → (L i).length = 32 ∧ ∀ (j : Nat) (v : Value), (nums .u8 (L i))[j]? = some v → cur[i * 32 + j]? = some v
section
variable {W W' : World} {b n : Nat} {L : Nat → List Int}
theorem RowB.blk (h : RowB W b n L) (hb : W'.heap[b]? = W.heap[b]?) : RowB W' b n L := by
  obtain ⟨cur, h1, h2⟩ := h
  exact ⟨cur, hb.trans h1, h2⟩
theorem RowB.lt (h : RowB W b n L) : b < W.heap.size := by
  obtain ⟨cur, h1, h2⟩ := h
  exact blk_lt h1
theorem RowB.cell (h : RowB W b n L) {i : Nat} (hi : i < n) : ∀ (j : Nat) (v : Value), (nums .u8 (L i))[j]? = some v → W.cell? ⟨b, i * 32 + j, none⟩ = some v := by
  obtain ⟨cur, h1, h2, h3⟩ := h
  intro j v hj
  rw [blk_cell h1, List.getElem?_toArray]
  exact (h3 i hi).2 j v hj
theorem RowB.set (h : RowB W b n L) {i : Nat} (hi : i < n) (y : Int) : RowB (W.setCell ⟨b, i * 32, none⟩ (.int .u8 y)) b n (fun q => if q = i then (L i).set 0 y else L q) := by
  obtain ⟨cur, h1, h2, h3⟩ := h
  refine ⟨cur.set (i * 32) (.int .u8 y), by simpa using blk_set h1 (i * 32) (.int .u8 y), by rw [List.length_set]; exact h2, fun q hq => ?_⟩
  by_cases e : q = i
  · subst e
    dsimp only
    rw [if_pos rfl]
    refine ⟨by rw [List.length_set]; exact (h3 q hq).1, fun j v hj => ?_⟩
    by_cases hj0 : j = 0
    · subst hj0
      rw [Nat.add_zero, List.getElem?_set_self (by omega)]
      unfold nums at hj
      rw [List.getElem?_map, List.getElem?_set_self (by rw [(h3 q hq).1]; omega)] at hj
      exact hj
    · rw [List.getElem?_set_ne (by omega)]
      refine (h3 q hq).2 j v ?_
      unfold nums at hj ⊢
      rw [List.getElem?_map] at hj ⊢
      rw [List.getElem?_set_ne (by omega)] at hj
      exact hj
  · dsimp only
    rw [if_neg e]
    refine ⟨(h3 q hq).1, fun j v hj => ?_⟩
    have hj32 : j < 32 := by
      have := (List.getElem?_eq_some_iff.1 hj).1
      rw [nums_length, (h3 q hq).1] at this
      exact this
    rw [List.getElem?_set_ne (by omega)]
    exact (h3 q hq).2 j v hj
theorem exec_store1 {P : Program} {o : Oper} {ev : Operand → Value} (W : World) (ty : TypeId) (x y : Operand) (ho : o.op = .store ty x y) (g off : Nat) (v : Value) (hx : ev x = .pointer (some ⟨g, off, none⟩)) (hy : ev y = v) (hc : v.cells = #[v])
    (t : TypeId) (cs : List Value) (hg : W.heap[g]? = some (.cells cs.toArray t (0, 0))) (hi : (P.info? ty).map (·.size) = some 1) (hl : off < cs.length) (h1 : v.oneCell' = true) :
    (execOp ev o).run P W = .ok .skip (W.setCell ⟨g, off, none⟩ v) := by
  have hst := run_storeCells_cells (P := P) g off [v] 0 W (fun j hj => by
    have : j = 0 := by simp at hj; omega
    subst this
    rw [blk_cell hg, List.getElem?_toArray, List.getElem?_eq_getElem (by omega)]; rfl) (fun j hj => blk_frozen hg _) (fun u hu => by rw [List.mem_singleton.1 hu]; exact h1)
  cases hq : P.info? ty with
  | none => simp [hq] at hi
  | some i =>
    have hs : i.size = 1 := by simp [hq] at hi; exact hi
    unfold execOp
    simp only [ho, hx, hy, Instr.storeAt, Instr.sureAddr, Sem.run_bind, Sem.run_pure, Result.andThen_ok]
    simp [storeVar, sizeOf, typeInfo, hq, hc, hs, hst, World.setCells]
end
def incL (p : List Int) : List Int := p.set 0 (IntKind.u8.wrap (p.getD 0 0 + 1))
def stL (L0 : Nat → List Int) (i : Nat) : Nat → List Int := fun q => if q < i then incL (L0 q) else L0 q
section
variable {w : World} {x : OM} {cs : Array Value} {A Y E : Option Addr} {bc yc ec : Nat}
end
end Go.Proofs.YtgjdcdhfijkoiaaDoor.Obj
end
section
namespace Go.Proofs.YtgjdcdhfijkoiaaDoor.Obj
open Go.RowKit Go.Proofs.YtgjdcdhfijkoiaaDoorW.PrintWords Go.Proofs.YtgjdcdhfijkoiaaDoorW.PrintLast Go.Proofs.YtgjdcdhfijkoiaaDoorW.PrintMore Go.Proofs.YtgjdcdhfijkoiaaDoor.Mem Go.Proofs.YtgjdcdhfijkoiaaDoor.Cod Go.Proofs.YtgjdcdhfijkoiaaDoor.PCod Go.Proofs.YtgjdcdhfijkoiaaDoor.Str Go.Proofs.YtgjdcdhfijkoiaaDoor.Open Go.Proofs.YtgjdcdhfijkoiaaDoor.Conv
set_option linter.unusedVariables false
set_option linter.unusedSimpArgs false
def zero32 : List Int := List.replicate 32 0
def pO (n : Nat) : OM := ⟨1, List.replicate n 0, 0, [], [], ByteArray.empty⟩
def sO (k : Nat) : OM := ⟨4, [], 0, [zero32], [], S (List.replicate k 0)⟩
def lO (z : Int) (d : Nat) : OM := ⟨2, [], z, List.replicate d zero32, [], ByteArray.empty⟩
section
variable {w : World}
end
end Go.Proofs.YtgjdcdhfijkoiaaDoor.Obj
end
section
namespace Go.Proofs.YtgjdcdhfijkoiaaDoor.Obj
open Go.ChangeShapes Go.WideShapes Go.RowKit Go.Proofs.YtgjdcdhfijkoiaaDoorW.PrintWords Go.Proofs.YtgjdcdhfijkoiaaDoor.Mem Go.Proofs.YtgjdcdhfijkoiaaDoor.Cod Go.Proofs.YtgjdcdhfijkoiaaDoor.PCod Go.Proofs.YtgjdcdhfijkoiaaDoor.Str Go.Proofs.YtgjdcdhfijkoiaaDoor.Open
set_option linter.unusedVariables false
set_option linter.unusedSimpArgs false
section
variable {H : Type} {enc : TypeId × Value → H} {P : Program} {w : World} {base : Nat} {held : Bool}
end
section
variable {H : Type} {enc : TypeId × Value → H} {w : World} {base : Nat}
theorem drop_take {cs : List Value} {i n : Nat} {l : List Value} (h : (cs.drop i).take n = l) (hl : i + n ≤ cs.length) : cs.drop i = l ++ cs.drop (i + n) := by
  rw [← h, ← List.drop_drop]
  exact (List.take_append_drop n (cs.drop i)).symm
instance : Inhabited EM := ⟨eNone⟩
end
end Go.Proofs.YtgjdcdhfijkoiaaDoor.Obj
end
