/- The document's log: Add; its refusals. -/
import Derived.Test.YtnajdnhgoakgaaaRBeg
namespace Go.Proofs.Ytnajdnhgoakgaaa.Blk
open Go.RowKit Go.Proofs.YtnajdnhgoakgaaaW.PrintWords Go.Proofs.YtnajdnhgoakgaaaW.PrintLast Go.Proofs.YtnajdnhgoakgaaaW.PrintMore Go.Proofs.Ytnajdnhgoakgaaa.Mem Go.Proofs.Ytnajdnhgoakgaaa.Open Go.Proofs.Ytnajdnhgoakgaaa.Wal
set_option linter.unusedVariables false
set_option linter.unusedSimpArgs false
set_option maxRecDepth 100000
set_option maxHeartbeats 8000000
def Own (v : Value) : Nat → Prop := fun k => v.ownBlock = some k
theorem R_tight {w : World} {e base : Nat} {ok : Nat → Prop} {v : Value} {xs : List ByteArray} (h : Kd.R Kd.string e w base ok v xs) : Kd.R Kd.string e w base (Own v) v xs := by
  obtain ⟨h0, inner, ho, hr⟩ := h
  exact ⟨fun k hk => hk, inner, ho, hr⟩
theorem own_lt_ {w : World} {e base : Nat} {ok : Nat → Prop} {v : Value} {xs : List ByteArray} (h : Kd.R Kd.string e w base ok v xs) : ∀ k, Own v k → base ≤ k ∧ k < w.heap.size := fun k hk => ⟨((Kd.R_bound h).1 k hk).2.1, ((Kd.R_bound h).1 k hk).2.2.1⟩
theorem add_p (b o j : Nat) : (⟨b, o, none⟩ : Addr).add j = ⟨b, o + j, none⟩ := by unfold Addr.add; split <;> simp_all
section
variable {P : Program} {o' : Oper} {ev : Operand → Value}
theorem exec_store_row (W : World) (ty : TypeId) (x y : Operand) (ho : o'.op = .store ty x y) (g : Nat) (cells : Array Value) (hx : ev x = .pointer (some ⟨g, 0, none⟩)) (hy : ev y = .agg cells)
    (t : TypeId) (old : Array Value) (hg : W.heap[g]? = some (.cells old t (0, 0))) (hi : (P.info? ty).map (·.size) = some cells.size) (hold : old.size = cells.size) (h1 : cells.all (·.oneCell') = true) :
    (execOp ev o').run P W = .ok .skip (W.setRow g cells) := by
  unfold execOp
  simp only [ho, hx, hy, Instr.storeAt, Instr.sureAddr, Sem.run_bind, Sem.run_pure, Result.andThen_ok, run_storeVar_row W g t ty old cells hg hi hold h1]
end
section
variable {W : World} {o' : Oper} {ev : Operand → Value} {g : Nat} {D D' : DM} {R R' : RL} {v v0 : Value} {A : Option Addr} {n c : Nat}
theorem loadD (h : BoxAt W g v D) (x : Operand) (ho : o'.op = .load 30 x) (hx : ev x = .pointer (some ⟨g, 0, none⟩)) : (execOp ev o').run Try.prog W = .ok (.value (dv v D)) W :=
  exec_load_any W 30 x ho ⟨g, 0, none⟩ hx [v, .int .i64 D.left, .int .i64 D.torn, .bool D.down] _ (fun j y hj => by rw [add_p, Nat.zero_add, blk_cell h j]; simpa using hj) Try.underlying30 rfl (by kernel_rfl)
theorem loadL (h : LBox W g v R) (x : Operand) (ho : o'.op = .load 75 x) (hx : ev x = .pointer (some ⟨g, 0, none⟩)) : (execOp ev o').run Try.prog W = .ok (.value (lv v R)) W :=
  exec_load_any W 75 x ho ⟨g, 0, none⟩ hx [.int .i64 R.fr, .int .i64 R.n, .int .u64 R.first, .int .u64 R.next, .int .i64 R.hv, v, .int .i64 R.e] _ (fun j y hj => by rw [add_p, Nat.zero_add, blk_cell h j]; simpa using hj) Try.underlying75 rfl (by kernel_rfl)
def putD (W : World) (g : Nat) (v : Value) (D : DM) : World := W.setRow g #[v, .int .i64 D.left, .int .i64 D.torn, .bool D.down]
def putL (W : World) (g : Nat) (v : Value) (R : RL) : World := W.setRow g (lcs v R)
theorem storeD (h : BoxAt W g v0 D) (x y : Operand) (ho : o'.op = .store 30 x y) (hx : ev x = .pointer (some ⟨g, 0, none⟩)) (hy : ev y = dv (.slice A n c) D') : (execOp ev o').run Try.prog W = .ok .skip (putD W g (.slice A n c) D') :=
  exec_store_row W 30 x y ho g _ hx hy 30 _ h (by kernel_rfl) rfl (by simp [Value.oneCell'])
theorem storeL (h : LBox W g v0 R) (x y : Operand) (ho : o'.op = .store 75 x y) (hx : ev x = .pointer (some ⟨g, 0, none⟩)) (hy : ev y = lv (.slice A n c) R') : (execOp ev o').run Try.prog W = .ok .skip (putL W g (.slice A n c) R') :=
  exec_store_row W 75 x y ho g _ hx hy 75 _ h (by kernel_rfl) rfl (by simp [Value.oneCell'])
theorem putD_box (h : BoxAt W g v0 D) (v : Value) (D' : DM) : BoxAt (putD W g v D') g v D' := setRow_heap W g _ _ _ _ h
theorem putL_box (h : LBox W g v0 R) (v : Value) (R' : RL) : LBox (putL W g v R') g v R' := setRow_heap W g _ _ _ _ h
theorem putD_kept (W : World) (g : Nat) (v : Value) (D' : DM) : Kept W (putD W g v D') (fun k => k = g) := ⟨by unfold putD; simp, fun i _ hn => setRow_other W g i _ hn⟩
theorem putL_kept (W : World) (g : Nat) (v : Value) (R' : RL) : Kept W (putL W g v R') (fun k => k = g) := ⟨by unfold putL; simp, fun i _ hn => setRow_other W g i _ hn⟩
theorem putD_below {B : Nat} {w0 : World} (h : Below B w0 W) (hB : B ≤ g) (v : Value) (D' : DM) : Below B w0 (putD W g v D') := below_setRow h hB _
theorem putL_below {B : Nat} {w0 : World} (h : Below B w0 W) (hB : B ≤ g) (v : Value) (R' : RL) : Below B w0 (putL W g v R') := below_setRow h hB _
end
/-- Under way: the two in their variables, the two results. -/
structure AS (w0 w wr : World) (g3 g4 g6 g7 : Nat) (v0 u0 v u : Value) (D : DM) (R : RL) : Prop where
  bl : Below w0.heap.size w0 wr
  kp : Kept w wr (Own v0)
  b0 : w0.heap.size ≤ w.heap.size
  d : BoxAt wr g3 v D
  l : LBox wr g4 u R
  d6 : BoxAt wr g6 (.slice none 0 0) D0
  l7 : LBox wr g7 (.slice none 0 0) R0
  gs : w.heap.size ≤ g3 ∧ g3 < g4 ∧ g4 < g6 ∧ g6 < g7
  vr : Kd.R Kd.string 9 wr w0.heap.size (Own v) v D.L
  ur : Kd.R Kd.string 9 wr w0.heap.size (Own u) u R.l
  vo : ∀ k, Own v k → (Own v0 k ∨ w.heap.size ≤ k) ∧ k ≠ g3 ∧ k ≠ g4 ∧ k ≠ g6 ∧ k ≠ g7 ∧ ¬ Own u k
  vw : ∀ k, Own v0 k → k < w.heap.size
  uo : ∀ k, Own u k → (Own u0 k ∨ w.heap.size ≤ k) ∧ k ≠ g3 ∧ k ≠ g4 ∧ k ≠ g6 ∧ k ≠ g7
structure APost (w0 w w' : World) (v0 u0 v u : Value) (D : DM) (R : RL) : Prop where
  vr : Kd.R Kd.string 9 w' w0.heap.size (Own v) v D.L
  ur : Kd.R Kd.string 9 w' w0.heap.size (Own u) u R.l
  vo : ∀ k, Own v k → (Own v0 k ∨ w.heap.size ≤ k)
  uo : ∀ k, Own u k → (Own u0 k ∨ w.heap.size ≤ k)
  ap : ∀ k, Own v k → ¬ Own u k
  bl : Below w0.heap.size w0 w'
  kp : Kept w w' (Own v0)
section
variable {w0 w wr W : World} {g3 g4 g6 g7 : Nat} {v0 u0 v u : Value} {D : DM} {R : RL}
theorem AS.below (h : AS w0 w wr g3 g4 g6 g7 v0 u0 v u D R) (hb : Below wr.heap.size wr W) : AS w0 w W g3 g4 g6 g7 v0 u0 v u D R :=
  ⟨below_step h.bl hb, h.kp.below hb, h.b0, h.d.below hb, h.l.below hb, h.d6.below hb, h.l7.below hb, h.gs, Kd.R_below h.vr hb, Kd.R_below h.ur hb, h.vo, h.vw, h.uo⟩
theorem AS.post (h : AS w0 w wr g3 g4 g6 g7 v0 u0 v u D R) (hk : Kept wr W (fun k => k = g6 ∨ k = g7)) (hb : Below w0.heap.size w0 W) : APost w0 w W v0 u0 v u D R := by
  obtain ⟨a1, a2, a3, a4⟩ := h.gs
  refine ⟨Kd.R_kept h.vr hk (fun k hv e => ?_), Kd.R_kept h.ur hk (fun k hv e => ?_), fun k hv => (h.vo k hv).1, fun k hu => (h.uo k hu).1, fun k hv => (h.vo k hv).2.2.2.2.2, hb, h.kp.then_ hk (fun k e => .inr (by omega))⟩
  · have := (h.vo k hv).2; omega
  · have := (h.uo k hv).2; omega
end
end Go.Proofs.Ytnajdnhgoakgaaa.Blk
