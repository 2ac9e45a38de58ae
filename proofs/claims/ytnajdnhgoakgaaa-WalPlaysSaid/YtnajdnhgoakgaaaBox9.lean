/- The document's disk and log in variables. -/
import Derived.Test.YtnajdnhgoakgaaaOpnF
import Derived.Test.YtnajdnhgoakgaaaOpen
namespace Go.Proofs.Ytnajdnhgoakgaaa.Blk
open Go.RowKit Go.Proofs.YtnajdnhgoakgaaaW.PrintWords Go.Proofs.YtnajdnhgoakgaaaW.PrintLast Go.Proofs.YtnajdnhgoakgaaaW.PrintMore Go.Proofs.Ytnajdnhgoakgaaa.Mem Go.Proofs.Ytnajdnhgoakgaaa.Open Go.Proofs.Ytnajdnhgoakgaaa.Wal
set_option linter.unusedVariables false
set_option linter.unusedSimpArgs false
def D0 : DM := ⟨[], 0, 0, false⟩
/-- The document's log, by values. -/
structure RL where
  fr : Int
  n : Int
  first : Int
  next : Int
  hv : Int
  l : List ByteArray
  e : Int
def R0 : RL := ⟨0, 0, 0, 0, 0, [], 0⟩
def refl_ (L : LM) : RL := ⟨L.fr, L.n, L.First, L.next, L.hv, L.l.map strOfNums, L.e⟩
abbrev lcs (v : Value) (R : RL) : Array Value := #[.int .i64 R.fr, .int .i64 R.n, .int .u64 R.first, .int .u64 R.next, .int .i64 R.hv, v, .int .i64 R.e]
abbrev lv (v : Value) (R : RL) : Value := .agg (lcs v R)
def LBox (W : World) (g : Nat) (v : Value) (R : RL) : Prop := W.heap[g]? = some (.cells (lcs v R) 75 (0, 0))
section
variable {w w' : World} {g : Nat} {v : Value} {R : RL} {D : DM} {S : Nat → Prop}
theorem LBox.below (h : LBox w g v R) (hb : Below w.heap.size w w') : LBox w' g v R := (hb.block _ (blk_lt h)).trans h
theorem LBox.kept (h : LBox w g v R) (hk : Kept w w' S) (hs : ¬ S g) : LBox w' g v R := blk_kept h hk hs
theorem BoxAt.kept (h : BoxAt w g v D) (hk : Kept w w' S) (hs : ¬ S g) : BoxAt w' g v D := blk_kept h hk hs
theorem LBox.cells (h : LBox w g v R) : w.cell? ⟨g, 0, none⟩ = some (.int .i64 R.fr) ∧ w.cell? ⟨g, 1, none⟩ = some (.int .i64 R.n) ∧ w.cell? ⟨g, 2, none⟩ = some (.int .u64 R.first) ∧ w.cell? ⟨g, 3, none⟩ = some (.int .u64 R.next) ∧ w.cell? ⟨g, 4, none⟩ = some (.int .i64 R.hv) ∧ w.cell? ⟨g, 5, none⟩ = some v ∧ w.cell? ⟨g, 6, none⟩ = some (.int .i64 R.e) :=
  ⟨(blk_cell h 0).trans rfl, (blk_cell h 1).trans rfl, (blk_cell h 2).trans rfl, (blk_cell h 3).trans rfl, (blk_cell h 4).trans rfl, (blk_cell h 5).trans rfl, (blk_cell h 6).trans rfl⟩
end
section
variable {ops : Array Oper} {rest : List Oper} {o : Oper} {a : Act} {Q : Exit → Act → World → Prop} {W : World} {D D' : DM} {R R' : RL} {v0 : Value}
theorem box_new (hgd : o.guard = none) (hrun : (execOp a.eval o).run Try.prog W = .ok (.value (.pointer (some ⟨W.heap.size, 0, none⟩))) (W.alloc (.cells #[.slice none 0 0, .int .i64 0, .int .i64 0, .bool false] 30)))
    (h : ∀ W', BoxAt W' W.heap.size (.slice none 0 0) D0 → Below W.heap.size W W' → W'.heap.size = W.heap.size + 1 → wpList Try.prog ops Q rest (a.put o.dst (.pointer (some ⟨W.heap.size, 0, none⟩))) W') : wpList Try.prog ops Q (o :: rest) a W :=
  Kd.event_run hgd hrun (h _ (blk_new W _) (below_alloc (Below.refl _ _) _) (by simp))
theorem box_put (hgd : o.guard = none) (x y : Operand) (ho : o.op = .store 30 x y) {g n c : Nat} {A : Option Addr} (hx : a.eval x = .pointer (some ⟨g, 0, none⟩)) (hy : a.eval y = dv (.slice A n c) D') (hb : BoxAt W g v0 D)
    (h : ∀ W', BoxAt W' g (.slice A n c) D' → Kept W W' (fun k => k = g) → (∀ (B : Nat) (w0 : World), B ≤ g → Below B w0 W → Below B w0 W') → W'.heap.size = W.heap.size → wpList Try.prog ops Q rest (a.put o.dst undef) W') : wpList Try.prog ops Q (o :: rest) a W :=
  wpList_store_row hgd 30 x y ho g #[.slice A n c, .int .i64 D'.left, .int .i64 D'.torn, .bool D'.down] hx hy 30 _ hb (by kernel_rfl) rfl (by simp [Value.oneCell'])
    (h _ (setRow_heap W g _ _ _ _ hb) ⟨by simp, fun i _ hn => setRow_other W g i _ hn⟩ (fun B w0 hB h => below_setRow h hB _) (by simp))
theorem box_load (hgd : o.guard = none) (x : Operand) (ho : o.op = .load 30 x) {g : Nat} {v : Value} (hx : a.eval x = .pointer (some ⟨g, 0, none⟩)) (hb : BoxAt W g v D)
    (h : wpList Try.prog ops Q rest (a.put o.dst (dv v D)) W) : wpList Try.prog ops Q (o :: rest) a W :=
  wpList_load_row hgd 30 x ho g hx 30 #[v, .int .i64 D.left, .int .i64 D.torn, .bool D.down] (0, 0) _ hb Try.underlying30 rfl (by kernel_rfl) h
theorem lbox_new (hgd : o.guard = none) (hrun : (execOp a.eval o).run Try.prog W = .ok (.value (.pointer (some ⟨W.heap.size, 0, none⟩))) (W.alloc (.cells (lcs (.slice none 0 0) R0) 75)))
    (h : ∀ W', LBox W' W.heap.size (.slice none 0 0) R0 → Below W.heap.size W W' → W'.heap.size = W.heap.size + 1 → wpList Try.prog ops Q rest (a.put o.dst (.pointer (some ⟨W.heap.size, 0, none⟩))) W') : wpList Try.prog ops Q (o :: rest) a W :=
  Kd.event_run hgd hrun (h _ (blk_new W _) (below_alloc (Below.refl _ _) _) (by simp))
theorem lbox_put (hgd : o.guard = none) (x y : Operand) (ho : o.op = .store 75 x y) {g n c : Nat} {A : Option Addr} (hx : a.eval x = .pointer (some ⟨g, 0, none⟩)) (hy : a.eval y = lv (.slice A n c) R') (hb : LBox W g v0 R)
    (h : ∀ W', LBox W' g (.slice A n c) R' → Kept W W' (fun k => k = g) → (∀ (B : Nat) (w0 : World), B ≤ g → Below B w0 W → Below B w0 W') → W'.heap.size = W.heap.size → wpList Try.prog ops Q rest (a.put o.dst undef) W') : wpList Try.prog ops Q (o :: rest) a W :=
  wpList_store_row hgd 75 x y ho g (lcs (.slice A n c) R') hx hy 75 _ hb (by kernel_rfl) rfl (by simp [Value.oneCell'])
    (h _ (setRow_heap W g _ _ _ _ hb) ⟨by simp, fun i _ hn => setRow_other W g i _ hn⟩ (fun B w0 hB h => below_setRow h hB _) (by simp))
theorem lbox_load (hgd : o.guard = none) (x : Operand) (ho : o.op = .load 75 x) {g : Nat} {v : Value} (hx : a.eval x = .pointer (some ⟨g, 0, none⟩)) (hb : LBox W g v R)
    (h : wpList Try.prog ops Q rest (a.put o.dst (lv v R)) W) : wpList Try.prog ops Q (o :: rest) a W :=
  wpList_load_row hgd 75 x ho g hx 75 (lcs v R) (0, 0) _ hb Try.underlying75 rfl (by kernel_rfl) h
end
/-! ### Open -/
def openR (D : DM) (fr n : Int) : RL := if allE D fr n = 0 then refl_ (openM D fr n) else R0
section
variable {w : World} {D : DM}
theorem ropen_calls (hok : D.Ok) {A : Option Addr} {c : Nat} (hr : Kd.C Kd.string w A D.L.length D.L) (hc : D.L.length ≤ c) (fr n : Int) :
    Calls Try.prog 42 #[dv (.slice A D.L.length c) D, .int .i64 fr, .int .i64 n] w fun e w' => ∃ v : Value, e = .returned (.tuple #[lv v (openR D fr n), .int .i64 (allE D fr n)]) ∧ Kd.R Kd.string 9 w' w.heap.size (fun _ => True) v (openR D fr n).l ∧ Below w.heap.size w w' := by
  have h := open_f (fr := fr) (n := n) 200000 (Nat.le_refl _) hok
  obtain ⟨K, hK⟩ : ∃ K, K = 200000 := ⟨_, rfl⟩
  rw [← hK] at h
  by_cases hE : allE D fr n = 0
  · rw [if_pos hE] at h
    have z := Go.Proofs.Ytnajdnhgoakgaaa.PWal.baileeref09_Open.calls K A c D.L D.left D.torn D.down fr n _ _ _ _ _ _ _ _ w hr hc h
    have e : openR D fr n = refl_ (openM D fr n) := if_pos hE
    rw [e, hE]
    exact z
  · rw [if_neg hE] at h
    have z := Go.Proofs.Ytnajdnhgoakgaaa.PWal.baileeref09_Open.calls K A c D.L D.left D.torn D.down fr n _ _ _ _ _ _ _ _ w hr hc h
    have e : openR D fr n = R0 := if_neg hE
    rw [e]
    exact z
end
end Go.Proofs.Ytnajdnhgoakgaaa.Blk
