/- The document's disk in a variable; the two disks side by side. -/
import Derived.Test.YtnajdnhgoakgaaaLike
import Derived.Test.YtnajdnhgoakgaaaOpen6
namespace Go.Proofs.Ytnajdnhgoakgaaa.Blk
open Go.RowKit Go.Proofs.YtnajdnhgoakgaaaW.PrintWords Go.Proofs.YtnajdnhgoakgaaaW.PrintLast Go.Proofs.YtnajdnhgoakgaaaW.PrintMore Go.Proofs.Ytnajdnhgoakgaaa.Mem Go.Proofs.Ytnajdnhgoakgaaa.Open
set_option linter.unusedVariables false
set_option linter.unusedSimpArgs false
def D0 : DM := ⟨[], 0, 0, false⟩
abbrev sl (A : Option Addr) (n c : Nat) : Value := .slice A n c
section
variable {ops : Array Oper} {rest : List Oper} {o : Oper} {a : Act} {Q : Exit → Act → World → Prop} {W : World} {D D' : DM} {v0 : Value}
theorem gate_store {P : Program} {ty : TypeId} {x y : Operand} (hs : o.op = .store ty x y) (h : wpList P ops Q (o :: rest) a W) : wpList P ops Q (o :: rest) a W := h
theorem box_new (hgd : o.guard = none) (hrun : (execOp a.eval o).run Try.prog W = .ok (.value (.pointer (some ⟨W.heap.size, 0, none⟩))) (W.alloc (.cells #[.slice none 0 0, .int .i64 0, .int .i64 0, .bool false] 30)))
    (h : ∀ W', BoxAt W' W.heap.size (.slice none 0 0) D0 → Below W.heap.size W W' → W'.heap.size = W.heap.size + 1 → wpList Try.prog ops Q rest (a.put o.dst (.pointer (some ⟨W.heap.size, 0, none⟩))) W') : wpList Try.prog ops Q (o :: rest) a W :=
  Kd.event_run hgd hrun (h _ (blk_new W _) (below_alloc (Below.refl _ _) _) (by simp))
theorem box_put (hgd : o.guard = none) (x y : Operand) (ho : o.op = .store 30 x y) {g n c : Nat} {A : Option Addr} (hx : a.eval x = .pointer (some ⟨g, 0, none⟩)) (hy : a.eval y = dv (.slice A n c) D') (hb : BoxAt W g v0 D)
    (h : ∀ W', BoxAt W' g (.slice A n c) D' → Kept W W' (fun k => k = g) → (∀ (B : Nat) (w0 : World), B ≤ g → Below B w0 W → Below B w0 W') → W'.heap.size = W.heap.size → wpList Try.prog ops Q rest (a.put o.dst undef) W') : wpList Try.prog ops Q (o :: rest) a W :=
  wpList_store_row hgd 30 x y ho g #[.slice A n c, .int .i64 D'.left, .int .i64 D'.torn, .bool D'.down] hx hy 30 _ hb (by kernel_rfl) rfl (by simp [Value.oneCell'])
    (h _ (setRow_heap W g _ _ _ _ hb) ⟨by simp, fun i _ hn => setRow_other W g i _ hn⟩ (fun B w0 hB h => below_setRow h hB _) (by simp))
theorem box_load (hgd : o.guard = none) (x : Operand) (ho : o.op = .load 30 x) {g : Nat} {v : Value} (hx : a.eval x = .pointer (some ⟨g, 0, none⟩)) (hb : BoxAt W g v D)
    (h : wpList Try.prog ops Q rest (a.put o.dst (dv v D)) W) : wpList Try.prog ops Q (o :: rest) a W :=
  wpList_load_row hgd 30 x ho g hx 30 #[v, .int .i64 D.left, .int .i64 D.torn, .bool D.down] (0, 0) _ hb Try.underlying30 rfl (by kernel_rfl) h
end
section
variable {w wr W W' : World} {g gw : Nat} {D D' : DM} {F P : Nat → Prop}
def PlI (w wr : World) (g gw : Nat) (D : DM) : Prop := ∃ (F P : Nat → Prop) (A : Option Addr) (c : Nat), DiskAt wr F g D ∧ (∀ k, F k → w.heap.size ≤ k ∧ k < wr.heap.size) ∧ BoxAt wr gw (.slice A D.L.length c) D ∧
  Kd.R Kd.string 9 wr w.heap.size P (.slice A D.L.length c) D.L ∧ (∀ k, P k → k < wr.heap.size ∧ ¬ F k) ∧ ¬ F gw ∧ ¬ P gw ∧ w.heap.size ≤ gw ∧ Below w.heap.size w wr
theorem PlI.below (h : PlI w wr g gw D) (hb : Below wr.heap.size wr W) : PlI w W g gw D := by
  obtain ⟨F, P, A, c, h1, h2, h3, h4, h5, h6, h7, h8, h9⟩ := h
  exact ⟨F, P, A, c, h1.below hb, fun k hk => ⟨(h2 k hk).1, Nat.lt_of_lt_of_le (h2 k hk).2 hb.size⟩, h3.below hb, Kd.R_below h4 hb, fun k hk => ⟨Nat.lt_of_lt_of_le (h5 k hk).1 hb.size, (h5 k hk).2⟩, h6, h7, h8, below_step h9 hb⟩
theorem BoxAt.kept {v : Value} {S : Nat → Prop} (h : BoxAt W gw v D) (hk : Kept W W' S) (hs : ¬ S gw) : BoxAt W' gw v D := blk_kept h hk hs
/-- The new disk of the document stands in its variable. -/
theorem pl_done {A : Option Addr} {c : Nat} (hd : DiskAt W F g D) (hF : ∀ k, F k → w.heap.size ≤ k ∧ k < W.heap.size) (hr : Kd.R Kd.string 9 W w.heap.size P (.slice A D.L.length c) D.L) (hP : ∀ k, P k → ¬ F k) (h6 : ¬ F gw) (h7 : ¬ P gw) (h8 : w.heap.size ≤ gw)
    (hk : Kept W W' (fun k => k = gw)) (hb : BoxAt W' gw (.slice A D.L.length c) D) (h9 : Below w.heap.size w W') : PlI w W' g gw D := by
  refine ⟨F, fun k => P k ∧ k < W.heap.size, A, c, hd.kept hk (fun k h e => h6 (by rw [← e]; exact h)), fun k h => ⟨(hF k h).1, Nat.lt_of_lt_of_le (hF k h).2 hk.1⟩, hb, ?_, fun k h => ⟨Nat.lt_of_lt_of_le h.2 hk.1, hP k h.1⟩, h6, fun h => h7 h.1, h8, h9⟩
  exact Kd.R_kept (Kd.R_mono (Kd.R_bound hr) (fun k h => ⟨h.1, h.2.2.1⟩)) hk (fun k h e => h7 (by rw [← e]; exact h.1))
end
end Go.Proofs.Ytnajdnhgoakgaaa.Blk
