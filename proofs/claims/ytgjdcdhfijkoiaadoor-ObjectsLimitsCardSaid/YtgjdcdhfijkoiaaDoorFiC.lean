/- files.Get: the tree of bytes. -/
import Derived.Test.YtgjdcdhfijkoiaaDoorFiB
section
namespace Go.Proofs.YtgjdcdhfijkoiaaDoor.Str
open Go.RowKit Go.Proofs.YtgjdcdhfijkoiaaDoorW.PrintWords Go.Proofs.YtgjdcdhfijkoiaaDoorW.PrintLast Go.Proofs.YtgjdcdhfijkoiaaDoorW.PrintMore Go.Proofs.YtgjdcdhfijkoiaaDoor.Mem Go.Proofs.YtgjdcdhfijkoiaaDoor.PCod Go.Proofs.YtgjdcdhfijkoiaaDoor.Cod
set_option linter.unusedVariables false
set_option linter.unusedSimpArgs false
/-- What is held may become more, behind some operations of a drawn region. -/
theorem hold_ {P : Program} {md : Region.Mode} {ops : Array Oper} {Q : Exit → Act → World → Prop} {S' : World → Prop} {ds : List Nat} : ∀ (fuel : Nat) (l : Array Bool) (a : Act) (w : World), wpAnyLast P md ops Q S' ds fuel l a w → wpAnyLast P md ops Q (fun _ => True) ds fuel l a w
  | 0, _, _, _, h => h
  | fuel + 1, _, _, _, h => ⟨h.1, fun i hi => wpOp_mono (fun a' w' h' => ⟨fun _ _ => trivial, hold_ fuel _ a' w' h'.2⟩) (h.2 i hi)⟩
def oneF (R : RM) : FS := ⟨strOfNums (R.bytes 255).2, ((R.bytes 255).1.bytes 1048576).2⟩
def stepF (R : RM) : RM := ((R.bytes 255).1.bytes 1048576).1
def getGo : Nat → RM → List FS → RM × List FS
  | 0, R, o => (R, o)
  | n + 1, R, o => if R.e ≠ 0 then (R, o) else getGo n (stepF R) (o ++ [oneF R])
def getM (b : List Int) : List FS × Int :=
  if 65536 < (⟨b, 0⟩ : RM).uint.2 then ([], 13) else
  if (getGo (⟨b, 0⟩ : RM).uint.2.toNat (⟨b, 0⟩ : RM).uint.1 []).1.end_ ≠ 0 then ([], (getGo (⟨b, 0⟩ : RM).uint.2.toNat (⟨b, 0⟩ : RM).uint.1 []).1.end_) else
  if checkM (getGo (⟨b, 0⟩ : RM).uint.2.toNat (⟨b, 0⟩ : RM).uint.1 []).2 ≠ 0 then ([], 11) else ((getGo (⟨b, 0⟩ : RM).uint.2.toNat (⟨b, 0⟩ : RM).uint.1 []).2, 0)
/-- The reader, and what has come out of it. -/
structure GS (w W : World) (b2 g : Nat) (R : RM) (v : Value) (o : List FS) : Prop where
  bl : Below w.heap.size w W
  b0 : w.heap.size ≤ b2
  bs : b2 ≤ W.heap.size
  rd : ∃ F : Nat → Prop, RdAt W F g R ∧ (∀ k, F k → w.heap.size ≤ k ∧ k < b2) ∧ F g
  out : Kd.R k50 50 W w.heap.size (fun k => b2 ≤ k) v o
section
variable {w W W' : World} {b2 g : Nat} {R R' : RM} {v : Value} {o : List FS}
theorem GS.below (h : GS w W b2 g R v o) (hb : Below W.heap.size W W') : GS w W' b2 g R v o := by
  obtain ⟨F, h1, h2, h3⟩ := h.rd
  exact ⟨below_step h.bl hb, h.b0, Nat.le_trans h.bs hb.size, ⟨F, h1.below hb, h2, h3⟩, Kd.R_below h.out hb⟩
theorem GS.lt (h : GS w W b2 g R v o) : g < b2 := by
  obtain ⟨F, h1, h2, h3⟩ := h.rd
  exact (h2 g h3).2
theorem GS.step (h : GS w W b2 g R v o) (hb : Below w.heap.size w W') (hk : Kept W W' (fun k => k = g)) (hd : ∀ F : Nat → Prop, RdAt W F g R → (∀ k, F k → w.heap.size ≤ k ∧ k < b2) → RdAt W' F g R') : GS w W' b2 g R' v o := by
  have hlt := h.lt
  obtain ⟨F, h1, h2, h3⟩ := h.rd
  exact ⟨hb, h.b0, Nat.le_trans h.bs hk.1, ⟨F, hd F h1 h2, h2, h3⟩, Kd.R_kept h.out hk (fun k hk e => by have : k = g := e; omega)⟩
theorem GS.uint (h : GS w W b2 g R v o) : Calls Tryd.prog 50 #[.pointer (some ⟨g, 0, none⟩)] W fun e w' => e = .returned (.int .u64 R.uint.2) ∧ GS w w' b2 g R.uint.1 v o := by
  have hlt := h.lt
  obtain ⟨F, h1, h2, h3⟩ := h.rd
  refine (uint_any h.bl (fun k hk => (h2 k hk).1) h1).mono ?_
  rintro e w' ⟨rfl, q1, q2, q3⟩
  exact ⟨rfl, q2, h.b0, Nat.le_trans h.bs q3.1, ⟨F, q1, h2, h3⟩, Kd.R_kept h.out q3 (fun k hk e => by have : k = g := e; omega)⟩
theorem GS.err (h : GS w W b2 g R v o) : Calls Tryd.prog 51 #[.pointer (some ⟨g, 0, none⟩)] W fun e w' => e = .returned (.int .i64 R.e) ∧ W = w' := by
  obtain ⟨F, h1, h2, h3⟩ := h.rd
  exact err_calls h1
theorem GS.end_ (h : GS w W b2 g R v o) : Calls Tryd.prog 53 #[.pointer (some ⟨g, 0, none⟩)] W fun e w' => e = .returned (.int .i64 R.end_) ∧ W = w' := by
  obtain ⟨F, h1, h2, h3⟩ := h.rd
  exact end_calls h1
theorem GS.byt (h : GS w W b2 g R v o) : Byt R.b := by
  obtain ⟨F, h1, h2, h3⟩ := h.rd
  exact h1.byt
theorem GS.bytes (h : GS w W b2 g R v o) (m : Int) (hm : m ≤ 9223372036854775807) : Calls Tryd.prog 52 #[.pointer (some ⟨g, 0, none⟩), .int .i64 m] W fun e w' => ∃ u, e = .returned u ∧ Kd.R (Kd.int .u8) 5 w' W.heap.size (fun k => some k = u.ownBlock) u (R.bytes m).2 ∧ GS w w' b2 g (R.bytes m).1 v o ∧ Kept W w' (fun k => k = g) := by
  have hlt := h.lt
  obtain ⟨F, h1, h2, h3⟩ := h.rd
  refine (bytes_calls h.bl (fun k hk => (h2 k hk).1) h1 m hm).mono ?_
  rintro e w' ⟨u, rfl, q0, q1, q2, q3⟩
  exact ⟨u, rfl, Kd.R_tight rfl q0, ⟨q2, h.b0, Nat.le_trans h.bs q3.1, ⟨F, q1, h2, h3⟩, Kd.R_kept h.out q3 (fun k hk e => by have : k = g := e; omega)⟩, q3⟩
/-- A row of bytes in its own block stays, where its block stays. -/
theorem row_stays {e N : Nat} {u : Value} {p : List Int} {S : Nat → Prop} (h : Kd.R (Kd.int .u8) e W N (fun k => some k = u.ownBlock) u p) (hk : Kept W W' S) (hs : ∀ k, N ≤ k → ¬ S k) : Kd.R (Kd.int .u8) e W' N (fun k => some k = u.ownBlock) u p :=
  Kd.R_mono (Kd.R_kept (Kd.R_bound h) hk (fun k hk => hs k hk.2.1)) (fun k hk => hk.1)
theorem row_conv {N : Nat} {u : Value} {p : List Int} {ok : Nat → Prop} (hy : Byt p) (h : Kd.R (Kd.int .u8) 5 W N ok u p) : (convert 27 9 u).run Tryd.prog W = .ok (.string (S p)) W := by
  obtain ⟨A, c, rfl, _, hC⟩ := Kd.R_reads h
  exact conv_row rfl hC (Below.refl _ _)
end
section
variable {w : World}
end
end Go.Proofs.YtgjdcdhfijkoiaaDoor.Str
end
section
namespace Go.Proofs.YtgjdcdhfijkoiaaDoor.Str
open Go.RowKit Go.Proofs.YtgjdcdhfijkoiaaDoorW.PrintWords Go.Proofs.YtgjdcdhfijkoiaaDoorW.PrintLast Go.Proofs.YtgjdcdhfijkoiaaDoorW.PrintMore Go.Proofs.YtgjdcdhfijkoiaaDoor.Mem Go.Proofs.YtgjdcdhfijkoiaaDoor.PCod Go.Proofs.YtgjdcdhfijkoiaaDoor.Cod
set_option linter.unusedVariables false
set_option linter.unusedSimpArgs false
def cutB (s : ByteArray) : ByteArray := if slashAt s < 0 then s else s.extract 0 (slashAt s).toNat
def cutA (s : ByteArray) : ByteArray := if slashAt s < 0 then ⟨#[]⟩ else s.extract ((slashAt s).toNat + 1) s.size
def cutQ (s : ByteArray) : Bool := decide (0 ≤ slashAt s)
section
variable {w : World}
/-- What stands behind a front, and whether it does. -/
def pre (s p : ByteArray) : Bool := decide (p.size ≤ s.size) && ((s.extract 0 p.size).toList == p.toList)
end
end Go.Proofs.YtgjdcdhfijkoiaaDoor.Str
end
