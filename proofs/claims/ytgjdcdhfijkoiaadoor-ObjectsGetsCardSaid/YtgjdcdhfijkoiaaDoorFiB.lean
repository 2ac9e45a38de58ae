/- files.paths: whether files' paths are a tree's. -/
import Derived.Test.YtgjdcdhfijkoiaaDoorFiA
import Derived.Test.YtgjdcdhfijkoiaaDoorPxA
import Derived.Test.YtgjdcdhfijkoiaaDoorCoB
import Derived.Laws.Cover1
section
namespace Go.Proofs.YtgjdcdhfijkoiaaDoor.Str
open Go.RowKit Go.Proofs.YtgjdcdhfijkoiaaDoorW.PrintWords Go.Proofs.YtgjdcdhfijkoiaaDoorW.PrintLast Go.Proofs.YtgjdcdhfijkoiaaDoorW.PrintMore Go.Proofs.YtgjdcdhfijkoiaaDoor.Mem Go.Proofs.YtgjdcdhfijkoiaaDoor.PCod
set_option linter.unusedVariables false
set_option linter.unusedSimpArgs false
/-! ### a file in its variable -/
abbrev FS := S50
def FileBox (w : World) (g : Nat) (s : ByteArray) (B : Option Addr) (bl bc : Nat) : Prop := w.heap[g]? = some (.cells #[.string s, .slice B bl bc] 50 (0, 0))
section
variable {ops : Array Oper} {rest : List Oper} {o : Oper} {a : Act} {Q : Exit → Act → World → Prop} {W : World}
theorem gate_store {P : Program} {ty : TypeId} {x y : Operand} (hs : o.op = .store ty x y) (h : wpList P ops Q (o :: rest) a W) : wpList P ops Q (o :: rest) a W := h
theorem FileBox.below {w w' : World} {g : Nat} {s : ByteArray} {B : Option Addr} {bl bc : Nat} (h : FileBox w g s B bl bc) (hb : Below w.heap.size w w') : FileBox w' g s B bl bc := (hb.block _ (blk_lt h)).trans h
end
/-! ### what it tells -/
/-- Is the front of a path, up to a slash, among those that were seen? -/
def frontIn (seen : List (List UInt8)) (s : ByteArray) : Bool := (List.range s.size).any (fun k => bt s k == 47 && decide ((s.extract 0 k).data.toList ∈ seen))
/-- Is the first path in front of the second? -/
def lessS (a b : ByteArray) : Bool := Op.bytesLess a.toList b.toList
def pathsGo : Option ByteArray → List (List UInt8) → List FS → Bool
  | _, _, [] => true
  | p, seen, f :: r => pathM f.f0 && (match p with | none => true | some q => lessS q f.f0) && !frontIn seen f.f0 && pathsGo (some f.f0) (f.f0.data.toList :: seen) r
def pathsM (l : List FS) : Bool := pathsGo none [] l
def prevOf (l : List FS) (i : Nat) : Option ByteArray := if i = 0 then none else some (l.getD (i - 1) z50).f0
def seenOf (l : List FS) (i : Nat) : List (List UInt8) := ((l.take i).map (fun f => f.f0.data.toList)).reverse
section
variable {w : World}
end
end Go.Proofs.YtgjdcdhfijkoiaaDoor.Str
end
section
namespace Go.Proofs.YtgjdcdhfijkoiaaDoor.Str
open Go.RowKit Go.Proofs.YtgjdcdhfijkoiaaDoorW.PrintWords Go.Proofs.YtgjdcdhfijkoiaaDoorW.PrintLast Go.Proofs.YtgjdcdhfijkoiaaDoorW.PrintMore Go.Proofs.YtgjdcdhfijkoiaaDoor.Mem Go.Proofs.YtgjdcdhfijkoiaaDoor.PCod
set_option linter.unusedVariables false
set_option linter.unusedSimpArgs false
def bigF (f : FS) : Bool := decide (1048576 < f.f1.length)
def sumF (l : List FS) : Nat := (l.map (fun f => f.f1.length)).sum
def checkM (l : List FS) : Int := if pathsM l = false then 1 else if l.any bigF = true then 13 else if 16777216 < sumF l ∨ 65536 < l.length then 13 else 0
section
variable {w : World}
end
end Go.Proofs.YtgjdcdhfijkoiaaDoor.Str
end
section
namespace Go.Proofs.YtgjdcdhfijkoiaaDoor.Str
open Go.RowKit Go.Proofs.YtgjdcdhfijkoiaaDoorW.PrintWords Go.Proofs.YtgjdcdhfijkoiaaDoorW.PrintLast Go.Proofs.YtgjdcdhfijkoiaaDoorW.PrintMore Go.Proofs.YtgjdcdhfijkoiaaDoor.Mem Go.Proofs.YtgjdcdhfijkoiaaDoor.PCod Go.Proofs.YtgjdcdhfijkoiaaDoor.Cod
set_option linter.unusedVariables false
set_option linter.unusedSimpArgs false
section
variable {P : Program} {ops : Array Oper} {rest : List Oper} {o : Oper} {a : Act} {Q : Exit → Act → World → Prop}
/-- '[]byte(s)' of a string: a new row. -/
theorem str_event {w0 W : World} {base : Nat} {src dst e : TypeId} {x : Operand} {s : ByteArray} (hgd : o.guard = none) (ho : o.op = .convert src dst x) (hx : a.eval x = .string s) {u : TypeDesc} (hsr : P.underlying src = some u) (hds : P.underlying dst = some (.slice e)) (he : P.underlying e = some (.int .u8)) (hs : s.size ≤ 9223372036854775807) (HB : Below base w0 W) (hbase : base ≤ W.heap.size)
    (h : ∀ (W' : World) (c : Nat), Below base w0 W' → Below W.heap.size W W' → s.size ≤ c → W.heap.size < W'.heap.size → Kd.C (Kd.int .u8) W' (some ⟨W.heap.size, 0, none⟩) s.size (bytesOf s) → (∀ j, j < s.size → W'.frozen? ⟨W.heap.size, j, none⟩ = false) → wpList P ops Q rest (a.put o.dst (.slice (some ⟨W.heap.size, 0, none⟩) s.size c)) W') :
    wpList P ops Q (o :: rest) a W := by
  have hrun := Lib.run_convert_string_bytes (P := P) W src dst e s hsr hds he
  refine Kd.event_run hgd (v := .slice (some ⟨W.heap.size, 0, none⟩) s.size (grownCap W s.size 0 e)) (w1 := Lib.bytesWorld W e s) ?_ (h _ _ (bytes_below HB hbase e s) (bytes_below (Below.refl _ _) (Nat.le_refl _) e s) ?_ (by rw [Lib.bytesWorld_size]; omega) (Kd.C_of_reads (d := (0 : Int)) (h1 := fun _ => rfl) (bytes_reads W e s hs)) ?_)
  · unfold execOp
    simp [ho, hx, hrun]
  · exact grownCap_ge W s.size 0 e
  · intro j hj
    unfold World.frozen?
    rw [Lib.bytesWorld_at_new]
    have : (Lib.bytesCells W e s).size = s.size + (grownCap W s.size 0 e - s.size) := by simp [Lib.bytesCells]
    simp only [Bool.and_eq_false_imp, decide_eq_true_eq]
    intro h1
    simp; omega
end
section
variable {w : World}
theorem wbytes_calls0 {base g : Nat} {F : Nat → Prop} {xs ys : List Int} {w0 : World} (hB : Below w0.heap.size w0 w) (hb0 : w0.heap.size ≤ base) (hd : WrAt w base F g xs) (A : Option Addr) (n c : Nat) (hn : n = ys.length) (hr : ∀ W, Kept w W F → Kd.C (Kd.int .u8) W A ys.length ys) (hl : xs.length + ys.length + 10 < 140737488355328) (hy : Byt ys) :
    Calls Tryd.prog 41 #[.pointer (some ⟨g, 0, none⟩), .slice A n c] w (Wrote w0 w base F g (xs ++ putNum ys.length ++ ys)) := by
  have hw : IntKind.u64.wrap (n : Int) = n := wraps_u64 _ (by omega) (by omega)
  have h1 := Aside0.mk (wuint_calls hB hb0 hd (n : Int) (by omega) (by omega) (by omega))
  have HX := Aside0.mk (And.intro hn (And.intro hr (And.intro hl (And.intro hy hb0))))
  clear hB hb0 hd hn hr hl hy
  go_enter Tryd.func41, Tryd.ntmps41
  go_wp2_with (first | (go_at_call 40; go_loud (refine h1.out.mono ?_; rintro e w1 ⟨rfl, hd1, hb1, hk1⟩; have HX1 := Aside0.mk (And.intro hd1 (And.intro hb1 hk1)); clear hd1 hb1 hk1)) | (go_at_call 60; go_loud (obtain ⟨hn, hr, hl, hy, hb0⟩ := HX.out; refine (wfixed_calls HX1.out.2.1 hb0 HX1.out.1 A n c hn (hr _ HX1.out.2.2) (by rw [List.length_append]; have := (putNum_len (n : Int)).1; omega) hy).mono ?_; rintro e w2 ⟨rfl, hd2, hb2, hk2⟩; have HX2 := Aside0.mk (And.intro hd2 (And.intro hb2 hk2)); clear hd2 hb2 hk2 hn hr hl hy hb0)))
  go_end0
  obtain ⟨h2, h3, h4⟩ := HX2.out
  have hs := HX1.out.2.2.1
  rw [show (n : Int) = (ys.length : Int) by rw [HX.out.1]] at h2
  exact ⟨rfl, h2.mono (Or.twice hs), h3, HX1.out.2.2.then_ h4 (fun k hk => by rcases hk with h | h; exact .inl h; exact .inr h)⟩
end
/-- A writer in block g, whose own lies from base on. -/
structure PS (w0 w : World) (base g : Nat) (xs : List Int) : Prop where
  bl : Below w0.heap.size w0 w
  b0 : w0.heap.size ≤ base
  ex : ∃ F : Nat → Prop, WrAt w base F g xs ∧ ∀ k, F k → base ≤ k ∧ k < w.heap.size
section
variable {w0 w1 w : World} {base g : Nat} {xs ys : List Int}
theorem PS.below (h : PS w0 w1 base g xs) (hb : Below w1.heap.size w1 w) : PS w0 w base g xs := by
  obtain ⟨F, h1, h2⟩ := h.ex
  exact ⟨below_step h.bl hb, h.b0, F, h1.below hb, fun k hk => ⟨(h2 k hk).1, Nat.lt_of_lt_of_le (h2 k hk).2 hb.size⟩⟩
/-- What a call of the writer leaves as it was. -/
def Far (base : Nat) (w1 w w' : World) : Prop := w.heap.size ≤ w'.heap.size ∧ ∀ k, k < w.heap.size → (k < base ∨ w1.heap.size ≤ k) → w'.heap[k]? = w.heap[k]?
theorem PS.uint (h : PS w0 w base g xs) (x : Int) (h0 : 0 ≤ x) (h1 : x < 18446744073709551616) (hl : xs.length + 10 < 140737488355328) :
    Calls Tryd.prog 40 #[.pointer (some ⟨g, 0, none⟩), .int .u64 x] w fun e w' => e = .returned (.tuple #[]) ∧ PS w0 w' base g (xs ++ putNum x) := by
  obtain ⟨F, hF, hF2⟩ := h.ex
  refine (wuint_calls h.bl h.b0 hF x h0 h1 hl).mono ?_
  rintro e w' ⟨rfl, q1, q2, q3⟩
  exact ⟨rfl, q2, h.b0, _, q1.cut, fun k hk => ⟨hk.2.1, hk.2.2⟩⟩
theorem PS.bytes (h : PS w0 w1 base g xs) (hb : Below w1.heap.size w1 w) (A : Option Addr) (n c : Nat) (hn : n = ys.length) (hr : ∀ W, Far base w1 w W → Kd.C (Kd.int .u8) W A ys.length ys) (hl : xs.length + ys.length + 10 < 140737488355328) (hy : Byt ys) :
    Calls Tryd.prog 41 #[.pointer (some ⟨g, 0, none⟩), .slice A n c] w fun e w' => e = .returned (.tuple #[]) ∧ PS w0 w' base g (xs ++ putNum ys.length ++ ys) ∧ Far base w1 w w' := by
  obtain ⟨F, hF, hF2⟩ := h.ex
  have hfar : ∀ W, Kept w W F → Far base w1 w W := fun W hk => ⟨hk.1, fun k hk2 ho => hk.2 k hk2 (fun hf => by have := hF2 k hf; omega)⟩
  refine (wbytes_calls0 (below_step h.bl hb) h.b0 (hF.below hb) A n c hn (fun W hk => hr W (hfar W hk)) hl hy).mono ?_
  rintro e w' ⟨rfl, q1, q2, q3⟩
  exact ⟨rfl, ⟨q2, h.b0, _, q1.cut, fun k hk => ⟨hk.2.1, hk.2.2⟩⟩, hfar _ q3⟩
theorem PS.out (h : PS w0 w base g xs) : Calls Tryd.prog 42 #[.pointer (some ⟨g, 0, none⟩)] w fun e w' => ∃ v, e = .returned v ∧ Kd.R (Kd.int .u8) 5 w' w.heap.size (fun _ => True) v xs ∧ Below w.heap.size w w' := by
  obtain ⟨F, hF, hF2⟩ := h.ex
  exact wout_calls hF
end
/-! ### a tree's bytes -/
def filB (f : FS) : List Int := putNum f.f0.size ++ bytesOf f.f0 ++ (putNum f.f1.length ++ f.f1)
def putM (l : List FS) : List Int := putNum l.length ++ (l.map filB).flatten
def putI (l : List FS) (i : Nat) : List Int := putNum l.length ++ ((l.take i).map filB).flatten
theorem bytesOf_length (s : ByteArray) : (bytesOf s).length = s.size := by
  unfold bytesOf
  simp
theorem bytesOf_byt (s : ByteArray) : Byt (bytesOf s) := by
  intro x hx
  unfold bytesOf at hx
  obtain ⟨c, _, rfl⟩ := List.mem_map.1 hx
  have := c.toNat_lt
  omega
theorem pathM_size {s : ByteArray} (h : pathM s = true) : 1 ≤ s.size ∧ s.size ≤ 255 := by
  unfold pathM at h
  rw [Bool.and_eq_true, Bool.and_eq_true, decide_eq_true_eq] at h
  exact h.1.1
end Go.Proofs.YtgjdcdhfijkoiaaDoor.Str
end
section
namespace Go.Proofs.YtgjdcdhfijkoiaaDoor.Str
open Go.RowKit Go.Proofs.YtgjdcdhfijkoiaaDoorW.PrintWords Go.Proofs.YtgjdcdhfijkoiaaDoorW.PrintLast Go.Proofs.YtgjdcdhfijkoiaaDoorW.PrintMore Go.Proofs.YtgjdcdhfijkoiaaDoor.Mem Go.Proofs.YtgjdcdhfijkoiaaDoor.PCod Go.Proofs.YtgjdcdhfijkoiaaDoor.Cod
set_option linter.unusedVariables false
set_option linter.unusedSimpArgs false
theorem Far.kept {base : Nat} {w1 w W : World} (h : Far base w1 w W) : Kept w W (fun k => base ≤ k ∧ k < w1.heap.size) := ⟨h.1, fun k hk hn => h.2 k hk (by omega)⟩
section
variable {w : World}
end
end Go.Proofs.YtgjdcdhfijkoiaaDoor.Str
end
