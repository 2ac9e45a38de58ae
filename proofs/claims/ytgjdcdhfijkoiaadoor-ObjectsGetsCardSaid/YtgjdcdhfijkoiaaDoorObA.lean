/- An object in memory: its cells; 'bare'. -/
import Derived.Test.YtgjdcdhfijkoiaaDoorFiC
import Derived.Test.YtgjdcdhfijkoiaaDoorFiE
import Derived.Maps.OwnOps
import Derived.Maps.OwnSet
import Derived.Maps.Views
section
namespace Go.Proofs.YtgjdcdhfijkoiaaDoor.Obj
open Go.RowKit Go.Proofs.YtgjdcdhfijkoiaaDoorW.PrintWords Go.Proofs.YtgjdcdhfijkoiaaDoorW.PrintLast Go.Proofs.YtgjdcdhfijkoiaaDoorW.PrintMore Go.Proofs.YtgjdcdhfijkoiaaDoor.Mem Go.Proofs.YtgjdcdhfijkoiaaDoor.Cod Go.Proofs.YtgjdcdhfijkoiaaDoor.PCod Go.Proofs.YtgjdcdhfijkoiaaDoor.Str Go.Proofs.YtgjdcdhfijkoiaaDoor.Open
set_option linter.unusedVariables false
set_option linter.unusedSimpArgs false
/-- A name in a directory. -/
structure EM where
  nm : ByteArray
  d : Bool
  id : List Int
structure OM where
  k : Int
  b : List Int
  n : Int
  ids : List (List Int)
  es : List EM
  s : ByteArray
def ocells (k n : Int) (vB vY vE : Value) (s : ByteArray) : List Value := [.int .u8 k, vB, .int .u64 n, vY, vE, .string s]
def OAt (w : World) (g : Nat) (k n : Int) (vB vY vE : Value) (s : ByteArray) : Prop := w.heap[g]? = some (.cells (ocells k n vB vY vE s).toArray 57 (0, 0))
/-- The cells of an object whose rows lie at A, Y, E. -/
def OV (cs : Array Value) (x : OM) (A Y E : Option Addr) (bc yc ec : Nat) : Prop := cs = (ocells x.k x.n (.slice A x.b.length bc) (.slice Y x.ids.length yc) (.slice E x.es.length ec) x.s).toArray
/-- .. in block g. -/
def OB (w : World) (g : Nat) (x : OM) (A Y E : Option Addr) (bc yc ec : Nat) : Prop := OAt w g x.k x.n (.slice A x.b.length bc) (.slice Y x.ids.length yc) (.slice E x.es.length ec) x.s
section
variable {w w' : World} {g : Nat} {k n : Int} {vB vY vE : Value} {s : ByteArray} {A Y E : Option Addr} {bl bc yl yc el ec : Nat} {x : OM} {cs : Array Value}
theorem OAt.below (h : OAt w g k n vB vY vE s) (hb : Below w.heap.size w w') : OAt w' g k n vB vY vE s := (hb.block _ (blk_lt h)).trans h
theorem OAt.cells (h : OAt w g k n vB vY vE s) : w.cell? ⟨g, 0, none⟩ = some (.int .u8 k) ∧ w.cell? ⟨g, 1, none⟩ = some vB ∧ w.cell? ⟨g, 2, none⟩ = some (.int .u64 n) ∧ w.cell? ⟨g, 3, none⟩ = some vY ∧ w.cell? ⟨g, 4, none⟩ = some vE ∧ w.cell? ⟨g, 5, none⟩ = some (.string s) :=
  ⟨(blk_cell h 0).trans rfl, (blk_cell h 1).trans rfl, (blk_cell h 2).trans rfl, (blk_cell h 3).trans rfl, (blk_cell h 4).trans rfl, (blk_cell h 5).trans rfl⟩
theorem OAt.load (h : OAt w g k n (.slice A bl bc) (.slice Y yl yc) (.slice E el ec) s) {o : Oper} {ev : Operand → Value} (x : Operand) (ho : o.op = .load 57 x) (hx : ev x = .pointer (some ⟨g, 0, none⟩)) :
    (execOp ev o).run Tryd.prog w = .ok (.value (.agg (ocells k n (.slice A bl bc) (.slice Y yl yc) (.slice E el ec) s).toArray)) w :=
  exec_load_row w 57 x ho g hx 57 _ (0, 0) _ h Tryd.underlying57 rfl (by kernel_rfl)
theorem OB.below (h : OB w g x A Y E bc yc ec) (hb : Below w.heap.size w w') : OB w' g x A Y E bc yc ec := OAt.below h hb
theorem OB.cells (h : OB w g x A Y E bc yc ec) : w.cell? ⟨g, 0, none⟩ = some (.int .u8 x.k) ∧ w.cell? ⟨g, 1, none⟩ = some (.slice A x.b.length bc) ∧ w.cell? ⟨g, 2, none⟩ = some (.int .u64 x.n) ∧ w.cell? ⟨g, 3, none⟩ = some (.slice Y x.ids.length yc) ∧ w.cell? ⟨g, 4, none⟩ = some (.slice E x.es.length ec) ∧ w.cell? ⟨g, 5, none⟩ = some (.string x.s) := OAt.cells h
theorem OB.load (h : OB w g x A Y E bc yc ec) (hv : OV cs x A Y E bc yc ec) {o : Oper} {ev : Operand → Value} (y : Operand) (ho : o.op = .load 57 y) (hx : ev y = .pointer (some ⟨g, 0, none⟩)) :
    (execOp ev o).run Tryd.prog w = .ok (.value (.agg cs)) w := by
  unfold OV at hv
  rw [hv]
  exact OAt.load h y ho hx
theorem OB.of (hv : OV cs x A Y E bc yc ec) (h : w.heap[g]? = some (.cells cs 57 (0, 0))) : OB w g x A Y E bc yc ec := by unfold OV at hv; rw [hv] at h; exact h
end
theorem wpName {P : Program} {ops : Array Oper} {Q : Exit → Act → World → Prop} {rest : List Oper} {a : Act} {w : World} (h : ∀ W, W = w → wpList P ops Q rest a W) : wpList P ops Q rest a w := h w rfl
theorem nums_one (q : List Int) : ∀ v ∈ nums .u8 q, v.oneCell' = true := by
  intro v hv
  simp only [nums, List.mem_map] at hv
  obtain ⟨x, _, rfl⟩ := hv
  rfl
theorem exec_box {P : Program} {o : Oper} {ev : Operand → Value} (W : World) (ty : TypeId) (x : Operand) (ho : o.op = .box ty x) (cs : Array Value) (hx : ev x = .agg cs) : (execOp ev o).run P W = .ok (.value (.pointer (some ⟨W.heap.size, 0, none⟩))) (W.alloc (.cells cs ty)) := by
  unfold execOp
  simp [ho, hx, Instr.box, newVar, newRow, newObj, Value.cells, Sem.run]
section
variable {w : World}
/-- Are fields but some nothing? -/
def bareM (b1 b2 b3 b4 : Bool) (x : OM) : Bool := (b1 || x.b.length == 0) && (b2 || x.n == 0) && (b3 || x.ids.length == 0) && (b4 || x.es.length == 0) && (x.k == 4 || x.s.toList.isEmpty)
set_option maxRecDepth 8000 in
set_option maxHeartbeats 4000000 in
theorem bare_calls (b1 b2 b3 b4 : Bool) {x : OM} {cs : Array Value} {A Y E : Option Addr} {bc yc ec : Nat} (hcs : OV cs x A Y E bc yc ec) :
    Calls Tryd.prog 80 #[.agg cs, .bool b1, .bool b2, .bool b3, .bool b4] w fun e w' => e = .returned (.bool (bareM b1 b2 b3 b4 x)) ∧ Below w.heap.size w w' := by
  have HCS := Aside0.mk hcs
  clear hcs
  obtain ⟨k, b, n, ids, es, s⟩ := x
  unfold bareM
  dsimp only
  obtain ⟨bl, hbl⟩ : ∃ x, x = b.length := ⟨_, rfl⟩
  obtain ⟨yl, hyl⟩ : ∃ x, x = ids.length := ⟨_, rfl⟩
  obtain ⟨el, hel⟩ : ∃ x, x = es.length := ⟨_, rfl⟩
  have HL := Aside0.mk (And.intro hbl (And.intro hyl hel))
  rw [← hbl, ← hyl, ← hel]
  clear hbl hyl hel
  go_enter Tryd.func80, Tryd.ntmps80
  go_wp2_with (first | ((with_reducible refine gate_dst (N := 5) rfl ?_); refine box_event ?hg (N := 5) ?hd (cs := cs) (t := 57) ?hr ?_; (case hd => rfl); (case hg => rfl); (case hr => exact exec_box _ _ _ rfl cs rfl); intro gb hgb w1 hbox hb1; have H1 := Aside0.mk (And.intro (show OAt w1 gb k n (.slice A bl bc) (.slice Y yl yc) (.slice E el ec) s by rw [HL.out.1, HL.out.2.1, HL.out.2.2]; exact OB.of HCS.out hbox) hb1); obtain ⟨a0, a1, a2, a3, a4, a5⟩ := H1.out.1.cells; clear hbox hb1 hgb))
  all_goals
    go_ret
    refine ⟨?_, H1.out.2⟩
    simp_all
end
end Go.Proofs.YtgjdcdhfijkoiaaDoor.Obj
end
section
namespace Go.Proofs.YtgjdcdhfijkoiaaDoor.Obj
open Go.RowKit Go.Proofs.YtgjdcdhfijkoiaaDoorW.PrintWords Go.Proofs.YtgjdcdhfijkoiaaDoorW.PrintLast Go.Proofs.YtgjdcdhfijkoiaaDoorW.PrintMore Go.Proofs.YtgjdcdhfijkoiaaDoor.Mem Go.Proofs.YtgjdcdhfijkoiaaDoor.Cod Go.Proofs.YtgjdcdhfijkoiaaDoor.PCod Go.Proofs.YtgjdcdhfijkoiaaDoor.Str Go.Proofs.YtgjdcdhfijkoiaaDoor.Open
set_option linter.unusedVariables false
set_option linter.unusedSimpArgs false
def pieceM (x : OM) : Bool := bareM true false false false x && decide ((x.b.length : Int) ≤ 32768)
def listM (x : OM) : Bool := bareM false true true false x && decide ((x.ids.length : Int) ≤ 1000) && decide (x.n ≤ 1048576) && ((x.n == 0) == ((x.ids.length : Int) == 0))
def snapM (x : OM) : Bool := bareM false true true false x && ((x.ids.length : Int) == 1) && decide ((x.s.size : Int) ≤ 255)
section
variable {w : World} {x : OM} {cs : Array Value} {A Y E : Option Addr} {bc yc ec : Nat}
set_option maxRecDepth 8000 in
set_option maxHeartbeats 4000000 in
theorem piece_calls (hcs : OV cs x A Y E bc yc ec) : Calls Tryd.prog 63 #[.agg cs] w fun e w' => e = .returned (.bool (pieceM x)) ∧ Below w.heap.size w w' := by
  have HCS := Aside0.mk hcs
  clear hcs
  obtain ⟨br, hbr⟩ : ∃ br, br = bareM true false false false x := ⟨_, rfl⟩
  have HBR := Aside0.mk hbr
  unfold pieceM
  rw [← hbr]
  clear hbr
  go_enter Tryd.func63, Tryd.ntmps63
  go_wp2_with (first
    | ((with_reducible refine gate_dst (N := 1) rfl ?_); refine box_event ?hg (N := 1) ?hd (cs := cs) (t := 57) ?hr ?_; (case hd => rfl); (case hg => rfl); (case hr => exact exec_box _ _ _ rfl cs rfl); intro gb hgb w1 hbox hb1; have H1 := Aside0.mk (And.intro (OB.of HCS.out hbox) hb1); clear hbox hb1 hgb)
    | ((with_reducible refine gate_dst (N := 3) rfl ?_); refine Kd.event_run rfl (v := .agg cs) (w1 := w1) ?hr ?_; (case hr => exact H1.out.1.load HCS.out (.tmp 1) rfl rfl))
    | (go_at_call 80; go_loud (have hx := bare_calls (w := w1) true false false false HCS.out; rw [← HBR.out] at hx; refine hx.mono ?_; clear hx; rintro e w2 ⟨rfl, hb2⟩; have H2 := Aside0.mk (And.intro (H1.out.1.below hb2) (below_step H1.out.2 hb2)); obtain ⟨a0, a1, a2, a3, a4, a5⟩ := H2.out.1.cells; clear hb2)))
  all_goals
    go_ret
    refine ⟨?_, H2.out.2⟩
    simp_all
    try (intros; omega)
set_option maxRecDepth 8000 in
set_option maxHeartbeats 4000000 in
theorem list_calls (hcs : OV cs x A Y E bc yc ec) : Calls Tryd.prog 64 #[.agg cs] w fun e w' => e = .returned (.bool (listM x)) ∧ Below w.heap.size w w' := by
  have HCS := Aside0.mk hcs
  clear hcs
  obtain ⟨br, hbr⟩ : ∃ br, br = bareM false true true false x := ⟨_, rfl⟩
  have HBR := Aside0.mk hbr
  unfold listM
  rw [← hbr]
  clear hbr
  go_enter Tryd.func64, Tryd.ntmps64
  go_wp2_with (first
    | ((with_reducible refine gate_dst (N := 1) rfl ?_); refine box_event ?hg (N := 1) ?hd (cs := cs) (t := 57) ?hr ?_; (case hd => rfl); (case hg => rfl); (case hr => exact exec_box _ _ _ rfl cs rfl); intro gb hgb w1 hbox hb1; have H1 := Aside0.mk (And.intro (OB.of HCS.out hbox) hb1); clear hbox hb1 hgb)
    | ((with_reducible refine gate_dst (N := 3) rfl ?_); refine Kd.event_run rfl (v := .agg cs) (w1 := w1) ?hr ?_; (case hr => exact H1.out.1.load HCS.out (.tmp 1) rfl rfl))
    | (go_at_call 80; go_loud (have hx := bare_calls (w := w1) false true true false HCS.out; rw [← HBR.out] at hx; refine hx.mono ?_; clear hx; rintro e w2 ⟨rfl, hb2⟩; have H2 := Aside0.mk (And.intro (H1.out.1.below hb2) (below_step H1.out.2 hb2)); obtain ⟨a0, a1, a2, a3, a4, a5⟩ := H2.out.1.cells; clear hb2)))
  all_goals
    go_ret
    refine ⟨?_, H2.out.2⟩
    simp_all
    try (intros; omega)
set_option maxRecDepth 8000 in
set_option maxHeartbeats 4000000 in
theorem snap_calls (hcs : OV cs x A Y E bc yc ec) : Calls Tryd.prog 66 #[.agg cs] w fun e w' => e = .returned (.bool (snapM x)) ∧ Below w.heap.size w w' := by
  have HCS := Aside0.mk hcs
  clear hcs
  obtain ⟨br, hbr⟩ : ∃ br, br = bareM false true true false x := ⟨_, rfl⟩
  have HBR := Aside0.mk hbr
  unfold snapM
  rw [← hbr]
  clear hbr
  go_enter Tryd.func66, Tryd.ntmps66
  go_wp2_with (first
    | ((with_reducible refine gate_dst (N := 1) rfl ?_); refine box_event ?hg (N := 1) ?hd (cs := cs) (t := 57) ?hr ?_; (case hd => rfl); (case hg => rfl); (case hr => exact exec_box _ _ _ rfl cs rfl); intro gb hgb w1 hbox hb1; have H1 := Aside0.mk (And.intro (OB.of HCS.out hbox) hb1); clear hbox hb1 hgb)
    | ((with_reducible refine gate_dst (N := 3) rfl ?_); refine Kd.event_run rfl (v := .agg cs) (w1 := w1) ?hr ?_; (case hr => exact H1.out.1.load HCS.out (.tmp 1) rfl rfl))
    | (go_at_call 80; go_loud (have hx := bare_calls (w := w1) false true true false HCS.out; rw [← HBR.out] at hx; refine hx.mono ?_; clear hx; rintro e w2 ⟨rfl, hb2⟩; have H2 := Aside0.mk (And.intro (H1.out.1.below hb2) (below_step H1.out.2 hb2)); obtain ⟨a0, a1, a2, a3, a4, a5⟩ := H2.out.1.cells; clear hb2)))
  all_goals
    go_ret
    refine ⟨?_, H2.out.2⟩
    simp_all
    try (intros; omega)
end
end Go.Proofs.YtgjdcdhfijkoiaaDoor.Obj
end
section
namespace Go.Proofs.YtgjdcdhfijkoiaaDoor.Obj
open Go.RowKit Go.Proofs.YtgjdcdhfijkoiaaDoorW.PrintWords Go.Proofs.YtgjdcdhfijkoiaaDoorW.PrintLast Go.Proofs.YtgjdcdhfijkoiaaDoorW.PrintMore Go.Proofs.YtgjdcdhfijkoiaaDoor.Mem Go.Proofs.YtgjdcdhfijkoiaaDoor.Cod Go.Proofs.YtgjdcdhfijkoiaaDoor.PCod Go.Proofs.YtgjdcdhfijkoiaaDoor.Str Go.Proofs.YtgjdcdhfijkoiaaDoor.Open
set_option linter.unusedVariables false
set_option linter.unusedSimpArgs false
/-- Values whose cells are all their own. -/
def flat {α : Type} (n : Nat) (enc : α → List Value) (h1 : ∀ x, ∀ u ∈ enc x, u.oneCell' = true) : Kd α where
  sz := n
  E := []
  K := fun _ x cs => cs = enc x ∧ (enc x).length = n
  M := fun _ _ _ x cs => cs = enc x ∧ (enc x).length = n
  K_len := by rintro _ _ _ ⟨rfl, h⟩; exact h
  K_one := by rintro _ _ _ ⟨rfl, h⟩; exact h1 _
  K_below := fun _ h => h
  K_of_M := fun h => h
  M_mono := fun _ h => h
  M_bound := fun h => h
  M_move := fun _ h => h
  M_lower := fun _ h => h
def ecells (e : EM) : List Value := .string e.nm :: .bool e.d :: nums .u8 e.id
theorem ecells_one (e : EM) : ∀ u ∈ ecells e, u.oneCell' = true := by
  intro u hu
  unfold ecells at hu
  rcases List.mem_cons.1 hu with rfl | hu
  · rfl
  rcases List.mem_cons.1 hu with rfl | hu
  · rfl
  exact nums_one e.id u hu
theorem ecells_len {e : EM} (h : e.id.length = 32) : (ecells e).length = 34 := by unfold ecells; simp [nums_length, h]
theorem ecells_id {e : EM} (h : (ecells e).length = 34) : e.id.length = 32 := by unfold ecells at h; simp [nums_length] at h; omega
def kId : Kd (List Int) := flat 32 (nums .u8) (fun p => nums_one p)
def kE : Kd EM := flat 34 ecells ecells_one
def eNone : EM := ⟨ByteArray.empty, false, []⟩
section
variable {w : World} {A : Option Addr} {n : Nat}
theorem at_id {xs : List (List Int)} (h : Kd.C kId w A n xs) {i : Nat} (hi : i < n) : ∃ ad, A = some ad ∧ (xs.getD i []).length = 32 ∧ ∀ (j : Nat) (v : Value), (nums .u8 (xs.getD i []))[j]? = some v → w.cell? (ad.add (i * 32 + j)) = some v := by
  obtain ⟨ad, c, e, _, ⟨rfl, hl⟩, hc⟩ := Kd.C_get h [] (i : Int) (by omega) (by omega)
  rw [Int.toNat_natCast] at hc hl
  exact ⟨ad, e, by rw [nums_length] at hl; exact hl, fun j v hj => hc j v hj⟩
theorem at_e {xs : List EM} (h : Kd.C kE w A n xs) {i : Nat} (hi : i < n) : ∃ ad, A = some ad ∧ (xs.getD i eNone).id.length = 32 ∧ (∀ (j : Nat) (v : Value), (ecells (xs.getD i eNone))[j]? = some v → w.cell? (ad.add (i * 34 + j)) = some v) ∧ w.cell? (ad.add (i * 34)) = some (.string (xs.getD i eNone).nm) := by
  obtain ⟨ad, c, e, _, ⟨rfl, hl⟩, hc⟩ := Kd.C_get h eNone (i : Int) (by omega) (by omega)
  rw [Int.toNat_natCast] at hc hl
  exact ⟨ad, e, ecells_id hl, fun j v hj => hc j v hj, hc 0 _ rfl⟩
end
/-! ### strings.Contains at a slash -/
theorem contains_calls (s : ByteArray) (w : World) : Calls Tryd.prog 81 #[.string s, .string ⟨#[47]⟩] w fun e w' => e = .returned (.bool (cutQ s)) ∧ w' = w := by
  have hx := strIndex_calls s 47 w
  obtain ⟨i, hi⟩ : ∃ i, i = Lib.indexByte s.data.toList 47 := ⟨_, rfl⟩
  rw [← hi] at hx
  have hq : cutQ s = decide (i ≥ 0) := by rw [hi]; rfl
  rw [hq]
  have HX := Aside0.mk hx
  clear hx hi hq
  go_enter Tryd.func81, Tryd.ntmps81
  go_wp2_with (go_at_call 85; go_loud (refine HX.out.mono ?_; rintro e w' ⟨rfl, rfl⟩; dsimp only))
  go_ret
  exact ⟨rfl, rfl⟩
/-! ### the names -/
def dirGo : Option ByteArray → List EM → Bool
  | _, [] => true
  | p, e :: r => (pathM e.nm && !cutQ e.nm && (match p with | none => true | some q => lessS q e.nm)) && dirGo (some e.nm) r
theorem dirGo_cons (p : Option ByteArray) (e : EM) (r : List EM) : dirGo p (e :: r) = ((pathM e.nm && !cutQ e.nm && (match p with | none => true | some q => lessS q e.nm)) && dirGo (some e.nm) r) := rfl
def prevE (l : List EM) (i : Nat) : Option ByteArray := if i = 0 then none else some (l.getD (i - 1) eNone).nm
def dirM (x : OM) : Bool := dirGo none x.es && (bareM false false false true x && decide ((x.es.length : Int) ≤ 500))
def ez34 : Array Value := (ecells ⟨ByteArray.empty, false, List.replicate 32 0⟩).toArray
theorem dropE {l : List EM} {i : Nat} (h : i < l.length) : l.drop i = l.getD i eNone :: l.drop (i + 1) := by
  rw [List.drop_eq_getElem_cons h, List.getD_eq_getElem?_getD, List.getElem?_eq_getElem h]
  rfl
theorem ecells_fit {e : EM} (h : e.id.length = 32) : (Tryd.prog.info? 76).map (·.size) = some (ecells e).toArray.size ∧ ez34.size = (ecells e).toArray.size ∧ (ecells e).toArray.all (·.oneCell') = true := by
  refine ⟨by rw [List.size_toArray, ecells_len h]; kernel_rfl, by show 34 = _; rw [List.size_toArray, ecells_len h], ?_⟩
  rw [Array.all_eq_true_iff_forall_mem]
  intro v hv
  exact ecells_one e v (List.mem_toArray.1 hv)
/-- An entry in block g. -/
def EAt (w : World) (g : Nat) (e : EM) : Prop := w.heap[g]? = some (.cells (ecells e).toArray 76 (0, 0))
theorem EAt.below {w w' : World} {g : Nat} {e : EM} (h : EAt w g e) (hb : Below w.heap.size w w') : EAt w' g e := (hb.block _ (blk_lt h)).trans h
section
variable {w : World} {x : OM} {cs : Array Value} {A Y E : Option Addr} {bc yc ec : Nat}
set_option maxRecDepth 100000 in
set_option maxHeartbeats 8000000 in
theorem dir_calls (hcs : OV cs x A Y E bc yc ec) (hE : Kd.C kE w E x.es.length x.es) (hl : x.es.length ≤ 9223372036854775807) :
    Calls Tryd.prog 65 #[.agg cs] w fun e w' => e = .returned (.bool (dirM x)) ∧ Below w.heap.size w w' := by
  obtain ⟨m, hm⟩ : ∃ m, m = x.es.length := ⟨_, rfl⟩
  have HCS := Aside0.mk (And.intro hcs (And.intro hE hm))
  rw [← hm] at hl
  clear hcs hE
  obtain ⟨br, hbr⟩ : ∃ br, br = bareM false false false true x := ⟨_, rfl⟩
  have HBR := Aside0.mk hbr
  have hdm : dirM x = (dirGo none x.es && (br && decide ((m : Int) ≤ 500))) := by unfold dirM; rw [← hbr, ← hm]
  have HDM := Aside0.mk hdm
  clear hbr hdm hm
  go_enter Tryd.func65, Tryd.ntmps65
  go_wp2_with (first
    | ((with_reducible refine gate_dst (N := 1) rfl ?_); refine box_event ?hg (N := 1) ?hd (cs := cs) (t := 57) ?hr ?_; (case hd => rfl); (case hg => rfl); (case hr => exact exec_box _ _ _ rfl cs rfl); intro gb hgb w1 hbox hb1; have H1 := Aside0.mk (And.intro (OB.of HCS.out.1 hbox) hb1); have hc4 := H1.out.1.cells.2.2.2.2.1; rw [← HCS.out.2.2] at hc4; clear hbox hb1 hgb))
  clear hc4
  go_loopg [8] m (fun q v8 wr => ∃ i : Nat, v8 = .int .i64 i ∧ q + i = m ∧ Aside0 (OB wr gb x A Y E bc yc ec ∧ Below w.heap.size w wr ∧ dirGo none x.es = dirGo (prevE x.es i) (x.es.drop i)))
  case atStart => exact ⟨0, rfl, rfl, ⟨H1.out.1, H1.out.2, rfl⟩⟩
  case round =>
    clear H1
    obtain ⟨i, rfl, hq, hI⟩ := hrel
    by_cases hlt : i < m
    · have d1 : decide ((i : Int) < (m : Int)) = true := decide_eq_true (by omega)
      obtain ⟨ad, rfl, h32, hcells, hc0⟩ := at_e HCS.out.2.1 (i := i) (by have := HCS.out.2.2; omega)
      obtain ⟨e, he⟩ : ∃ e, e = x.es.getD i eNone := ⟨_, rfl⟩
      rw [← he] at h32 hcells
      have HE := Aside0.mk (And.intro he (And.intro h32 hcells))
      clear he h32 hcells hc0
      go_upto_region 4 with (first
        | ((with_reducible refine gate_dst (N := 12) rfl ?_); refine Kd.event_run rfl (v := .agg (ecells e).toArray) (w1 := wr) ?hr ?_; (case hr => exact exec_load_any wr 76 (.tmp 11) rfl (ad.add (i * 34)) rfl (ecells e) _ (fun j v hj => by have h := HE.out.2.2 j v hj; rw [Go.Deep.add_add]; exact (hI.out.2.1.cell (World.block_lt_of_cell? w _ h)).trans h) Tryd.underlying76 rfl (by rw [ecells_len HE.out.2.1]; kernel_rfl)))
        | ((with_reducible refine gate_dst (N := 4) rfl ?_); refine Kd.event_run rfl (v := .pointer (some ⟨wr.heap.size, 0, none⟩)) (w1 := wr.alloc (.cells ez34 76)) ?hr ?_; (case hr => first | kernel_rfl | (go_simp; done) | (go_simp; rfl)); go_loud (refine wpName (fun w6 hw6 => ?_); obtain ⟨g4, hg4⟩ : ∃ g, g = wr.heap.size := ⟨_, rfl⟩; have H6 := Aside0.mk (show w6.heap[g4]? = some (.cells ez34 76 (0, 0)) ∧ Below wr.heap.size wr w6 ∧ g4 = wr.heap.size from ⟨by rw [hw6, hg4]; exact blk_new wr _, by rw [hw6]; exact below_alloc (Below.refl _ _) _, hg4⟩); rw [← hg4]; clear hw6 hg4))
        | ((with_reducible refine gate_store (ty := 76) (x := .tmp 4) (y := .tmp 12) rfl ?_); go_loud (refine wpList_store_row rfl 76 (.tmp 4) (.tmp 12) rfl g4 (ecells e).toArray rfl rfl 76 ez34 H6.out.1 (ecells_fit HE.out.2.1).1 (ecells_fit HE.out.2.1).2.1 (ecells_fit HE.out.2.1).2.2 ?_; refine wpName (fun w7 hw7 => ?_); have hb7 : Below wr.heap.size wr w7 := (by rw [hw7]; exact below_setRow H6.out.2.1 (by rw [H6.out.2.2]; exact Nat.le_refl _) _); have H7 := Aside0.mk (show EAt w7 g4 e ∧ OB w7 gb x A Y (some ad) bc yc ec ∧ Below w.heap.size w w7 from ⟨by rw [hw7]; exact setRow_heap _ _ _ _ _ _ H6.out.1, hI.out.1.below hb7, below_step hI.out.2.1 hb7⟩); clear hw7 hb7)))
      clear H6
      obtain ⟨pv, hpv⟩ : ∃ z, z = (match prevE x.es i with | none => true | some q => lessS q e.nm) := ⟨_, rfl⟩
      obtain ⟨nm, hnm⟩ : ∃ z, z = e.nm := ⟨_, rfl⟩
      rw [← hnm] at hpv
      try dsimp only [Act.put]
      go_cut [37] (fun v37 wc => v37 = .bool (!(pathM nm && !cutQ nm && pv)) ∧ Aside0 (OB wc gb x A Y (some ad) bc yc ec ∧ Below w.heap.size w wc))
      case first =>
        obtain ⟨wd, hwd⟩ : ∃ wd, wd = w7.drew := ⟨_, rfl⟩
        have hbd : Below w7.heap.size w7 wd := by rw [hwd]; exact below_drew1 (Below.refl _ _)
        have HD := Aside0.mk (show EAt wd g4 e ∧ OB wd gb x A Y (some ad) bc yc ec ∧ Below w.heap.size w wd from ⟨H7.out.1.below hbd, H7.out.2.1.below hbd, below_step H7.out.2.2 hbd⟩)
        have HFin : Aside0 (∀ W, Below wd.heap.size wd W → Aside0 (OB W gb x A Y (some ad) bc yc ec ∧ Below w.heap.size w W)) := ⟨fun W hW => ⟨HD.out.2.1.below hW, below_step HD.out.2.2 hW⟩⟩
        have HA : Aside0 (∀ W, Below wd.heap.size wd W → W.cell? ⟨g4, 0, none⟩ = some (.string nm)) := ⟨fun W hW => by rw [hnm]; exact (blk_cell (HD.out.1.below hW) 0).trans rfl⟩
        have HPV := Aside0.mk hpv
        clear hbd hnm hpv
        cases hpp : pathM nm
        · refine start_ (n := 25) (S := fun w' => Below wd.heap.size wd w') (ds := []) #[false, false, false, false, false, false, false, false, false, false, false, false, false, false, false, false, false, false, false, false, false, false, false, false, false] (by kernel_rfl) rfl (by kernel_rfl) (by rw [← hwd]; exact Below.refl _ _) (fun hHeld => ?_)
          rw [← hwd] at hHeld ⊢
          clear hwd
          refine pure_ (i := 0) (N := some 13) (v := ?_) (a' := ?_) #[true, false, false, false, false, false, false, false, false, false, false, false, false, false, false, false, false, false, false, false, false, false, false, false, false] rfl rfl (by kernel_rfl) (fun _ _ _ h => h) (Or.inl ⟨by rfl, ?_⟩) ?_ ?_
          rotate_left
          · intro w'
            go_simp
            with_reducible rfl
          rotate_left
          · simp only [Act.put, List.setIfInBounds_toArray, List.set_cons_zero, List.set_cons_succ, i64_w, i32_w]
            rfl
          refine take_ (i := 1) (N := some 14) (v := ?_) (a' := ?_) #[true, true, false, false, false, false, false, false, false, false, false, false, false, false, false, false, false, false, false, false, false, false, false, false, false] rfl rfl (by kernel_rfl) (fun _ _ _ h => h) (Or.inl ⟨by rfl, ?_⟩) hHeld ?_ ?_
          rotate_left
          · rintro w' s0
            have b0 := HA.out w' s0
            go_simp
            with_reducible rfl
          rotate_left
          · simp only [Act.put, List.setIfInBounds_toArray, List.set_cons_zero, List.set_cons_succ, i64_w, i32_w]
            rfl
          refine one_ (i := 2) (N := some 15) #[true, true, true, false, false, false, false, false, false, false, false, false, false, false, false, false, false, false, false, false, false, false, false, false, false] rfl rfl (by kernel_rfl) (by decide) (fun K hK => ?_)
          refine goes_ Tryd.func18 (by kernel_rfl) rfl #[.string nm] (by rfl) rfl rfl (by (try simp only [List.map_toArray, List.map_cons, List.map_nil]); rfl) ?_
          have hx := path_calls nm wd
          rw [hpp] at hx
          refine hx.mono ?_
          clear hx
          rintro e8 w8 ⟨rfl, hb8⟩
          refine ⟨_, rfl, ?_⟩
          have H8 := Aside0.mk hb8
          clear hb8
          refine hK.out _ _ (H8.out) (fun hHeld => ?_)
          clear hK K
          refine norm_ (a' := ?_) ?_ ?_
          rotate_left
          · show Act.put _ (some 15) _ = _
            simp only [Act.put, List.setIfInBounds_toArray, List.set_cons_zero, List.set_cons_succ, i64_w, i32_w]
            rfl
          refine pure_ (i := 3) (N := some 16) (v := ?_) (a' := ?_) #[true, true, true, true, false, false, false, false, false, false, false, false, false, false, false, false, false, false, false, false, false, false, false, false, false] rfl rfl (by kernel_rfl) (fun _ _ _ h => h) (Or.inl ⟨by rfl, ?_⟩) ?_ ?_
          rotate_left
          · intro w'
            go_simp
            with_reducible rfl
          rotate_left
          · simp only [Act.put, List.setIfInBounds_toArray, List.set_cons_zero, List.set_cons_succ, i64_w, i32_w]
            rfl
          refine pure_ (i := 4) (N := some 17) (v := ?_) (a' := ?_) #[true, true, true, true, true, false, false, false, false, false, false, false, false, false, false, false, false, false, false, false, false, false, false, false, false] rfl rfl (by kernel_rfl) (fun _ _ _ h => h) (Or.inl ⟨by rfl, ?_⟩) ?_ ?_
          rotate_left
          · intro w'
            go_simp
            with_reducible rfl
          rotate_left
          · simp only [Act.put, List.setIfInBounds_toArray, List.set_cons_zero, List.set_cons_succ, i64_w, i32_w]
            rfl
          refine pure_ (i := 5) (N := some 18) (v := undef) (a' := ?_) #[true, true, true, true, true, true, false, false, false, false, false, false, false, false, false, false, false, false, false, false, false, false, false, false, false] rfl rfl (by kernel_rfl) (fun _ _ _ h => h) (Or.inr ⟨by rfl, rfl⟩) ?_ ?_
          rotate_left
          · simp only [Act.put, List.setIfInBounds_toArray, List.set_cons_zero, List.set_cons_succ, i64_w, i32_w]
            rfl
          refine pure_ (i := 6) (N := some 19) (v := undef) (a' := ?_) #[true, true, true, true, true, true, true, false, false, false, false, false, false, false, false, false, false, false, false, false, false, false, false, false, false] rfl rfl (by kernel_rfl) (fun _ _ _ h => h) (Or.inr ⟨by rfl, rfl⟩) ?_ ?_
          rotate_left
          · simp only [Act.put, List.setIfInBounds_toArray, List.set_cons_zero, List.set_cons_succ, i64_w, i32_w]
            rfl
          refine pure_ (i := 7) (N := some 20) (v := undef) (a' := ?_) #[true, true, true, true, true, true, true, true, false, false, false, false, false, false, false, false, false, false, false, false, false, false, false, false, false] rfl rfl (by kernel_rfl) (fun _ _ _ h => h) (Or.inr ⟨by rfl, rfl⟩) ?_ ?_
          rotate_left
          · simp only [Act.put, List.setIfInBounds_toArray, List.set_cons_zero, List.set_cons_succ, i64_w, i32_w]
            rfl
          refine pure_ (i := 8) (N := some 21) (v := ?_) (a' := ?_) #[true, true, true, true, true, true, true, true, true, false, false, false, false, false, false, false, false, false, false, false, false, false, false, false, false] rfl rfl (by kernel_rfl) (fun _ _ _ h => h) (Or.inl ⟨by rfl, ?_⟩) ?_ ?_
          rotate_left
          · intro w'
            go_simp
            with_reducible rfl
          rotate_left
          · simp only [Act.put, List.setIfInBounds_toArray, List.set_cons_zero, List.set_cons_succ, i64_w, i32_w]
            rfl
          refine pure_ (i := 9) (N := some 22) (v := ?_) (a' := ?_) #[true, true, true, true, true, true, true, true, true, true, false, false, false, false, false, false, false, false, false, false, false, false, false, false, false] rfl rfl (by kernel_rfl) (fun _ _ _ h => h) (Or.inl ⟨by rfl, ?_⟩) ?_ ?_
          rotate_left
          · intro w'
            go_simp
            with_reducible rfl
          rotate_left
          · simp only [Act.put, List.setIfInBounds_toArray, List.set_cons_zero, List.set_cons_succ, i64_w, i32_w]
            rfl
          refine pure_ (i := 10) (N := some 23) (v := undef) (a' := ?_) #[true, true, true, true, true, true, true, true, true, true, true, false, false, false, false, false, false, false, false, false, false, false, false, false, false] rfl rfl (by kernel_rfl) (fun _ _ _ h => h) (Or.inr ⟨by rfl, rfl⟩) ?_ ?_
          rotate_left
          · simp only [Act.put, List.setIfInBounds_toArray, List.set_cons_zero, List.set_cons_succ, i64_w, i32_w]
            rfl
          refine pure_ (i := 11) (N := some 24) (v := undef) (a' := ?_) #[true, true, true, true, true, true, true, true, true, true, true, true, false, false, false, false, false, false, false, false, false, false, false, false, false] rfl rfl (by kernel_rfl) (fun _ _ _ h => h) (Or.inr ⟨by rfl, rfl⟩) ?_ ?_
          rotate_left
          · simp only [Act.put, List.setIfInBounds_toArray, List.set_cons_zero, List.set_cons_succ, i64_w, i32_w]
            rfl
          refine pure_ (i := 12) (N := some 25) (v := undef) (a' := ?_) #[true, true, true, true, true, true, true, true, true, true, true, true, true, false, false, false, false, false, false, false, false, false, false, false, false] rfl rfl (by kernel_rfl) (fun _ _ _ h => h) (Or.inr ⟨by rfl, rfl⟩) ?_ ?_
          rotate_left
          · simp only [Act.put, List.setIfInBounds_toArray, List.set_cons_zero, List.set_cons_succ, i64_w, i32_w]
            rfl
          refine pure_ (i := 13) (N := some 26) (v := undef) (a' := ?_) #[true, true, true, true, true, true, true, true, true, true, true, true, true, true, false, false, false, false, false, false, false, false, false, false, false] rfl rfl (by kernel_rfl) (fun _ _ _ h => h) (Or.inr ⟨by rfl, rfl⟩) ?_ ?_
          rotate_left
          · simp only [Act.put, List.setIfInBounds_toArray, List.set_cons_zero, List.set_cons_succ, i64_w, i32_w]
            rfl
          refine pure_ (i := 14) (N := some 27) (v := undef) (a' := ?_) #[true, true, true, true, true, true, true, true, true, true, true, true, true, true, true, false, false, false, false, false, false, false, false, false, false] rfl rfl (by kernel_rfl) (fun _ _ _ h => h) (Or.inr ⟨by rfl, rfl⟩) ?_ ?_
          rotate_left
          · simp only [Act.put, List.setIfInBounds_toArray, List.set_cons_zero, List.set_cons_succ, i64_w, i32_w]
            rfl
          refine pure_ (i := 15) (N := some 28) (v := undef) (a' := ?_) #[true, true, true, true, true, true, true, true, true, true, true, true, true, true, true, true, false, false, false, false, false, false, false, false, false] rfl rfl (by kernel_rfl) (fun _ _ _ h => h) (Or.inr ⟨by rfl, rfl⟩) ?_ ?_
          rotate_left
          · simp only [Act.put, List.setIfInBounds_toArray, List.set_cons_zero, List.set_cons_succ, i64_w, i32_w]
            rfl
          refine pure_ (i := 16) (N := some 29) (v := undef) (a' := ?_) #[true, true, true, true, true, true, true, true, true, true, true, true, true, true, true, true, true, false, false, false, false, false, false, false, false] rfl rfl (by kernel_rfl) (fun _ _ _ h => h) (Or.inr ⟨by rfl, rfl⟩) ?_ ?_
          rotate_left
          · simp only [Act.put, List.setIfInBounds_toArray, List.set_cons_zero, List.set_cons_succ, i64_w, i32_w]
            rfl
          refine pure_ (i := 17) (N := some 30) (v := undef) (a' := ?_) #[true, true, true, true, true, true, true, true, true, true, true, true, true, true, true, true, true, true, false, false, false, false, false, false, false] rfl rfl (by kernel_rfl) (fun _ _ _ h => h) (Or.inr ⟨by rfl, rfl⟩) ?_ ?_
          rotate_left
          · simp only [Act.put, List.setIfInBounds_toArray, List.set_cons_zero, List.set_cons_succ, i64_w, i32_w]
            rfl
          refine pure_ (i := 18) (N := some 31) (v := undef) (a' := ?_) #[true, true, true, true, true, true, true, true, true, true, true, true, true, true, true, true, true, true, true, false, false, false, false, false, false] rfl rfl (by kernel_rfl) (fun _ _ _ h => h) (Or.inr ⟨by rfl, rfl⟩) ?_ ?_
          rotate_left
          · simp only [Act.put, List.setIfInBounds_toArray, List.set_cons_zero, List.set_cons_succ, i64_w, i32_w]
            rfl
          refine pure_ (i := 19) (N := some 32) (v := undef) (a' := ?_) #[true, true, true, true, true, true, true, true, true, true, true, true, true, true, true, true, true, true, true, true, false, false, false, false, false] rfl rfl (by kernel_rfl) (fun _ _ _ h => h) (Or.inr ⟨by rfl, rfl⟩) ?_ ?_
          rotate_left
          · simp only [Act.put, List.setIfInBounds_toArray, List.set_cons_zero, List.set_cons_succ, i64_w, i32_w]
            rfl
          refine pure_ (i := 20) (N := some 33) (v := undef) (a' := ?_) #[true, true, true, true, true, true, true, true, true, true, true, true, true, true, true, true, true, true, true, true, true, false, false, false, false] rfl rfl (by kernel_rfl) (fun _ _ _ h => h) (Or.inr ⟨by rfl, rfl⟩) ?_ ?_
          rotate_left
          · simp only [Act.put, List.setIfInBounds_toArray, List.set_cons_zero, List.set_cons_succ, i64_w, i32_w]
            rfl
          refine pure_ (i := 21) (N := some 34) (v := undef) (a' := ?_) #[true, true, true, true, true, true, true, true, true, true, true, true, true, true, true, true, true, true, true, true, true, true, false, false, false] rfl rfl (by kernel_rfl) (fun _ _ _ h => h) (Or.inr ⟨by rfl, rfl⟩) ?_ ?_
          rotate_left
          · simp only [Act.put, List.setIfInBounds_toArray, List.set_cons_zero, List.set_cons_succ, i64_w, i32_w]
            rfl
          refine pure_ (i := 22) (N := some 35) (v := undef) (a' := ?_) #[true, true, true, true, true, true, true, true, true, true, true, true, true, true, true, true, true, true, true, true, true, true, true, false, false] rfl rfl (by kernel_rfl) (fun _ _ _ h => h) (Or.inr ⟨by rfl, rfl⟩) ?_ ?_
          rotate_left
          · simp only [Act.put, List.setIfInBounds_toArray, List.set_cons_zero, List.set_cons_succ, i64_w, i32_w]
            rfl
          refine pure_ (i := 23) (N := some 36) (v := undef) (a' := ?_) #[true, true, true, true, true, true, true, true, true, true, true, true, true, true, true, true, true, true, true, true, true, true, true, true, false] rfl rfl (by kernel_rfl) (fun _ _ _ h => h) (Or.inr ⟨by rfl, rfl⟩) ?_ ?_
          rotate_left
          · simp only [Act.put, List.setIfInBounds_toArray, List.set_cons_zero, List.set_cons_succ, i64_w, i32_w]
            rfl
          refine pure_ (i := 24) (N := some 37) (v := ?_) (a' := ?_) #[true, true, true, true, true, true, true, true, true, true, true, true, true, true, true, true, true, true, true, true, true, true, true, true, true] rfl rfl (by kernel_rfl) (fun _ _ _ h => h) (Or.inl ⟨by rfl, ?_⟩) ?_ ?_
          rotate_left
          · intro w'
            go_simp
            with_reducible rfl
          rotate_left
          · simp only [Act.put, List.setIfInBounds_toArray, List.set_cons_zero, List.set_cons_succ, i64_w, i32_w]
            rfl
          refine done_ (by kernel_rfl) ?_
          go_wp2
          go_meet
          case rel => exact ⟨by rw [hpp]; rfl, HFin.out _ H8.out⟩
        cases hcq : cutQ nm
        rotate_left
        · refine start_ (n := 25) (S := fun w' => Below wd.heap.size wd w') (ds := []) #[false, false, false, false, false, false, false, false, false, false, false, false, false, false, false, false, false, false, false, false, false, false, false, false, false] (by kernel_rfl) rfl (by kernel_rfl) (by rw [← hwd]; exact Below.refl _ _) (fun hHeld => ?_)
          rw [← hwd] at hHeld ⊢
          clear hwd
          refine pure_ (i := 0) (N := some 13) (v := ?_) (a' := ?_) #[true, false, false, false, false, false, false, false, false, false, false, false, false, false, false, false, false, false, false, false, false, false, false, false, false] rfl rfl (by kernel_rfl) (fun _ _ _ h => h) (Or.inl ⟨by rfl, ?_⟩) ?_ ?_
          rotate_left
          · intro w'
            go_simp
            with_reducible rfl
          rotate_left
          · simp only [Act.put, List.setIfInBounds_toArray, List.set_cons_zero, List.set_cons_succ, i64_w, i32_w]
            rfl
          refine take_ (i := 1) (N := some 14) (v := ?_) (a' := ?_) #[true, true, false, false, false, false, false, false, false, false, false, false, false, false, false, false, false, false, false, false, false, false, false, false, false] rfl rfl (by kernel_rfl) (fun _ _ _ h => h) (Or.inl ⟨by rfl, ?_⟩) hHeld ?_ ?_
          rotate_left
          · rintro w' s0
            have b0 := HA.out w' s0
            go_simp
            with_reducible rfl
          rotate_left
          · simp only [Act.put, List.setIfInBounds_toArray, List.set_cons_zero, List.set_cons_succ, i64_w, i32_w]
            rfl
          refine one_ (i := 2) (N := some 15) #[true, true, true, false, false, false, false, false, false, false, false, false, false, false, false, false, false, false, false, false, false, false, false, false, false] rfl rfl (by kernel_rfl) (by decide) (fun K hK => ?_)
          refine goes_ Tryd.func18 (by kernel_rfl) rfl #[.string nm] (by rfl) rfl rfl (by (try simp only [List.map_toArray, List.map_cons, List.map_nil]); rfl) ?_
          have hx := path_calls nm wd
          rw [hpp] at hx
          refine hx.mono ?_
          clear hx
          rintro e8 w8 ⟨rfl, hb8⟩
          refine ⟨_, rfl, ?_⟩
          have H8 := Aside0.mk hb8
          clear hb8
          refine hK.out _ _ (H8.out) (fun hHeld => ?_)
          clear hK K
          refine norm_ (a' := ?_) ?_ ?_
          rotate_left
          · show Act.put _ (some 15) _ = _
            simp only [Act.put, List.setIfInBounds_toArray, List.set_cons_zero, List.set_cons_succ, i64_w, i32_w]
            rfl
          refine pure_ (i := 3) (N := some 16) (v := ?_) (a' := ?_) #[true, true, true, true, false, false, false, false, false, false, false, false, false, false, false, false, false, false, false, false, false, false, false, false, false] rfl rfl (by kernel_rfl) (fun _ _ _ h => h) (Or.inl ⟨by rfl, ?_⟩) ?_ ?_
          rotate_left
          · intro w'
            go_simp
            with_reducible rfl
          rotate_left
          · simp only [Act.put, List.setIfInBounds_toArray, List.set_cons_zero, List.set_cons_succ, i64_w, i32_w]
            rfl
          refine pure_ (i := 4) (N := some 17) (v := ?_) (a' := ?_) #[true, true, true, true, true, false, false, false, false, false, false, false, false, false, false, false, false, false, false, false, false, false, false, false, false] rfl rfl (by kernel_rfl) (fun _ _ _ h => h) (Or.inl ⟨by rfl, ?_⟩) ?_ ?_
          rotate_left
          · intro w'
            go_simp
            with_reducible rfl
          rotate_left
          · simp only [Act.put, List.setIfInBounds_toArray, List.set_cons_zero, List.set_cons_succ, i64_w, i32_w]
            rfl
          refine pure_ (i := 5) (N := some 18) (v := ?_) (a' := ?_) #[true, true, true, true, true, true, false, false, false, false, false, false, false, false, false, false, false, false, false, false, false, false, false, false, false] rfl rfl (by kernel_rfl) (fun _ _ _ h => h) (Or.inl ⟨by rfl, ?_⟩) ?_ ?_
          rotate_left
          · intro w'
            go_simp
            with_reducible rfl
          rotate_left
          · simp only [Act.put, List.setIfInBounds_toArray, List.set_cons_zero, List.set_cons_succ, i64_w, i32_w]
            rfl
          refine take_ (i := 6) (N := some 19) (v := ?_) (a' := ?_) #[true, true, true, true, true, true, true, false, false, false, false, false, false, false, false, false, false, false, false, false, false, false, false, false, false] rfl rfl (by kernel_rfl) (fun _ _ _ h => h) (Or.inl ⟨by rfl, ?_⟩) hHeld ?_ ?_
          rotate_left
          · rintro w' s0
            have b0 := HA.out w' s0
            go_simp
            with_reducible rfl
          rotate_left
          · simp only [Act.put, List.setIfInBounds_toArray, List.set_cons_zero, List.set_cons_succ, i64_w, i32_w]
            rfl
          refine one_ (i := 7) (N := some 20) #[true, true, true, true, true, true, true, true, false, false, false, false, false, false, false, false, false, false, false, false, false, false, false, false, false] rfl rfl (by kernel_rfl) (by decide) (fun K hK => ?_)
          refine goes_ Tryd.func81 (by kernel_rfl) rfl #[.string nm, .string ⟨#[47]⟩] (by rfl) rfl rfl (by (try simp only [List.map_toArray, List.map_cons, List.map_nil]); rfl) ?_
          have hx := contains_calls nm w8
          rw [hcq] at hx
          refine hx.mono ?_
          clear hx
          rintro e9 w9 ⟨rfl, rfl⟩
          refine ⟨_, rfl, ?_⟩
          refine hK.out _ _ (H8.out) (fun hHeld => ?_)
          clear hK K
          refine norm_ (a' := ?_) ?_ ?_
          rotate_left
          · show Act.put _ (some 20) _ = _
            simp only [Act.put, List.setIfInBounds_toArray, List.set_cons_zero, List.set_cons_succ, i64_w, i32_w]
            rfl
          refine pure_ (i := 8) (N := some 21) (v := ?_) (a' := ?_) #[true, true, true, true, true, true, true, true, true, false, false, false, false, false, false, false, false, false, false, false, false, false, false, false, false] rfl rfl (by kernel_rfl) (fun _ _ _ h => h) (Or.inl ⟨by rfl, ?_⟩) ?_ ?_
          rotate_left
          · intro w'
            go_simp
            with_reducible rfl
          rotate_left
          · simp only [Act.put, List.setIfInBounds_toArray, List.set_cons_zero, List.set_cons_succ, i64_w, i32_w]
            rfl
          refine pure_ (i := 9) (N := some 22) (v := ?_) (a' := ?_) #[true, true, true, true, true, true, true, true, true, true, false, false, false, false, false, false, false, false, false, false, false, false, false, false, false] rfl rfl (by kernel_rfl) (fun _ _ _ h => h) (Or.inl ⟨by rfl, ?_⟩) ?_ ?_
          rotate_left
          · intro w'
            go_simp
            with_reducible rfl
          rotate_left
          · simp only [Act.put, List.setIfInBounds_toArray, List.set_cons_zero, List.set_cons_succ, i64_w, i32_w]
            rfl
          refine pure_ (i := 10) (N := some 23) (v := undef) (a' := ?_) #[true, true, true, true, true, true, true, true, true, true, true, false, false, false, false, false, false, false, false, false, false, false, false, false, false] rfl rfl (by kernel_rfl) (fun _ _ _ h => h) (Or.inr ⟨by rfl, rfl⟩) ?_ ?_
          rotate_left
          · simp only [Act.put, List.setIfInBounds_toArray, List.set_cons_zero, List.set_cons_succ, i64_w, i32_w]
            rfl
          refine pure_ (i := 11) (N := some 24) (v := undef) (a' := ?_) #[true, true, true, true, true, true, true, true, true, true, true, true, false, false, false, false, false, false, false, false, false, false, false, false, false] rfl rfl (by kernel_rfl) (fun _ _ _ h => h) (Or.inr ⟨by rfl, rfl⟩) ?_ ?_
          rotate_left
          · simp only [Act.put, List.setIfInBounds_toArray, List.set_cons_zero, List.set_cons_succ, i64_w, i32_w]
            rfl
          refine pure_ (i := 12) (N := some 25) (v := undef) (a' := ?_) #[true, true, true, true, true, true, true, true, true, true, true, true, true, false, false, false, false, false, false, false, false, false, false, false, false] rfl rfl (by kernel_rfl) (fun _ _ _ h => h) (Or.inr ⟨by rfl, rfl⟩) ?_ ?_
          rotate_left
          · simp only [Act.put, List.setIfInBounds_toArray, List.set_cons_zero, List.set_cons_succ, i64_w, i32_w]
            rfl
          refine pure_ (i := 13) (N := some 26) (v := undef) (a' := ?_) #[true, true, true, true, true, true, true, true, true, true, true, true, true, true, false, false, false, false, false, false, false, false, false, false, false] rfl rfl (by kernel_rfl) (fun _ _ _ h => h) (Or.inr ⟨by rfl, rfl⟩) ?_ ?_
          rotate_left
          · simp only [Act.put, List.setIfInBounds_toArray, List.set_cons_zero, List.set_cons_succ, i64_w, i32_w]
            rfl
          refine pure_ (i := 14) (N := some 27) (v := undef) (a' := ?_) #[true, true, true, true, true, true, true, true, true, true, true, true, true, true, true, false, false, false, false, false, false, false, false, false, false] rfl rfl (by kernel_rfl) (fun _ _ _ h => h) (Or.inr ⟨by rfl, rfl⟩) ?_ ?_
          rotate_left
          · simp only [Act.put, List.setIfInBounds_toArray, List.set_cons_zero, List.set_cons_succ, i64_w, i32_w]
            rfl
          refine pure_ (i := 15) (N := some 28) (v := undef) (a' := ?_) #[true, true, true, true, true, true, true, true, true, true, true, true, true, true, true, true, false, false, false, false, false, false, false, false, false] rfl rfl (by kernel_rfl) (fun _ _ _ h => h) (Or.inr ⟨by rfl, rfl⟩) ?_ ?_
          rotate_left
          · simp only [Act.put, List.setIfInBounds_toArray, List.set_cons_zero, List.set_cons_succ, i64_w, i32_w]
            rfl
          refine pure_ (i := 16) (N := some 29) (v := undef) (a' := ?_) #[true, true, true, true, true, true, true, true, true, true, true, true, true, true, true, true, true, false, false, false, false, false, false, false, false] rfl rfl (by kernel_rfl) (fun _ _ _ h => h) (Or.inr ⟨by rfl, rfl⟩) ?_ ?_
          rotate_left
          · simp only [Act.put, List.setIfInBounds_toArray, List.set_cons_zero, List.set_cons_succ, i64_w, i32_w]
            rfl
          refine pure_ (i := 17) (N := some 30) (v := undef) (a' := ?_) #[true, true, true, true, true, true, true, true, true, true, true, true, true, true, true, true, true, true, false, false, false, false, false, false, false] rfl rfl (by kernel_rfl) (fun _ _ _ h => h) (Or.inr ⟨by rfl, rfl⟩) ?_ ?_
          rotate_left
          · simp only [Act.put, List.setIfInBounds_toArray, List.set_cons_zero, List.set_cons_succ, i64_w, i32_w]
            rfl
          refine pure_ (i := 18) (N := some 31) (v := undef) (a' := ?_) #[true, true, true, true, true, true, true, true, true, true, true, true, true, true, true, true, true, true, true, false, false, false, false, false, false] rfl rfl (by kernel_rfl) (fun _ _ _ h => h) (Or.inr ⟨by rfl, rfl⟩) ?_ ?_
          rotate_left
          · simp only [Act.put, List.setIfInBounds_toArray, List.set_cons_zero, List.set_cons_succ, i64_w, i32_w]
            rfl
          refine pure_ (i := 19) (N := some 32) (v := undef) (a' := ?_) #[true, true, true, true, true, true, true, true, true, true, true, true, true, true, true, true, true, true, true, true, false, false, false, false, false] rfl rfl (by kernel_rfl) (fun _ _ _ h => h) (Or.inr ⟨by rfl, rfl⟩) ?_ ?_
          rotate_left
          · simp only [Act.put, List.setIfInBounds_toArray, List.set_cons_zero, List.set_cons_succ, i64_w, i32_w]
            rfl
          refine pure_ (i := 20) (N := some 33) (v := undef) (a' := ?_) #[true, true, true, true, true, true, true, true, true, true, true, true, true, true, true, true, true, true, true, true, true, false, false, false, false] rfl rfl (by kernel_rfl) (fun _ _ _ h => h) (Or.inr ⟨by rfl, rfl⟩) ?_ ?_
          rotate_left
          · simp only [Act.put, List.setIfInBounds_toArray, List.set_cons_zero, List.set_cons_succ, i64_w, i32_w]
            rfl
          refine pure_ (i := 21) (N := some 34) (v := undef) (a' := ?_) #[true, true, true, true, true, true, true, true, true, true, true, true, true, true, true, true, true, true, true, true, true, true, false, false, false] rfl rfl (by kernel_rfl) (fun _ _ _ h => h) (Or.inr ⟨by rfl, rfl⟩) ?_ ?_
          rotate_left
          · simp only [Act.put, List.setIfInBounds_toArray, List.set_cons_zero, List.set_cons_succ, i64_w, i32_w]
            rfl
          refine pure_ (i := 22) (N := some 35) (v := undef) (a' := ?_) #[true, true, true, true, true, true, true, true, true, true, true, true, true, true, true, true, true, true, true, true, true, true, true, false, false] rfl rfl (by kernel_rfl) (fun _ _ _ h => h) (Or.inr ⟨by rfl, rfl⟩) ?_ ?_
          rotate_left
          · simp only [Act.put, List.setIfInBounds_toArray, List.set_cons_zero, List.set_cons_succ, i64_w, i32_w]
            rfl
          refine pure_ (i := 23) (N := some 36) (v := undef) (a' := ?_) #[true, true, true, true, true, true, true, true, true, true, true, true, true, true, true, true, true, true, true, true, true, true, true, true, false] rfl rfl (by kernel_rfl) (fun _ _ _ h => h) (Or.inr ⟨by rfl, rfl⟩) ?_ ?_
          rotate_left
          · simp only [Act.put, List.setIfInBounds_toArray, List.set_cons_zero, List.set_cons_succ, i64_w, i32_w]
            rfl
          refine pure_ (i := 24) (N := some 37) (v := ?_) (a' := ?_) #[true, true, true, true, true, true, true, true, true, true, true, true, true, true, true, true, true, true, true, true, true, true, true, true, true] rfl rfl (by kernel_rfl) (fun _ _ _ h => h) (Or.inl ⟨by rfl, ?_⟩) ?_ ?_
          rotate_left
          · intro w'
            go_simp
            with_reducible rfl
          rotate_left
          · simp only [Act.put, List.setIfInBounds_toArray, List.set_cons_zero, List.set_cons_succ, i64_w, i32_w]
            rfl
          refine done_ (by kernel_rfl) ?_
          go_wp2
          go_meet
          case rel => exact ⟨by rw [hpp, hcq]; rfl, HFin.out _ H8.out⟩
        by_cases hi0 : i = 0
        · have hpt : pv = true := by rw [HPV.out, hi0]; rfl
          subst hi0
          have d2 : decide (((0 : Nat) : Int) > 0) = false := by decide
          refine start_ (n := 25) (S := fun w' => Below wd.heap.size wd w') (ds := []) #[false, false, false, false, false, false, false, false, false, false, false, false, false, false, false, false, false, false, false, false, false, false, false, false, false] (by kernel_rfl) rfl (by kernel_rfl) (by rw [← hwd]; exact Below.refl _ _) (fun hHeld => ?_)
          rw [← hwd] at hHeld ⊢
          clear hwd
          refine pure_ (i := 0) (N := some 13) (v := ?_) (a' := ?_) #[true, false, false, false, false, false, false, false, false, false, false, false, false, false, false, false, false, false, false, false, false, false, false, false, false] rfl rfl (by kernel_rfl) (fun _ _ _ h => h) (Or.inl ⟨by rfl, ?_⟩) ?_ ?_
          rotate_left
          · intro w'
            go_simp
            with_reducible rfl
          rotate_left
          · simp only [Act.put, List.setIfInBounds_toArray, List.set_cons_zero, List.set_cons_succ, i64_w, i32_w]
            rfl
          refine take_ (i := 1) (N := some 14) (v := ?_) (a' := ?_) #[true, true, false, false, false, false, false, false, false, false, false, false, false, false, false, false, false, false, false, false, false, false, false, false, false] rfl rfl (by kernel_rfl) (fun _ _ _ h => h) (Or.inl ⟨by rfl, ?_⟩) hHeld ?_ ?_
          rotate_left
          · rintro w' s0
            have b0 := HA.out w' s0
            go_simp
            with_reducible rfl
          rotate_left
          · simp only [Act.put, List.setIfInBounds_toArray, List.set_cons_zero, List.set_cons_succ, i64_w, i32_w]
            rfl
          refine one_ (i := 2) (N := some 15) #[true, true, true, false, false, false, false, false, false, false, false, false, false, false, false, false, false, false, false, false, false, false, false, false, false] rfl rfl (by kernel_rfl) (by decide) (fun K hK => ?_)
          refine goes_ Tryd.func18 (by kernel_rfl) rfl #[.string nm] (by rfl) rfl rfl (by (try simp only [List.map_toArray, List.map_cons, List.map_nil]); rfl) ?_
          have hx := path_calls nm wd
          rw [hpp] at hx
          refine hx.mono ?_
          clear hx
          rintro e8 w8 ⟨rfl, hb8⟩
          refine ⟨_, rfl, ?_⟩
          have H8 := Aside0.mk hb8
          clear hb8
          refine hK.out _ _ (H8.out) (fun hHeld => ?_)
          clear hK K
          refine norm_ (a' := ?_) ?_ ?_
          rotate_left
          · show Act.put _ (some 15) _ = _
            simp only [Act.put, List.setIfInBounds_toArray, List.set_cons_zero, List.set_cons_succ, i64_w, i32_w]
            rfl
          refine pure_ (i := 3) (N := some 16) (v := ?_) (a' := ?_) #[true, true, true, true, false, false, false, false, false, false, false, false, false, false, false, false, false, false, false, false, false, false, false, false, false] rfl rfl (by kernel_rfl) (fun _ _ _ h => h) (Or.inl ⟨by rfl, ?_⟩) ?_ ?_
          rotate_left
          · intro w'
            go_simp
            with_reducible rfl
          rotate_left
          · simp only [Act.put, List.setIfInBounds_toArray, List.set_cons_zero, List.set_cons_succ, i64_w, i32_w]
            rfl
          refine pure_ (i := 4) (N := some 17) (v := ?_) (a' := ?_) #[true, true, true, true, true, false, false, false, false, false, false, false, false, false, false, false, false, false, false, false, false, false, false, false, false] rfl rfl (by kernel_rfl) (fun _ _ _ h => h) (Or.inl ⟨by rfl, ?_⟩) ?_ ?_
          rotate_left
          · intro w'
            go_simp
            with_reducible rfl
          rotate_left
          · simp only [Act.put, List.setIfInBounds_toArray, List.set_cons_zero, List.set_cons_succ, i64_w, i32_w]
            rfl
          refine pure_ (i := 5) (N := some 18) (v := ?_) (a' := ?_) #[true, true, true, true, true, true, false, false, false, false, false, false, false, false, false, false, false, false, false, false, false, false, false, false, false] rfl rfl (by kernel_rfl) (fun _ _ _ h => h) (Or.inl ⟨by rfl, ?_⟩) ?_ ?_
          rotate_left
          · intro w'
            go_simp
            with_reducible rfl
          rotate_left
          · simp only [Act.put, List.setIfInBounds_toArray, List.set_cons_zero, List.set_cons_succ, i64_w, i32_w]
            rfl
          refine take_ (i := 6) (N := some 19) (v := ?_) (a' := ?_) #[true, true, true, true, true, true, true, false, false, false, false, false, false, false, false, false, false, false, false, false, false, false, false, false, false] rfl rfl (by kernel_rfl) (fun _ _ _ h => h) (Or.inl ⟨by rfl, ?_⟩) hHeld ?_ ?_
          rotate_left
          · rintro w' s0
            have b0 := HA.out w' s0
            go_simp
            with_reducible rfl
          rotate_left
          · simp only [Act.put, List.setIfInBounds_toArray, List.set_cons_zero, List.set_cons_succ, i64_w, i32_w]
            rfl
          refine one_ (i := 7) (N := some 20) #[true, true, true, true, true, true, true, true, false, false, false, false, false, false, false, false, false, false, false, false, false, false, false, false, false] rfl rfl (by kernel_rfl) (by decide) (fun K hK => ?_)
          refine goes_ Tryd.func81 (by kernel_rfl) rfl #[.string nm, .string ⟨#[47]⟩] (by rfl) rfl rfl (by (try simp only [List.map_toArray, List.map_cons, List.map_nil]); rfl) ?_
          have hx := contains_calls nm w8
          rw [hcq] at hx
          refine hx.mono ?_
          clear hx
          rintro e9 w9 ⟨rfl, rfl⟩
          refine ⟨_, rfl, ?_⟩
          refine hK.out _ _ (H8.out) (fun hHeld => ?_)
          clear hK K
          refine norm_ (a' := ?_) ?_ ?_
          rotate_left
          · show Act.put _ (some 20) _ = _
            simp only [Act.put, List.setIfInBounds_toArray, List.set_cons_zero, List.set_cons_succ, i64_w, i32_w]
            rfl
          refine pure_ (i := 8) (N := some 21) (v := ?_) (a' := ?_) #[true, true, true, true, true, true, true, true, true, false, false, false, false, false, false, false, false, false, false, false, false, false, false, false, false] rfl rfl (by kernel_rfl) (fun _ _ _ h => h) (Or.inl ⟨by rfl, ?_⟩) ?_ ?_
          rotate_left
          · intro w'
            go_simp
            with_reducible rfl
          rotate_left
          · simp only [Act.put, List.setIfInBounds_toArray, List.set_cons_zero, List.set_cons_succ, i64_w, i32_w]
            rfl
          refine pure_ (i := 9) (N := some 22) (v := ?_) (a' := ?_) #[true, true, true, true, true, true, true, true, true, true, false, false, false, false, false, false, false, false, false, false, false, false, false, false, false] rfl rfl (by kernel_rfl) (fun _ _ _ h => h) (Or.inl ⟨by rfl, ?_⟩) ?_ ?_
          rotate_left
          · intro w'
            go_simp
            with_reducible rfl
          rotate_left
          · simp only [Act.put, List.setIfInBounds_toArray, List.set_cons_zero, List.set_cons_succ, i64_w, i32_w]
            rfl
          refine pure_ (i := 10) (N := some 23) (v := ?_) (a' := ?_) #[true, true, true, true, true, true, true, true, true, true, true, false, false, false, false, false, false, false, false, false, false, false, false, false, false] rfl rfl (by kernel_rfl) (fun _ _ _ h => h) (Or.inl ⟨by rfl, ?_⟩) ?_ ?_
          rotate_left
          · intro w'
            go_simp
            with_reducible rfl
          rotate_left
          · simp only [Act.put, List.setIfInBounds_toArray, List.set_cons_zero, List.set_cons_succ, i64_w, i32_w]
            rfl
          refine pure_ (i := 11) (N := some 24) (v := ?_) (a' := ?_) #[true, true, true, true, true, true, true, true, true, true, true, true, false, false, false, false, false, false, false, false, false, false, false, false, false] rfl rfl (by kernel_rfl) (fun _ _ _ h => h) (Or.inl ⟨by rfl, ?_⟩) ?_ ?_
          rotate_left
          · intro w'
            go_simp
            with_reducible rfl
          rotate_left
          · simp only [Act.put, List.setIfInBounds_toArray, List.set_cons_zero, List.set_cons_succ, i64_w, i32_w]
            rfl
          refine pure_ (i := 12) (N := some 25) (v := ?_) (a' := ?_) #[true, true, true, true, true, true, true, true, true, true, true, true, true, false, false, false, false, false, false, false, false, false, false, false, false] rfl rfl (by kernel_rfl) (fun _ _ _ h => h) (Or.inl ⟨by rfl, ?_⟩) ?_ ?_
          rotate_left
          · intro w'
            go_simp
            with_reducible rfl
          rotate_left
          · simp only [Act.put, List.setIfInBounds_toArray, List.set_cons_zero, List.set_cons_succ, i64_w, i32_w]
            rfl
          refine pure_ (i := 13) (N := some 26) (v := undef) (a' := ?_) #[true, true, true, true, true, true, true, true, true, true, true, true, true, true, false, false, false, false, false, false, false, false, false, false, false] rfl rfl (by kernel_rfl) (fun _ _ _ h => h) (Or.inr ⟨by rfl, rfl⟩) ?_ ?_
          rotate_left
          · simp only [Act.put, List.setIfInBounds_toArray, List.set_cons_zero, List.set_cons_succ, i64_w, i32_w]
            rfl
          refine pure_ (i := 14) (N := some 27) (v := undef) (a' := ?_) #[true, true, true, true, true, true, true, true, true, true, true, true, true, true, true, false, false, false, false, false, false, false, false, false, false] rfl rfl (by kernel_rfl) (fun _ _ _ h => h) (Or.inr ⟨by rfl, rfl⟩) ?_ ?_
          rotate_left
          · simp only [Act.put, List.setIfInBounds_toArray, List.set_cons_zero, List.set_cons_succ, i64_w, i32_w]
            rfl
          refine pure_ (i := 15) (N := some 28) (v := undef) (a' := ?_) #[true, true, true, true, true, true, true, true, true, true, true, true, true, true, true, true, false, false, false, false, false, false, false, false, false] rfl rfl (by kernel_rfl) (fun _ _ _ h => h) (Or.inr ⟨by rfl, rfl⟩) ?_ ?_
          rotate_left
          · simp only [Act.put, List.setIfInBounds_toArray, List.set_cons_zero, List.set_cons_succ, i64_w, i32_w]
            rfl
          refine pure_ (i := 16) (N := some 29) (v := undef) (a' := ?_) #[true, true, true, true, true, true, true, true, true, true, true, true, true, true, true, true, true, false, false, false, false, false, false, false, false] rfl rfl (by kernel_rfl) (fun _ _ _ h => h) (Or.inr ⟨by rfl, rfl⟩) ?_ ?_
          rotate_left
          · simp only [Act.put, List.setIfInBounds_toArray, List.set_cons_zero, List.set_cons_succ, i64_w, i32_w]
            rfl
          refine pure_ (i := 17) (N := some 30) (v := undef) (a' := ?_) #[true, true, true, true, true, true, true, true, true, true, true, true, true, true, true, true, true, true, false, false, false, false, false, false, false] rfl rfl (by kernel_rfl) (fun _ _ _ h => h) (Or.inr ⟨by rfl, rfl⟩) ?_ ?_
          rotate_left
          · simp only [Act.put, List.setIfInBounds_toArray, List.set_cons_zero, List.set_cons_succ, i64_w, i32_w]
            rfl
          refine pure_ (i := 18) (N := some 31) (v := undef) (a' := ?_) #[true, true, true, true, true, true, true, true, true, true, true, true, true, true, true, true, true, true, true, false, false, false, false, false, false] rfl rfl (by kernel_rfl) (fun _ _ _ h => h) (Or.inr ⟨by rfl, rfl⟩) ?_ ?_
          rotate_left
          · simp only [Act.put, List.setIfInBounds_toArray, List.set_cons_zero, List.set_cons_succ, i64_w, i32_w]
            rfl
          refine pure_ (i := 19) (N := some 32) (v := undef) (a' := ?_) #[true, true, true, true, true, true, true, true, true, true, true, true, true, true, true, true, true, true, true, true, false, false, false, false, false] rfl rfl (by kernel_rfl) (fun _ _ _ h => h) (Or.inr ⟨by rfl, rfl⟩) ?_ ?_
          rotate_left
          · simp only [Act.put, List.setIfInBounds_toArray, List.set_cons_zero, List.set_cons_succ, i64_w, i32_w]
            rfl
          refine pure_ (i := 20) (N := some 33) (v := undef) (a' := ?_) #[true, true, true, true, true, true, true, true, true, true, true, true, true, true, true, true, true, true, true, true, true, false, false, false, false] rfl rfl (by kernel_rfl) (fun _ _ _ h => h) (Or.inr ⟨by rfl, rfl⟩) ?_ ?_
          rotate_left
          · simp only [Act.put, List.setIfInBounds_toArray, List.set_cons_zero, List.set_cons_succ, i64_w, i32_w]
            rfl
          refine pure_ (i := 21) (N := some 34) (v := undef) (a' := ?_) #[true, true, true, true, true, true, true, true, true, true, true, true, true, true, true, true, true, true, true, true, true, true, false, false, false] rfl rfl (by kernel_rfl) (fun _ _ _ h => h) (Or.inr ⟨by rfl, rfl⟩) ?_ ?_
          rotate_left
          · simp only [Act.put, List.setIfInBounds_toArray, List.set_cons_zero, List.set_cons_succ, i64_w, i32_w]
            rfl
          refine pure_ (i := 22) (N := some 35) (v := undef) (a' := ?_) #[true, true, true, true, true, true, true, true, true, true, true, true, true, true, true, true, true, true, true, true, true, true, true, false, false] rfl rfl (by kernel_rfl) (fun _ _ _ h => h) (Or.inr ⟨by rfl, rfl⟩) ?_ ?_
          rotate_left
          · simp only [Act.put, List.setIfInBounds_toArray, List.set_cons_zero, List.set_cons_succ, i64_w, i32_w]
            rfl
          refine pure_ (i := 23) (N := some 36) (v := ?_) (a' := ?_) #[true, true, true, true, true, true, true, true, true, true, true, true, true, true, true, true, true, true, true, true, true, true, true, true, false] rfl rfl (by kernel_rfl) (fun _ _ _ h => h) (Or.inl ⟨by rfl, ?_⟩) ?_ ?_
          rotate_left
          · intro w'
            go_simp
            with_reducible rfl
          rotate_left
          · simp only [Act.put, List.setIfInBounds_toArray, List.set_cons_zero, List.set_cons_succ, i64_w, i32_w]
            rfl
          refine pure_ (i := 24) (N := some 37) (v := ?_) (a' := ?_) #[true, true, true, true, true, true, true, true, true, true, true, true, true, true, true, true, true, true, true, true, true, true, true, true, true] rfl rfl (by kernel_rfl) (fun _ _ _ h => h) (Or.inl ⟨by rfl, ?_⟩) ?_ ?_
          rotate_left
          · intro w'
            go_simp
            with_reducible rfl
          rotate_left
          · simp only [Act.put, List.setIfInBounds_toArray, List.set_cons_zero, List.set_cons_succ, i64_w, i32_w]
            rfl
          refine done_ (by kernel_rfl) ?_
          go_wp2
          go_meet
          case rel => exact ⟨by rw [hpp, hcq, hpt]; rfl, HFin.out _ H8.out⟩
        · obtain ⟨ad2, e2, _, _, p0⟩ := at_e HCS.out.2.1 (i := i - 1) (by have := HCS.out.2.2; omega)
          cases e2
          obtain ⟨p, hp⟩ : ∃ p, p = (x.es.getD (i - 1) eNone).nm := ⟨_, rfl⟩
          have hpt : pv = lessS p nm := by rw [HPV.out]; unfold prevE; rw [if_neg hi0, ← hp]
          rw [← hp] at p0
          have HA2 : Aside0 (∀ W, Below wd.heap.size wd W → W.cell? ⟨g4, 0, none⟩ = some (.string nm) ∧ W.cell? ⟨gb, 4, none⟩ = some (.slice (some ad) m ec) ∧ W.cell? (ad.add ((i - 1) * 34)) = some (.string p)) := ⟨fun W hW => ⟨HA.out W hW, by rw [HCS.out.2.2]; exact (HD.out.2.1.below hW).cells.2.2.2.2.1, ((below_step HD.out.2.2 hW).cell (World.block_lt_of_cell? w _ p0)).trans p0⟩⟩
          have d2 : decide ((i : Int) > 0) = true := decide_eq_true (by omega)
          have d2a : decide (0 < (i : Int)) = true := decide_eq_true (by omega)
          have d2b : decide (0 < i) = true := decide_eq_true (by omega)
          have hi1m : i - 1 < m := by omega
          have hw1 : wrap64 ((i : Int) - 1) = ((i - 1 : Nat) : Int) := by
            obtain ⟨i1, rfl⟩ : ∃ i1, i = i1 + 1 := ⟨i - 1, by omega⟩
            exact (IntWalk.wrap64_in _ ⟨by omega, by omega⟩).trans (by omega)
          clear hi0 p0 hp
          refine start_ (n := 25) (S := fun w' => Below wd.heap.size wd w') (ds := []) #[false, false, false, false, false, false, false, false, false, false, false, false, false, false, false, false, false, false, false, false, false, false, false, false, false] (by kernel_rfl) rfl (by kernel_rfl) (by rw [← hwd]; exact Below.refl _ _) (fun hHeld => ?_)
          rw [← hwd] at hHeld ⊢
          clear hwd
          refine pure_ (i := 0) (N := some 13) (v := ?_) (a' := ?_) #[true, false, false, false, false, false, false, false, false, false, false, false, false, false, false, false, false, false, false, false, false, false, false, false, false] rfl rfl (by kernel_rfl) (fun _ _ _ h => h) (Or.inl ⟨by rfl, ?_⟩) ?_ ?_
          rotate_left
          · intro w'
            go_simp
            with_reducible rfl
          rotate_left
          · simp only [Act.put, List.setIfInBounds_toArray, List.set_cons_zero, List.set_cons_succ, i64_w, i32_w]
            rfl
          refine take_ (i := 1) (N := some 14) (v := ?_) (a' := ?_) #[true, true, false, false, false, false, false, false, false, false, false, false, false, false, false, false, false, false, false, false, false, false, false, false, false] rfl rfl (by kernel_rfl) (fun _ _ _ h => h) (Or.inl ⟨by rfl, ?_⟩) hHeld ?_ ?_
          rotate_left
          · rintro w' s0
            have b0 := HA.out w' s0
            go_simp
            with_reducible rfl
          rotate_left
          · simp only [Act.put, List.setIfInBounds_toArray, List.set_cons_zero, List.set_cons_succ, i64_w, i32_w]
            rfl
          refine one_ (i := 2) (N := some 15) #[true, true, true, false, false, false, false, false, false, false, false, false, false, false, false, false, false, false, false, false, false, false, false, false, false] rfl rfl (by kernel_rfl) (by decide) (fun K hK => ?_)
          refine goes_ Tryd.func18 (by kernel_rfl) rfl #[.string nm] (by rfl) rfl rfl (by (try simp only [List.map_toArray, List.map_cons, List.map_nil]); rfl) ?_
          have hx := path_calls nm wd
          rw [hpp] at hx
          refine hx.mono ?_
          clear hx
          rintro e8 w8 ⟨rfl, hb8⟩
          refine ⟨_, rfl, ?_⟩
          have H8 := Aside0.mk hb8
          clear hb8
          refine hK.out _ _ (H8.out) (fun hHeld => ?_)
          clear hK K
          refine norm_ (a' := ?_) ?_ ?_
          rotate_left
          · show Act.put _ (some 15) _ = _
            simp only [Act.put, List.setIfInBounds_toArray, List.set_cons_zero, List.set_cons_succ, i64_w, i32_w]
            rfl
          refine pure_ (i := 3) (N := some 16) (v := ?_) (a' := ?_) #[true, true, true, true, false, false, false, false, false, false, false, false, false, false, false, false, false, false, false, false, false, false, false, false, false] rfl rfl (by kernel_rfl) (fun _ _ _ h => h) (Or.inl ⟨by rfl, ?_⟩) ?_ ?_
          rotate_left
          · intro w'
            go_simp
            with_reducible rfl
          rotate_left
          · simp only [Act.put, List.setIfInBounds_toArray, List.set_cons_zero, List.set_cons_succ, i64_w, i32_w]
            rfl
          refine pure_ (i := 4) (N := some 17) (v := ?_) (a' := ?_) #[true, true, true, true, true, false, false, false, false, false, false, false, false, false, false, false, false, false, false, false, false, false, false, false, false] rfl rfl (by kernel_rfl) (fun _ _ _ h => h) (Or.inl ⟨by rfl, ?_⟩) ?_ ?_
          rotate_left
          · intro w'
            go_simp
            with_reducible rfl
          rotate_left
          · simp only [Act.put, List.setIfInBounds_toArray, List.set_cons_zero, List.set_cons_succ, i64_w, i32_w]
            rfl
          refine pure_ (i := 5) (N := some 18) (v := ?_) (a' := ?_) #[true, true, true, true, true, true, false, false, false, false, false, false, false, false, false, false, false, false, false, false, false, false, false, false, false] rfl rfl (by kernel_rfl) (fun _ _ _ h => h) (Or.inl ⟨by rfl, ?_⟩) ?_ ?_
          rotate_left
          · intro w'
            go_simp
            with_reducible rfl
          rotate_left
          · simp only [Act.put, List.setIfInBounds_toArray, List.set_cons_zero, List.set_cons_succ, i64_w, i32_w]
            rfl
          refine take_ (i := 6) (N := some 19) (v := ?_) (a' := ?_) #[true, true, true, true, true, true, true, false, false, false, false, false, false, false, false, false, false, false, false, false, false, false, false, false, false] rfl rfl (by kernel_rfl) (fun _ _ _ h => h) (Or.inl ⟨by rfl, ?_⟩) hHeld ?_ ?_
          rotate_left
          · rintro w' s0
            have b0 := HA.out w' s0
            go_simp
            with_reducible rfl
          rotate_left
          · simp only [Act.put, List.setIfInBounds_toArray, List.set_cons_zero, List.set_cons_succ, i64_w, i32_w]
            rfl
          refine one_ (i := 7) (N := some 20) #[true, true, true, true, true, true, true, true, false, false, false, false, false, false, false, false, false, false, false, false, false, false, false, false, false] rfl rfl (by kernel_rfl) (by decide) (fun K hK => ?_)
          refine goes_ Tryd.func81 (by kernel_rfl) rfl #[.string nm, .string ⟨#[47]⟩] (by rfl) rfl rfl (by (try simp only [List.map_toArray, List.map_cons, List.map_nil]); rfl) ?_
          have hx := contains_calls nm w8
          rw [hcq] at hx
          refine hx.mono ?_
          clear hx
          rintro e9 w9 ⟨rfl, rfl⟩
          refine ⟨_, rfl, ?_⟩
          refine hK.out _ _ (H8.out) (fun hHeld => ?_)
          clear hK K
          refine norm_ (a' := ?_) ?_ ?_
          rotate_left
          · show Act.put _ (some 20) _ = _
            simp only [Act.put, List.setIfInBounds_toArray, List.set_cons_zero, List.set_cons_succ, i64_w, i32_w]
            rfl
          refine pure_ (i := 8) (N := some 21) (v := ?_) (a' := ?_) #[true, true, true, true, true, true, true, true, true, false, false, false, false, false, false, false, false, false, false, false, false, false, false, false, false] rfl rfl (by kernel_rfl) (fun _ _ _ h => h) (Or.inl ⟨by rfl, ?_⟩) ?_ ?_
          rotate_left
          · intro w'
            go_simp
            with_reducible rfl
          rotate_left
          · simp only [Act.put, List.setIfInBounds_toArray, List.set_cons_zero, List.set_cons_succ, i64_w, i32_w]
            rfl
          refine pure_ (i := 9) (N := some 22) (v := ?_) (a' := ?_) #[true, true, true, true, true, true, true, true, true, true, false, false, false, false, false, false, false, false, false, false, false, false, false, false, false] rfl rfl (by kernel_rfl) (fun _ _ _ h => h) (Or.inl ⟨by rfl, ?_⟩) ?_ ?_
          rotate_left
          · intro w'
            go_simp
            with_reducible rfl
          rotate_left
          · simp only [Act.put, List.setIfInBounds_toArray, List.set_cons_zero, List.set_cons_succ, i64_w, i32_w]
            rfl
          refine pure_ (i := 10) (N := some 23) (v := ?_) (a' := ?_) #[true, true, true, true, true, true, true, true, true, true, true, false, false, false, false, false, false, false, false, false, false, false, false, false, false] rfl rfl (by kernel_rfl) (fun _ _ _ h => h) (Or.inl ⟨by rfl, ?_⟩) ?_ ?_
          rotate_left
          · intro w'
            go_simp
            with_reducible rfl
          rotate_left
          · simp only [Act.put, List.setIfInBounds_toArray, List.set_cons_zero, List.set_cons_succ, i64_w, i32_w]
            rfl
          refine pure_ (i := 11) (N := some 24) (v := ?_) (a' := ?_) #[true, true, true, true, true, true, true, true, true, true, true, true, false, false, false, false, false, false, false, false, false, false, false, false, false] rfl rfl (by kernel_rfl) (fun _ _ _ h => h) (Or.inl ⟨by rfl, ?_⟩) ?_ ?_
          rotate_left
          · intro w'
            go_simp
            with_reducible rfl
          rotate_left
          · simp only [Act.put, List.setIfInBounds_toArray, List.set_cons_zero, List.set_cons_succ, i64_w, i32_w]
            rfl
          refine pure_ (i := 12) (N := some 25) (v := ?_) (a' := ?_) #[true, true, true, true, true, true, true, true, true, true, true, true, true, false, false, false, false, false, false, false, false, false, false, false, false] rfl rfl (by kernel_rfl) (fun _ _ _ h => h) (Or.inl ⟨by rfl, ?_⟩) ?_ ?_
          rotate_left
          · intro w'
            go_simp
            with_reducible rfl
          rotate_left
          · simp only [Act.put, List.setIfInBounds_toArray, List.set_cons_zero, List.set_cons_succ, i64_w, i32_w]
            rfl
          refine pure_ (i := 13) (N := some 26) (v := ?_) (a' := ?_) #[true, true, true, true, true, true, true, true, true, true, true, true, true, true, false, false, false, false, false, false, false, false, false, false, false] rfl rfl (by kernel_rfl) (fun _ _ _ h => h) (Or.inl ⟨by rfl, ?_⟩) ?_ ?_
          rotate_left
          · intro w'
            go_simp
            with_reducible rfl
          rotate_left
          · simp only [Act.put, List.setIfInBounds_toArray, List.set_cons_zero, List.set_cons_succ, i64_w, i32_w]
            rfl
          refine take_ (i := 14) (N := some 27) (v := ?_) (a' := ?_) #[true, true, true, true, true, true, true, true, true, true, true, true, true, true, true, false, false, false, false, false, false, false, false, false, false] rfl rfl (by kernel_rfl) (fun _ _ _ h => h) (Or.inl ⟨by rfl, ?_⟩) hHeld ?_ ?_
          rotate_left
          · rintro w' s0
            obtain ⟨b0, b1, b2⟩ := HA2.out w' s0
            go_simp
            with_reducible rfl
          rotate_left
          · simp only [Act.put, List.setIfInBounds_toArray, List.set_cons_zero, List.set_cons_succ, i64_w, i32_w]
            rfl
          refine pure_ (i := 15) (N := some 28) (v := ?_) (a' := ?_) #[true, true, true, true, true, true, true, true, true, true, true, true, true, true, true, true, false, false, false, false, false, false, false, false, false] rfl rfl (by kernel_rfl) (fun _ _ _ h => h) (Or.inl ⟨by rfl, ?_⟩) ?_ ?_
          rotate_left
          · intro w'
            go_simp
            with_reducible rfl
          rotate_left
          · simp only [Act.put, List.setIfInBounds_toArray, List.set_cons_zero, List.set_cons_succ, i64_w, i32_w]
            rfl
          refine pure_ (i := 16) (N := some 29) (v := ?_) (a' := ?_) #[true, true, true, true, true, true, true, true, true, true, true, true, true, true, true, true, true, false, false, false, false, false, false, false, false] rfl rfl (by kernel_rfl) (fun _ _ _ h => h) (Or.inl ⟨by rfl, ?_⟩) ?_ ?_
          rotate_left
          · intro w'
            go_simp
            with_reducible rfl
          rotate_left
          · simp only [Act.put, List.setIfInBounds_toArray, List.set_cons_zero, List.set_cons_succ, i64_w, i32_w]
            rfl
          refine pure_ (i := 17) (N := some 30) (v := ?_) (a' := ?_) #[true, true, true, true, true, true, true, true, true, true, true, true, true, true, true, true, true, true, false, false, false, false, false, false, false] rfl rfl (by kernel_rfl) (fun _ _ _ h => h) (Or.inl ⟨by rfl, ?_⟩) ?_ ?_
          rotate_left
          · intro w'
            go_simp
            with_reducible rfl
          rotate_left
          · simp only [Act.put, List.setIfInBounds_toArray, List.set_cons_zero, List.set_cons_succ, i64_w, i32_w]
            rfl
          refine pure_ (i := 18) (N := some 31) (v := ?_) (a' := ?_) #[true, true, true, true, true, true, true, true, true, true, true, true, true, true, true, true, true, true, true, false, false, false, false, false, false] rfl rfl (by kernel_rfl) (fun _ _ _ h => h) (Or.inl ⟨by rfl, ?_⟩) ?_ ?_
          rotate_left
          · intro w'
            go_simp
            with_reducible rfl
          rotate_left
          · simp only [Act.put, List.setIfInBounds_toArray, List.set_cons_zero, List.set_cons_succ, i64_w, i32_w]
            rfl
          refine take_ (i := 19) (N := some 32) (v := ?_) (a' := ?_) #[true, true, true, true, true, true, true, true, true, true, true, true, true, true, true, true, true, true, true, true, false, false, false, false, false] rfl rfl (by kernel_rfl) (fun _ _ _ h => h) (Or.inl ⟨by rfl, ?_⟩) hHeld ?_ ?_
          rotate_left
          · rintro w' s0
            obtain ⟨b0, b1, b2⟩ := HA2.out w' s0
            go_simp
            with_reducible rfl
          rotate_left
          · simp only [Act.put, List.setIfInBounds_toArray, List.set_cons_zero, List.set_cons_succ, i64_w, i32_w]
            rfl
          refine pure_ (i := 20) (N := some 33) (v := ?_) (a' := ?_) #[true, true, true, true, true, true, true, true, true, true, true, true, true, true, true, true, true, true, true, true, true, false, false, false, false] rfl rfl (by kernel_rfl) (fun _ _ _ h => h) (Or.inl ⟨by rfl, ?_⟩) ?_ ?_
          rotate_left
          · intro w'
            go_simp
            with_reducible rfl
          rotate_left
          · simp only [Act.put, List.setIfInBounds_toArray, List.set_cons_zero, List.set_cons_succ, i64_w, i32_w]
            rfl
          refine take_ (i := 21) (N := some 34) (v := ?_) (a' := ?_) #[true, true, true, true, true, true, true, true, true, true, true, true, true, true, true, true, true, true, true, true, true, true, false, false, false] rfl rfl (by kernel_rfl) (fun _ _ _ h => h) (Or.inl ⟨by rfl, ?_⟩) hHeld ?_ ?_
          rotate_left
          · rintro w' s0
            obtain ⟨b0, b1, b2⟩ := HA2.out w' s0
            go_simp
            with_reducible rfl
          rotate_left
          · simp only [Act.put, List.setIfInBounds_toArray, List.set_cons_zero, List.set_cons_succ, i64_w, i32_w]
            rfl
          refine pure_ (i := 22) (N := some 35) (v := ?_) (a' := ?_) #[true, true, true, true, true, true, true, true, true, true, true, true, true, true, true, true, true, true, true, true, true, true, true, false, false] rfl rfl (by kernel_rfl) (fun _ _ _ h => h) (Or.inl ⟨by rfl, ?_⟩) ?_ ?_
          rotate_left
          · intro w'
            go_simp
            with_reducible rfl
          rotate_left
          · simp only [Act.put, List.setIfInBounds_toArray, List.set_cons_zero, List.set_cons_succ, i64_w, i32_w]
            rfl
          refine pure_ (i := 23) (N := some 36) (v := ?_) (a' := ?_) #[true, true, true, true, true, true, true, true, true, true, true, true, true, true, true, true, true, true, true, true, true, true, true, true, false] rfl rfl (by kernel_rfl) (fun _ _ _ h => h) (Or.inl ⟨by rfl, ?_⟩) ?_ ?_
          rotate_left
          · intro w'
            go_simp
            with_reducible rfl
          rotate_left
          · simp only [Act.put, List.setIfInBounds_toArray, List.set_cons_zero, List.set_cons_succ, i64_w, i32_w]
            rfl
          refine pure_ (i := 24) (N := some 37) (v := ?_) (a' := ?_) #[true, true, true, true, true, true, true, true, true, true, true, true, true, true, true, true, true, true, true, true, true, true, true, true, true] rfl rfl (by kernel_rfl) (fun _ _ _ h => h) (Or.inl ⟨by rfl, ?_⟩) ?_ ?_
          rotate_left
          · intro w'
            go_simp
            with_reducible rfl
          rotate_left
          · simp only [Act.put, List.setIfInBounds_toArray, List.set_cons_zero, List.set_cons_succ, i64_w, i32_w]
            rfl
          refine done_ (by kernel_rfl) ?_
          go_wp2
          go_meet
          case rel => exact ⟨by rw [hpp, hcq, hpt]; unfold lessS; simp, HFin.out _ H8.out⟩
      case rest =>
        obtain ⟨rfl, HC⟩ := hcut
        clear H7
        have hgo : dirGo none x.es = ((pathM nm && !cutQ nm && pv) && dirGo (prevE x.es (i + 1)) (x.es.drop (i + 1))) := by
          rw [hI.out.2.2, dropE (by have := HCS.out.2.2; omega), ← HE.out.1, dirGo_cons, ← hnm, hpv]
          congr 2
          unfold prevE
          rw [if_neg (by omega), Nat.add_sub_cancel, ← HE.out.1, hnm]
        have HG := Aside0.mk hgo
        clear hgo hpv hI hnm
        cases hbad : (pathM nm && !cutQ nm && pv)
        · have hp : dirM x = false := by rw [HDM.out, HG.out, hbad]; rfl
          have HP := Aside0.mk hp
          clear hp
          go_wp2
          go_ret
          exact ⟨by first | (rw [HP.out]; done) | (rw [HP.out]; rfl), HC.out.2⟩
        · have HP := Aside0.mk (show dirGo none x.es = dirGo (prevE x.es (i + 1)) (x.es.drop (i + 1)) by rw [HG.out, hbad, Bool.true_and])
          go_wp2
          go_roundg (m - (i + 1))
          case measure => omega
          case rel => exact ⟨i + 1, by go_num, by omega, ⟨HC.out.1, HC.out.2, HP.out⟩⟩
    · have d1 : decide ((i : Int) < (m : Int)) = false := decide_eq_false (by omega)
      have hd : dirM x = (br && decide ((m : Int) ≤ 500)) := by
        rw [HDM.out, hI.out.2.2, List.drop_of_length_le (by have := HCS.out.2.2; omega)]
        rfl
      have HZ := Aside0.mk hd
      clear hd
      go_wp2_with (first
        | ((with_reducible refine gate_dst (N := 39) rfl ?_); refine Kd.event_run rfl (v := .agg cs) (w1 := wr) ?hr ?_; (case hr => exact hI.out.1.load HCS.out.1 (.tmp 1) rfl rfl))
        | (go_at_call 80; go_loud (have hx := bare_calls (w := wr) false false false true HCS.out.1; rw [← HBR.out] at hx; refine hx.mono ?_; clear hx; rintro e w2 ⟨rfl, hb2⟩; have H2 := Aside0.mk (And.intro (hI.out.1.below hb2) (below_step hI.out.2.1 hb2)); have a4 := H2.out.1.cells.2.2.2.2.1; rw [← HCS.out.2.2] at a4; clear hb2)))
      all_goals
        go_ret
        refine ⟨?_, H2.out.2⟩
        rw [HZ.out]
        clear HZ HDM
        simp_all
end
end Go.Proofs.YtgjdcdhfijkoiaaDoor.Obj
end
section
namespace Go.Proofs.YtgjdcdhfijkoiaaDoor.Obj
open Go.RowKit Go.Maps Go.Proofs.YtgjdcdhfijkoiaaDoorW.PrintWords Go.Proofs.YtgjdcdhfijkoiaaDoorW.PrintLast Go.Proofs.YtgjdcdhfijkoiaaDoorW.PrintMore Go.Proofs.YtgjdcdhfijkoiaaDoor.Mem Go.Proofs.YtgjdcdhfijkoiaaDoor.Cod Go.Proofs.YtgjdcdhfijkoiaaDoor.PCod Go.Proofs.YtgjdcdhfijkoiaaDoor.Str Go.Proofs.YtgjdcdhfijkoiaaDoor.Open
set_option linter.unusedVariables false
set_option linter.unusedSimpArgs false
/-- A function by its number, or none. -/
def fnR : Value → Option (DataW Unit × List MemPlace)
  | .func (.func g) ⟨[]⟩ ⟨[]⟩ => some (.lit (.int .i64 g), [])
  | .nilFunc => some (.lit (.bool false), [])
  | _ => none
theorem fnR_inv {v : Value} {g : Nat} {ps : List MemPlace} (h : fnR v = some (.lit (.int .i64 g), ps)) : v = .func (.func g) #[] #[] := by
  unfold fnR at h
  split at h
  · simp at h
    obtain ⟨h, _⟩ := h
    have h2 : (‹Nat› : Nat) = g := by omega
    subst h2
    rfl
  · simp at h
  · cases h
def kL (k : Int) : Lit := .int .u8 k
theorem kL_is (k : Int) : WideAt.IsKeyLit (kL k) := by simp [WideAt.IsKeyLit, kL]
theorem kL_ne {a b : Int} (h : a ≠ b) : kL a ≠ kL b := fun e => h (by unfold kL at e; injection e)
abbrev fn_ (g : Nat) : Value := .func (.func g) #[] #[]
def D1 : DataW Unit := (DataW.map []).put (kL 1) (.lit (.int .i64 (63 : Nat)))
def D2 : DataW Unit := D1.put (kL 2) (.lit (.int .i64 (64 : Nat)))
def D3 : DataW Unit := D2.put (kL 3) (.lit (.int .i64 (65 : Nat)))
def D4 : DataW Unit := D3.put (kL 4) (.lit (.int .i64 (66 : Nat)))
theorem im1 : IsMap D1 := isMap_empty.put _ _
theorem im2 : IsMap D2 := im1.put _ _
theorem im3 : IsMap D3 := im2.put _ _
theorem d4_at (k : Int) : (k = 4 → Maps.has D4 (kL k) = true ∧ ∀ z, D4.atKey (kL k) z = .lit (.int .i64 (66 : Nat))) ∧ (k = 3 → Maps.has D4 (kL k) = true ∧ ∀ z, D4.atKey (kL k) z = .lit (.int .i64 (65 : Nat))) ∧ (k = 2 → Maps.has D4 (kL k) = true ∧ ∀ z, D4.atKey (kL k) z = .lit (.int .i64 (64 : Nat))) ∧ (k = 1 → Maps.has D4 (kL k) = true ∧ ∀ z, D4.atKey (kL k) z = .lit (.int .i64 (63 : Nat))) ∧ (k ≠ 1 → k ≠ 2 → k ≠ 3 → k ≠ 4 → Maps.has D4 (kL k) = false) := by
  refine ⟨?_, ?_, ?_, ?_, ?_⟩
  · rintro rfl
    exact ⟨has_put_same im3 (kL_is 4) _, fun z => atKey_put_same im3 (kL_is 4) _ z⟩
  · rintro rfl
    have n4 : kL 3 ≠ kL 4 := kL_ne (by decide)
    exact ⟨(has_put_other n4 _).trans (has_put_same im2 (kL_is 3) _), fun z => (atKey_put_other n4 _ z).trans (atKey_put_same im2 (kL_is 3) _ z)⟩
  · rintro rfl
    have n4 : kL 2 ≠ kL 4 := kL_ne (by decide)
    have n3 : kL 2 ≠ kL 3 := kL_ne (by decide)
    exact ⟨(has_put_other n4 _).trans ((has_put_other n3 _).trans (has_put_same im1 (kL_is 2) _)), fun z => (atKey_put_other n4 _ z).trans ((atKey_put_other n3 _ z).trans (atKey_put_same im1 (kL_is 2) _ z))⟩
  · rintro rfl
    have n4 : kL 1 ≠ kL 4 := kL_ne (by decide)
    have n3 : kL 1 ≠ kL 3 := kL_ne (by decide)
    have n2 : kL 1 ≠ kL 2 := kL_ne (by decide)
    exact ⟨(has_put_other n4 _).trans ((has_put_other n3 _).trans ((has_put_other n2 _).trans (has_put_same isMap_empty (kL_is 1) _))), fun z => (atKey_put_other n4 _ z).trans ((atKey_put_other n3 _ z).trans ((atKey_put_other n2 _ z).trans (atKey_put_same isMap_empty (kL_is 1) _ z)))⟩
  · intro h1 h2 h3 h4
    rw [show D4 = D3.put _ _ from rfl, has_put_other (kL_ne h4), show D3 = D2.put _ _ from rfl, has_put_other (kL_ne h3), show D2 = D1.put _ _ from rfl, has_put_other (kL_ne h2), show D1 = (DataW.map []).put _ _ from rfl, has_put_other (kL_ne h1)]
    rfl
section
variable {w : World}
theorem keyed8 : Keyed Tryd.prog 5 := int_keyed Tryd.underlying5
theorem key8 {k : Int} (h0 : 0 ≤ k) (h1 : k ≤ 255) : keyOf Tryd.prog 5 (.int .u8 k) = some (kL k) := keyOf_int_mk Tryd.underlying5 (by simp [Lit.wf, IntKind.min, IntKind.max, IntKind.signed, IntKind.bits]; omega)
theorem ml : (3 : Nat) < maxLen := by unfold maxLen; omega
/-- The map literal, entry by entry; what is looked up in it. -/
theorem chk_map (w : World) (b : Nat) (hb : b = w.heap.size) : ∃ w1 w2 w3 w4, (Instr.mapUpdate 114 (.map (some b)) (.int .u8 1) (fn_ 63)).run Tryd.prog (w.alloc (.map #[] 0)) = .ok () w1 ∧
    (Instr.mapUpdate 114 (.map (some b)) (.int .u8 2) (fn_ 64)).run Tryd.prog w1 = .ok () w2 ∧ (Instr.mapUpdate 114 (.map (some b)) (.int .u8 3) (fn_ 65)).run Tryd.prog w2 = .ok () w3 ∧
    (Instr.mapUpdate 114 (.map (some b)) (.int .u8 4) (fn_ 66)).run Tryd.prog w3 = .ok () w4 ∧ Below w.heap.size w w4 ∧
    ∀ k : Int, 0 ≤ k → k ≤ 255 → ∃ v, (Instr.lookup 114 (.map (some b)) (.int .u8 k) true).run Tryd.prog w4 = .ok (.tuple #[v, .bool (decide (1 ≤ k ∧ k ≤ 4))]) w4 ∧ (k = 1 → v = fn_ 63) ∧ (k = 2 → v = fn_ 64) ∧ (k = 3 → v = fn_ 65) ∧ (k = 4 → v = fn_ 66) := by
  subst hb
  have h0 := World.ownsMap_made w Tryd.prog 5 fnR
  obtain ⟨w1, r1, m1, g1⟩ := h0.update (key := .int .u8 1) (val := fn_ 63) keyed8 Tryd.underlying114 (by have := ml; omega) (key8 (by omega) (by omega)) rfl
  obtain ⟨w2, r2, m2, g2⟩ := m1.update (key := .int .u8 2) (val := fn_ 64) keyed8 Tryd.underlying114 (by have := ml; omega) (key8 (by omega) (by omega)) rfl
  obtain ⟨w3, r3, m3, g3⟩ := m2.update (key := .int .u8 3) (val := fn_ 65) keyed8 Tryd.underlying114 (by have := ml; omega) (key8 (by omega) (by omega)) rfl
  obtain ⟨w4, r4, m4, g4⟩ := m3.update (key := .int .u8 4) (val := fn_ 66) keyed8 Tryd.underlying114 (by have := ml; omega) (key8 (by omega) (by omega)) rfl
  have hb0 : Below w.heap.size w (w.alloc (.map #[] 0)) := below_alloc (Below.refl _ _) _
  have hk : ∀ k : Nat, some w.heap.size = some k → w.heap.size ≤ k := fun k e => by cases e; exact Nat.le_refl _
  have hb1 := hb0.grown g1 hb0.size (fun k e => hk k e)
  have hb2 := hb1.grown g2 hb1.size (fun k e => hk k e)
  have hb3 := hb2.grown g3 hb2.size (fun k e => hk k e)
  have hb4 := hb3.grown g4 hb3.size (fun k e => hk k e)
  refine ⟨w1, w2, w3, w4, r1, r2, r3, r4, hb4, fun k k0 k1 => ?_⟩
  obtain ⟨v, ps, hr, hv⟩ := m4.look_ok keyed8 Tryd.underlying114 (z := .nilFunc) (zd := .lit (.bool false)) (zp := []) (by kernel_rfl) rfl (key8 k0 k1)
  have hD := d4_at k
  rw [show ((((DataW.map []).put (kL 1) (.lit (.int .i64 (63 : Nat)))).put (kL 2) (.lit (.int .i64 (64 : Nat)))).put (kL 3) (.lit (.int .i64 (65 : Nat)))).put (kL 4) (.lit (.int .i64 (66 : Nat))) = D4 from rfl] at hr hv
  have hh : Maps.has D4 (kL k) = decide (1 ≤ k ∧ k ≤ 4) := by
    by_cases h1 : k = 1
    · rw [(hD.2.2.2.1 h1).1, decide_eq_true (by omega)]
    by_cases h2 : k = 2
    · rw [(hD.2.2.1 h2).1, decide_eq_true (by omega)]
    by_cases h3 : k = 3
    · rw [(hD.2.1 h3).1, decide_eq_true (by omega)]
    by_cases h4 : k = 4
    · rw [(hD.1 h4).1, decide_eq_true (by omega)]
    · rw [hD.2.2.2.2 h1 h2 h3 h4, decide_eq_false (by omega)]
  rw [hh] at hr
  refine ⟨v, hr, fun h => ?_, fun h => ?_, fun h => ?_, fun h => ?_⟩
  · rw [(hD.2.2.2.1 h).2] at hv; exact fnR_inv hv
  · rw [(hD.2.2.1 h).2] at hv; exact fnR_inv hv
  · rw [(hD.2.1 h).2] at hv; exact fnR_inv hv
  · rw [(hD.1 h).2] at hv; exact fnR_inv hv
def checkO (x : OM) : Bool := if x.k = 1 then pieceM x else if x.k = 2 then listM x else if x.k = 3 then dirM x else if x.k = 4 then snapM x else false
def errC (x : OM) : Int := if checkO x = true then 0 else 1
set_option maxRecDepth 8000 in
set_option maxHeartbeats 4000000 in
theorem ocheck_calls {x : OM} {cs : Array Value} {A Y E : Option Addr} {bc yc ec : Nat} (hcs : OV cs x A Y E bc yc ec) (hE : Kd.C kE w E x.es.length x.es) (hl : x.es.length ≤ 9223372036854775807) (hk : 0 ≤ x.k ∧ x.k ≤ 255) :
    Calls Tryd.prog 33 #[.agg cs] w fun e w' => e = .returned (.int .i64 (errC x)) ∧ Below w.heap.size w w' := by
  have HCS := Aside0.mk (And.intro hcs (And.intro hE hl))
  clear hcs hE hl
  have hcase : (x.k = 1 ∧ errC x = if pieceM x = true then 0 else 1) ∨ (x.k = 2 ∧ errC x = if listM x = true then 0 else 1) ∨ (x.k = 3 ∧ errC x = if dirM x = true then 0 else 1) ∨ (x.k = 4 ∧ errC x = if snapM x = true then 0 else 1) ∨ (¬ (1 ≤ x.k ∧ x.k ≤ 4) ∧ errC x = 1) := by
    unfold errC checkO
    by_cases h1 : x.k = 1
    · exact .inl ⟨h1, by rw [if_pos h1]⟩
    by_cases h2 : x.k = 2
    · exact .inr (.inl ⟨h2, by rw [if_neg h1, if_pos h2]⟩)
    by_cases h3 : x.k = 3
    · exact .inr (.inr (.inl ⟨h3, by rw [if_neg h1, if_neg h2, if_pos h3]⟩))
    by_cases h4 : x.k = 4
    · exact .inr (.inr (.inr (.inl ⟨h4, by rw [if_neg h1, if_neg h2, if_neg h3, if_pos h4]⟩)))
    · exact .inr (.inr (.inr (.inr ⟨by omega, by rw [if_neg h1, if_neg h2, if_neg h3, if_neg h4]; rfl⟩)))
  obtain ⟨er, her⟩ : ∃ er, er = errC x := ⟨_, rfl⟩
  rw [← her] at hcase ⊢
  clear her
  go_enter Tryd.func33, Tryd.ntmps33
  go_upto_region 1 with (first
    | ((with_reducible refine gate_dst (N := 1) rfl ?_); refine box_event ?hg (N := 1) ?hd (cs := cs) (t := 57) ?hr ?_; (case hd => rfl); (case hg => rfl); (case hr => exact exec_box _ _ _ rfl cs rfl); intro gb hgb w1 hbox hb1; have H1 := Aside0.mk (And.intro (OB.of HCS.out.1 hbox) hb1); clear hbox hb1 hgb))
  obtain ⟨b, hb⟩ : ∃ b, b = w1.heap.size := ⟨_, rfl⟩
  obtain ⟨x1, x2, x3, x4, r1, r2, r3, r4, hb4, hlk⟩ := chk_map w1 b hb
  obtain ⟨v, hv, v1, v2, v3, v4⟩ := hlk x.k hk.1 hk.2
  have hmm : (Instr.makeMap 114 none).run Tryd.prog w1 = .ok (.map (some b)) (w1.alloc (.map #[] 0)) := by rw [hb]; exact run_makeMap _ _
  have H4 := Aside0.mk (show OB x4 gb x A Y E bc yc ec ∧ Below w.heap.size w x4 from ⟨H1.out.1.below hb4, below_step H1.out.2 hb4⟩)
  have a0 := H4.out.1.cells.1
  clear hlk hb4 hb
  rcases hcase with ⟨k1, he⟩ | ⟨k1, he⟩ | ⟨k1, he⟩ | ⟨k1, he⟩ | ⟨k1, he⟩
  · rw [v1 k1, show decide (1 ≤ x.k ∧ x.k ≤ 4) = true from decide_eq_true (by omega)] at hv
    obtain ⟨pm, hpm⟩ : ∃ pm, pm = pieceM x := ⟨_, rfl⟩
    have HPM := Aside0.mk hpm
    rw [← hpm] at he
    have HER := Aside0.mk he
    clear v1 v2 v3 v4 he hpm k1 hk
    go_wp2_with (first
      | ((with_reducible refine gate_dst (N := 17) rfl ?_); (try (refine gate_guard (by rfl) ?_; dsimp only)); refine Kd.event_run rfl (v := .agg cs) (w1 := x4) ?hr ?_; (case hr => exact H4.out.1.load HCS.out.1 (.tmp 1) rfl rfl))
      | (go_at_call 63; go_loud (have hx := piece_calls (w := x4) HCS.out.1; rw [← HPM.out] at hx; refine hx.mono ?_; clear hx; rintro e w5 ⟨rfl, hb5⟩; have H5 := Aside0.mk (below_step H4.out.2 hb5); clear hb5)))
    all_goals
      go_ret
      refine ⟨?_, H5.out⟩
      rw [HER.out]
      simp_all
  · rw [v2 k1, show decide (1 ≤ x.k ∧ x.k ≤ 4) = true from decide_eq_true (by omega)] at hv
    obtain ⟨pm, hpm⟩ : ∃ pm, pm = listM x := ⟨_, rfl⟩
    have HPM := Aside0.mk hpm
    rw [← hpm] at he
    have HER := Aside0.mk he
    clear v1 v2 v3 v4 he hpm k1 hk
    go_wp2_with (first
      | ((with_reducible refine gate_dst (N := 17) rfl ?_); (try (refine gate_guard (by rfl) ?_; dsimp only)); refine Kd.event_run rfl (v := .agg cs) (w1 := x4) ?hr ?_; (case hr => exact H4.out.1.load HCS.out.1 (.tmp 1) rfl rfl))
      | (go_at_call 64; go_loud (have hx := list_calls (w := x4) HCS.out.1; rw [← HPM.out] at hx; refine hx.mono ?_; clear hx; rintro e w5 ⟨rfl, hb5⟩; have H5 := Aside0.mk (below_step H4.out.2 hb5); clear hb5)))
    all_goals
      go_ret
      refine ⟨?_, H5.out⟩
      rw [HER.out]
      simp_all
  · rw [v3 k1, show decide (1 ≤ x.k ∧ x.k ≤ 4) = true from decide_eq_true (by omega)] at hv
    obtain ⟨pm, hpm⟩ : ∃ pm, pm = dirM x := ⟨_, rfl⟩
    have HPM := Aside0.mk hpm
    rw [← hpm] at he
    have HER := Aside0.mk he
    clear v1 v2 v3 v4 he hpm k1 hk
    go_wp2_with (first
      | ((with_reducible refine gate_dst (N := 17) rfl ?_); (try (refine gate_guard (by rfl) ?_; dsimp only)); refine Kd.event_run rfl (v := .agg cs) (w1 := x4) ?hr ?_; (case hr => exact H4.out.1.load HCS.out.1 (.tmp 1) rfl rfl))
      | (go_at_call 65; go_loud (have hx := dir_calls (w := x4) HCS.out.1 (Kd.C_below HCS.out.2.1 H4.out.2) HCS.out.2.2; rw [← HPM.out] at hx; refine hx.mono ?_; clear hx; rintro e w5 ⟨rfl, hb5⟩; have H5 := Aside0.mk (below_step H4.out.2 hb5); clear hb5)))
    all_goals
      go_ret
      refine ⟨?_, H5.out⟩
      rw [HER.out]
      simp_all
  · rw [v4 k1, show decide (1 ≤ x.k ∧ x.k ≤ 4) = true from decide_eq_true (by omega)] at hv
    obtain ⟨pm, hpm⟩ : ∃ pm, pm = snapM x := ⟨_, rfl⟩
    have HPM := Aside0.mk hpm
    rw [← hpm] at he
    have HER := Aside0.mk he
    clear v1 v2 v3 v4 he hpm k1 hk
    go_wp2_with (first
      | ((with_reducible refine gate_dst (N := 17) rfl ?_); (try (refine gate_guard (by rfl) ?_; dsimp only)); refine Kd.event_run rfl (v := .agg cs) (w1 := x4) ?hr ?_; (case hr => exact H4.out.1.load HCS.out.1 (.tmp 1) rfl rfl))
      | (go_at_call 66; go_loud (have hx := snap_calls (w := x4) HCS.out.1; rw [← HPM.out] at hx; refine hx.mono ?_; clear hx; rintro e w5 ⟨rfl, hb5⟩; have H5 := Aside0.mk (below_step H4.out.2 hb5); clear hb5)))
    all_goals
      go_ret
      refine ⟨?_, H5.out⟩
      rw [HER.out]
      simp_all
  · rw [show decide (1 ≤ x.k ∧ x.k ≤ 4) = false from decide_eq_false k1] at hv
    have HER := Aside0.mk he
    clear v1 v2 v3 v4 he k1 hk
    go_wp2
    go_ret
    exact ⟨by rw [HER.out]; rfl, H4.out.2⟩
end
end Go.Proofs.YtgjdcdhfijkoiaaDoor.Obj
end
