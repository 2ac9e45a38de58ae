/- The reference's object in memory; modelOf. -/
import Derived.Test.YtgjdcdhfijkoiaaDoorObE
import Derived.Test.YtgjdcdhfijkoiaaDoorObF
import Derived.Test.YtgjdcdhfijkoiaaDoorFiF
import Derived.Test.YtgjdcdhfijkoiaaDoorFiH
section
namespace Go.Proofs.YtgjdcdhfijkoiaaDoor.Obj
open Go.RowKit Go.Proofs.YtgjdcdhfijkoiaaDoorW.PrintWords Go.Proofs.YtgjdcdhfijkoiaaDoorW.PrintLast Go.Proofs.YtgjdcdhfijkoiaaDoorW.PrintMore Go.Proofs.YtgjdcdhfijkoiaaDoor.Mem Go.Proofs.YtgjdcdhfijkoiaaDoor.Cod Go.Proofs.YtgjdcdhfijkoiaaDoor.PCod Go.Proofs.YtgjdcdhfijkoiaaDoor.Str Go.Proofs.YtgjdcdhfijkoiaaDoor.Open
set_option linter.unusedVariables false
set_option linter.unusedSimpArgs false
def RAt (w : World) (g : Nat) (k : Int) (vB : Value) (n : Int) (vY vE : Value) (s : ByteArray) : Prop := w.heap[g]? = some (.cells (ocells k n vB vY vE s).toArray 63 (0, 0))
/-- The reference's object: its bytes are a string. -/
def RV (cs : Array Value) (x : OM) (Y E : Option Addr) (yc ec : Nat) : Prop := cs = (ocells x.k x.n (.string (S x.b)) (.slice Y x.ids.length yc) (.slice E x.es.length ec) x.s).toArray
def RBx (w : World) (g : Nat) (x : OM) (Y E : Option Addr) (yc ec : Nat) : Prop := RAt w g x.k (.string (S x.b)) x.n (.slice Y x.ids.length yc) (.slice E x.es.length ec) x.s
/-- What a reference's object leads to. -/
structure InR (w : World) (x : OM) (Y E : Option Addr) : Prop where
  yC : Kd.C kId w Y x.ids.length x.ids
  eC : Kd.C kE w E x.es.length x.es
  bb : Byt x.b
  bi : ∀ p ∈ x.ids, Byt p
  be : ∀ e ∈ x.es, Byt e.id
  k : 0 ≤ x.k ∧ x.k ≤ 255
  n : 0 ≤ x.n ∧ x.n ≤ 18446744073709551615
  bl : x.b.length ≤ 9223372036854775807
  yl : x.ids.length ≤ 9223372036854775807
  el : x.es.length ≤ 9223372036854775807
theorem InR.below {w w' : World} {x : OM} {Y E : Option Addr} (h : InR w x Y E) (hb : Below w.heap.size w w') : InR w' x Y E :=
  ⟨Kd.C_below h.yC hb, Kd.C_below h.eC hb, h.bb, h.bi, h.be, h.k, h.n, h.bl, h.yl, h.el⟩
section
variable {w w' : World} {g : Nat} {k n : Int} {vB vY vE : Value} {s : ByteArray} {Y E : Option Addr} {bl bc yl yc el ec : Nat} {x : OM} {cs : Array Value}
theorem RAt.below (h : RAt w g k vB n vY vE s) (hb : Below w.heap.size w w') : RAt w' g k vB n vY vE s := (hb.block _ (blk_lt h)).trans h
theorem RAt.cells (h : RAt w g k vB n vY vE s) : w.cell? ⟨g, 0, none⟩ = some (.int .u8 k) ∧ w.cell? ⟨g, 1, none⟩ = some vB ∧ w.cell? ⟨g, 2, none⟩ = some (.int .u64 n) ∧ w.cell? ⟨g, 3, none⟩ = some vY ∧ w.cell? ⟨g, 4, none⟩ = some vE ∧ w.cell? ⟨g, 5, none⟩ = some (.string s) :=
  ⟨(blk_cell h 0).trans rfl, (blk_cell h 1).trans rfl, (blk_cell h 2).trans rfl, (blk_cell h 3).trans rfl, (blk_cell h 4).trans rfl, (blk_cell h 5).trans rfl⟩
theorem RAt.kept {S : Nat → Prop} (h : RAt w g k vB n vY vE s) (hk : Kept w w' S) (hg : ¬ S g) : RAt w' g k vB n vY vE s := (hk.2 g (blk_lt h) hg).trans h
theorem RAt.setE (h : RAt w g k vB n vY vE s) (v : Value) : RAt (w.setCell ⟨g, 4, none⟩ v) g k vB n vY v s := blk_set h 4 v
theorem RBx.below (h : RBx w g x Y E yc ec) (hb : Below w.heap.size w w') : RBx w' g x Y E yc ec := RAt.below h hb
theorem RBx.cells (h : RBx w g x Y E yc ec) : w.cell? ⟨g, 0, none⟩ = some (.int .u8 x.k) ∧ w.cell? ⟨g, 1, none⟩ = some (.string (S x.b)) ∧ w.cell? ⟨g, 2, none⟩ = some (.int .u64 x.n) ∧ w.cell? ⟨g, 3, none⟩ = some (.slice Y x.ids.length yc) ∧ w.cell? ⟨g, 4, none⟩ = some (.slice E x.es.length ec) ∧ w.cell? ⟨g, 5, none⟩ = some (.string x.s) := RAt.cells h
theorem RBx.of (hv : RV cs x Y E yc ec) (h : w.heap[g]? = some (.cells cs 63 (0, 0))) : RBx w g x Y E yc ec := by unfold RV at hv; rw [hv] at h; exact h
theorem RBx.load (h : RBx w g x Y E yc ec) (hv : RV cs x Y E yc ec) {o : Oper} {ev : Operand → Value} (y : Operand) (ho : o.op = .load 63 y) (hx : ev y = .pointer (some ⟨g, 0, none⟩)) :
    (execOp ev o).run Tryd.prog w = .ok (.value (.agg cs)) w := by
  unfold RV at hv
  rw [hv]
  exact exec_load_row w 63 y ho g hx 63 _ (0, 0) _ h Tryd.underlying63 rfl (by kernel_rfl)
end
def rz : Array Value := (ocells 0 0 (.string ByteArray.empty) (.slice none 0 0) (.slice none 0 0) ByteArray.empty).toArray
theorem rz_v : RV rz zeroO none none 0 0 := rfl
theorem rcells_all (k n : Int) (b : ByteArray) (Y E : Option Addr) (yl yc el ec : Nat) (s : ByteArray) : (ocells k n (.string b) (.slice Y yl yc) (.slice E el ec) s).toArray.all (·.oneCell') = true := by kernel_rfl
theorem rz_info : (Tryd.prog.info? 63).map (·.size) = some 6 := by kernel_rfl
theorem rv_all {cs : Array Value} {x : OM} {Y E : Option Addr} {yc ec : Nat} (h : RV cs x Y E yc ec) : (Tryd.prog.info? 63).map (·.size) = some cs.size ∧ rz.size = cs.size ∧ cs.all (·.oneCell') = true := by
  unfold RV at h
  subst h
  exact ⟨rz_info, rfl, rcells_all _ _ _ _ _ _ _ _ _ _⟩
theorem build_m (W : World) (k n : Int) (b s : ByteArray) (Y : Option Addr) (yl yc : Nat) : (Instr.build 63 #[(0, .int .u8 k), (1, .string b), (2, .int .u64 n), (3, .slice Y yl yc), (5, .string s)]).run Tryd.prog W = .ok (.agg (ocells k n (.string b) (.slice Y yl yc) (.slice none 0 0) s).toArray) W := by kernel_rfl
theorem exec_buildm {o : Oper} {ev : Operand → Value} {W : World} (x0 x1 x2 x3 x5 : Operand) {k n : Int} {b s : ByteArray} {Y : Option Addr} {yl yc : Nat} (ho : o.op = .build 63 #[(0, x0), (1, x1), (2, x2), (3, x3), (5, x5)]) (h0 : ev x0 = .int .u8 k) (h1 : ev x1 = .string b) (h2 : ev x2 = .int .u64 n) (h3 : ev x3 = .slice Y yl yc) (h5 : ev x5 = .string s) :
    (execOp ev o).run Tryd.prog W = .ok (.value (.agg (ocells k n (.string b) (.slice Y yl yc) (.slice none 0 0) s).toArray)) W := by
  have h := build_m W k n b s Y yl yc
  unfold execOp
  simp [ho, h0, h1, h2, h3, h5, h]
theorem build_n (W : World) (s : ByteArray) (d : Bool) {p : List Int} (hp : p.length = 32) : (Instr.build 111 #[(0, .string s), (1, .bool d), (2, .agg (nums .u8 p).toArray)]).run Tryd.prog W = .ok (.agg (ecells ⟨s, d, p⟩).toArray) W := by
  obtain ⟨x0, x1, x2, x3, x4, x5, x6, x7, x8, x9, x10, x11, x12, x13, x14, x15, x16, x17, x18, x19, x20, x21, x22, x23, x24, x25, x26, x27, x28, x29, x30, x31, rfl⟩ := list32 hp
  kernel_rfl
theorem exec_buildn {o : Oper} {ev : Operand → Value} {W : World} (x y z : Operand) {s : ByteArray} {d : Bool} {p : List Int} (hp : p.length = 32) (ho : o.op = .build 111 #[(0, x), (1, y), (2, z)]) (hx : ev x = .string s) (hy : ev y = .bool d) (hz : ev z = .agg (nums .u8 p).toArray) : (execOp ev o).run Tryd.prog W = .ok (.value (.agg (ecells ⟨s, d, p⟩).toArray)) W := by
  have h := build_n W s d hp
  unfold execOp
  simp [ho, hx, hy, hz, h]
theorem buildN (W : World) {e : EM} (hp : e.id.length = 32) : (Instr.buildSlice 61 1 #[(0, .agg (ecells e).toArray)]).run Tryd.prog W = .ok (.slice (some ⟨W.heap.size, 0, none⟩) 1 1) (W.alloc (.cells (ecells e).toArray 111)) := by
  obtain ⟨s, d, p⟩ := e
  dsimp only at hp
  obtain ⟨x0, x1, x2, x3, x4, x5, x6, x7, x8, x9, x10, x11, x12, x13, x14, x15, x16, x17, x18, x19, x20, x21, x22, x23, x24, x25, x26, x27, x28, x29, x30, x31, rfl⟩ := list32 hp
  kernel_rfl
theorem exec_buildN {o : Oper} {ev : Operand → Value} {W : World} (x : Operand) {e : EM} (hp : e.id.length = 32) (ho : o.op = .buildSlice 61 1 #[(0, x)]) (hx : ev x = .agg (ecells e).toArray) : (execOp ev o).run Tryd.prog W = .ok (.value (.slice (some ⟨W.heap.size, 0, none⟩) 1 1)) (W.alloc (.cells (ecells e).toArray 111)) := by
  have h := buildN W hp
  unfold execOp
  simp [ho, hx, h]
theorem info_kn : (Tryd.prog.info? 111).map (fun i => (i.zero, i.size, i.bytes)) = some (some (.agg ez34), 34, 56) := by kernel_rfl
/-- modelOf under way: the object in gb, the model in gm, its names told up to o. -/
structure MO (w W : World) (gb gm : Nat) (x : OM) (A Y E : Option Addr) (bc yc ec : Nat) (u : Value) (o : List EM) : Prop where
  bl : Below w.heap.size w W
  ob : OB W gb x A Y E bc yc ec
  lo : gb < gm
  rm : RAt W gm x.k (.string (S x.b)) x.n (.slice Y x.ids.length yc) u x.s
  rw_ : Kd.R kE 111 W w.heap.size (fun k => gm < k) u o
theorem MO.below {w W W' : World} {gb gm : Nat} {x : OM} {A Y E : Option Addr} {bc yc ec : Nat} {u : Value} {o : List EM} (h : MO w W gb gm x A Y E bc yc ec u o) (hb : Below W.heap.size W W') : MO w W' gb gm x A Y E bc yc ec u o :=
  ⟨below_step h.bl hb, h.ob.below hb, h.lo, h.rm.below hb, Kd.R_below h.rw_ hb⟩
/-- A model that came out: its cells, what they lead to. -/
def ModR (w : World) (x : OM) (e : Ending) (w' : World) : Prop := ∃ cs Y E yc ec, e = .returned (.agg cs) ∧ RV cs x Y E yc ec ∧ InR w' x Y E ∧ Below w.heap.size w w'
section
variable {w : World} {x : OM} {cs : Array Value} {A Y E : Option Addr} {bc yc ec : Nat}
set_option maxRecDepth 100000 in
set_option maxHeartbeats 8000000 in
theorem modelOf_calls (hcs : OV cs x A Y E bc yc ec) (hI : InO w x A Y E) (hel : x.es.length ≤ 1000000000) :
    Calls Tryd.prog 32 #[.agg cs] w (ModR w x) := by
  obtain ⟨el, hel2⟩ : ∃ n, n = x.es.length := ⟨_, rfl⟩
  obtain ⟨bl, hbl⟩ : ∃ n, n = x.b.length := ⟨_, rfl⟩
  obtain ⟨yl, hyl⟩ : ∃ n, n = x.ids.length := ⟨_, rfl⟩
  have HCS := Aside0.mk (And.intro hcs (And.intro hI (And.intro hel2 (And.intro hbl hyl))))
  rw [← hel2] at hel
  have hl3 : el ≤ 9223372036854775807 := by omega
  clear hcs hI hel2 hbl hyl
  go_enter Tryd.func32, Tryd.ntmps32
  go_wp2_with (first
    | ((with_reducible refine gate_dst (N := 1) rfl ?_); refine box_event ?hg (N := 1) ?hd (cs := cs) (t := 57) ?hr ?_; (case hd => rfl); (case hg => rfl); (case hr => exact exec_box _ _ _ rfl cs rfl); intro gb hgb w1 hbox hb1; have H1 := Aside0.mk (show OB w1 gb x A Y E bc yc ec ∧ Below w.heap.size w w1 ∧ gb < w1.heap.size from ⟨OB.of HCS.out.1 hbox, hb1, blk_lt hbox⟩); clear hbox hb1 hgb)
    | ((with_reducible refine gate_dst (N := 2) rfl ?_); refine Kd.event_run rfl (v := .pointer (some ⟨w1.heap.size, 0, none⟩)) (w1 := w1.alloc (.cells rz 63)) ?hr ?_; (case hr => first | kernel_rfl | (go_simp; done) | (go_simp; rfl)); go_loud (refine wpName (fun w2 hw2 => ?_); obtain ⟨g2, hg2⟩ : ∃ z, z = w1.heap.size := ⟨_, rfl⟩; have hb2 : Below w1.heap.size w1 w2 := (by rw [hw2]; exact below_alloc (Below.refl _ _) _); have H2 := Aside0.mk (show w2.heap[g2]? = some (.cells rz 63 (0, 0)) ∧ OB w2 gb x A Y E bc yc ec ∧ Below w.heap.size w w2 ∧ gb < g2 ∧ w.heap.size ≤ g2 from ⟨by rw [hw2, hg2]; exact blk_new w1 _, H1.out.1.below hb2, below_step H1.out.2.1 hb2, by rw [hg2]; exact H1.out.2.2, by rw [hg2]; exact H1.out.2.1.size⟩); obtain ⟨a0, a1, a2, a3, a4, a5⟩ := H2.out.2.1.cells; rw [← HCS.out.2.2.2.1] at a1; rw [← HCS.out.2.2.2.2] at a3; have hcv1 := conv_row (c := bc) (n := bl) HCS.out.2.2.2.1 HCS.out.2.1.bC H2.out.2.2.1; rw [← hg2]; clear hw2 hb2 hg2))
    | ((with_reducible refine gate_dst (N := 16) rfl ?_); refine Kd.event_run rfl (v := .agg (ocells x.k x.n (.string (S x.b)) (.slice Y yl yc) (.slice none 0 0) x.s).toArray) (w1 := w2) ?hr ?_; (case hr => exact exec_buildm (.tmp 6) (.tmp 9) (.tmp 11) (.tmp 13) (.tmp 15) rfl rfl rfl rfl rfl rfl))
    | ((with_reducible refine gate_dst (N := 3) rfl ?_); refine Kd.event_run rfl (v := .pointer (some ⟨w2.heap.size, 0, none⟩)) (w1 := w2.alloc (.cells rz 63)) ?hr ?_; (case hr => first | kernel_rfl | (go_simp; done) | (go_simp; rfl)); go_loud (refine wpName (fun w3 hw3 => ?_); obtain ⟨gm, hgm⟩ : ∃ z, z = w2.heap.size := ⟨_, rfl⟩; have hb3 : Below w2.heap.size w2 w3 := (by rw [hw3]; exact below_alloc (Below.refl _ _) _); have H3 := Aside0.mk (show w3.heap[gm]? = some (.cells rz 63 (0, 0)) ∧ w3.heap[g2]? = some (.cells rz 63 (0, 0)) ∧ OB w3 gb x A Y E bc yc ec ∧ Below w.heap.size w w3 ∧ gb < gm ∧ g2 < gm ∧ Below w2.heap.size w2 w3 from ⟨by rw [hw3, hgm]; exact blk_new w2 _, (hb3.block _ (blk_lt H2.out.1)).trans H2.out.1, H2.out.2.1.below hb3, below_step H2.out.2.2.1 hb3, by rw [hgm]; exact blk_lt H2.out.2.1, by rw [hgm]; exact blk_lt H2.out.1, hb3⟩); have HGM := Aside0.mk hgm; rw [← hgm]; clear hw3 hb3 hgm))
    | ((with_reducible refine gate_store (ty := 63) (x := .tmp 3) (y := .tmp 16) rfl ?_); go_loud (refine wpList_store_row rfl 63 (.tmp 3) (.tmp 16) rfl gm _ rfl rfl 63 rz H3.out.1 rz_info rfl (rcells_all x.k x.n (S x.b) Y none yl yc 0 0 x.s) ?_; refine wpName (fun w4 hw4 => ?_); have hb4 : Below w2.heap.size w2 w4 := (by rw [hw4]; exact below_setRow H3.out.2.2.2.2.2.2 (by rw [HGM.out]; exact Nat.le_refl _) _); have H4 := Aside0.mk (show MO w w4 gb gm x A Y E bc yc ec (.slice none 0 0) [] ∧ w4.heap[g2]? = some (.cells rz 63 (0, 0)) ∧ g2 < gm ∧ w.heap.size ≤ g2 from ⟨⟨below_step H2.out.2.2.1 hb4, H2.out.2.1.below hb4, H3.out.2.2.2.2.1, by rw [hw4, ← HCS.out.2.2.2.2]; exact setRow_heap _ _ _ _ _ _ H3.out.1, Kd.R_nil _ _ _ _ _⟩, (hb4.block _ (blk_lt H2.out.1)).trans H2.out.1, H3.out.2.2.2.2.2.1, H2.out.2.2.2.2⟩); clear hw4 hb4)))
  clear a0 a1 a2 a3 a4 a5 hcv1 H1 H2 H3
  go_loopg [4] el (fun q v4 wr => ∃ (i : Nat) (u : Value), v4 = .int .i64 i ∧ q + i = el ∧ Aside0 (MO w wr gb gm x A Y E bc yc ec u (x.es.take i) ∧ wr.heap[g2]? = some (.cells rz 63 (0, 0))))
  case atStart => exact ⟨0, _, rfl, rfl, ⟨H4.out.1, H4.out.2.1⟩⟩
  case round =>
    have HG2 := Aside0.mk H4.out.2.2
    clear H4
    obtain ⟨i, u, rfl, hq, hI⟩ := hrel
    obtain ⟨_, _, _, _, b4, _⟩ := hI.out.1.ob.cells
    rw [← HCS.out.2.2.1] at b4
    by_cases hlt : i < el
    · have d1 : decide ((i : Int) < (el : Int)) = true := decide_eq_true (by omega)
      have hil : i < x.es.length := by have := HCS.out.2.2.1; omega
      obtain ⟨ad, e0, h32, hcell, _⟩ := at_e HCS.out.2.1.eC hil
      cases e0
      obtain ⟨en, hen⟩ : ∃ en, en = x.es.getD i eNone := ⟨_, rfl⟩
      rw [← hen] at h32 hcell
      obtain ⟨m, s, d, p, rfl⟩ : ∃ (m : Nat) (s : ByteArray) (d : Bool) (p : List Int), en = ⟨s, d, p⟩ := ⟨0, en.nm, en.d, en.id, rfl⟩
      have p25 : (0 ≤ (i : Int)) = True := eq_true (by omega)
      have q25 : ((i : Int) < (el : Int)) = True := eq_true (by omega)
      have HL := Aside0.mk (show ((x.es.take i).length + 1) * 56 ≤ 140737488355328 from by rw [List.length_take]; omega)
      have HE := Aside0.mk (And.intro hen (And.intro h32 hcell))
      clear hen h32 hcell
      go_upto_region 5 with (fail)
      obtain ⟨wd, hwd⟩ : ∃ x, x = wr.drew := ⟨_, rfl⟩
      have hbd : Below wr.heap.size wr wd := by rw [hwd]; exact below_drew1 (Below.refl _ _)
      have HD := Aside0.mk (show MO w wd gb gm x A Y (some ad) bc yc ec u (x.es.take i) ∧ wd.heap[g2]? = some (.cells rz 63 (0, 0)) from ⟨hI.out.1.below hbd, (hbd.block _ (blk_lt hI.out.2)).trans hI.out.2⟩)
      clear hbd hI
      have HS : Aside0 (∀ W, MO w W gb gm x A Y (some ad) bc yc ec u (x.es.take i) → W.cell? ⟨gm, 4, none⟩ = some u ∧ W.cell? ⟨gb, 4, none⟩ = some (.slice (some ad) el ec) ∧ W.cell? (ad.add (i * 34)) = some (.string s) ∧ W.cell? ⟨(ad.add (i * 34)).block, (ad.add (i * 34)).off + 1, none⟩ = some (.bool d) ∧ ∀ (j : Nat) (v : Value), (nums .u8 p)[j]? = some v → W.cell? ((⟨(ad.add (i * 34)).block, (ad.add (i * 34)).off + 2, none⟩ : Addr).add j) = some v) := ⟨fun W h => by
        have q0 := HE.out.2.2 0 (.string s) rfl
        have q1 := HE.out.2.2 1 (.bool d) rfl
        refine ⟨h.rm.cells.2.2.2.2.1, by rw [HCS.out.2.2.1]; exact h.ob.cells.2.2.2.2.1, (h.bl.cell (World.block_lt_of_cell? w _ q0)).trans q0, ?_, fun j v hj => ?_⟩
        · rw [← add_field _ _ 1 (by omega)]; exact (h.bl.cell (World.block_lt_of_cell? w _ q1)).trans q1
        · have q2 := HE.out.2.2 (j + 2) v (by unfold ecells; exact hj)
          rw [← add_field _ _ 2 (by omega), Go.Deep.add_add, show i * 34 + 2 + j = i * 34 + (j + 2) by omega]
          exact (h.bl.cell (World.block_lt_of_cell? w _ q2)).trans q2⟩
      refine start_ (n := 25) (S := fun W => W.cell? ⟨gm, 4, none⟩ = some u ∧ W.cell? ⟨gb, 4, none⟩ = some (.slice (some ad) el ec) ∧ W.cell? (ad.add (i * 34)) = some (.string s) ∧ W.cell? ⟨(ad.add (i * 34)).block, (ad.add (i * 34)).off + 1, none⟩ = some (.bool d) ∧ ∀ (j : Nat) (v : Value), (nums .u8 p)[j]? = some v → W.cell? ((⟨(ad.add (i * 34)).block, (ad.add (i * 34)).off + 2, none⟩ : Addr).add j) = some v) (ds := [24]) #[false, false, false, false, false, false, false, false, false, false, false, false, false, false, false, false, false, false, false, false, false, false, false, false, false] (by kernel_rfl) rfl (by kernel_rfl) (by rw [← hwd]; exact HS.out wd HD.out.1) (fun hHeld => ?_)
      rw [← hwd] at hHeld ⊢
      clear hwd
      refine pure_ (i := 0) (N := some 24) (v := ?_) (a' := ?_) #[true, false, false, false, false, false, false, false, false, false, false, false, false, false, false, false, false, false, false, false, false, false, false, false, false] rfl rfl (by kernel_rfl) (fun _ _ _ h => h) (Or.inl ⟨by rfl, ?_⟩) ?_ ?_
      rotate_left
      · intro w'
        go_simp
        with_reducible rfl
      rotate_left
      · simp only [Act.put, List.setIfInBounds_toArray, List.set_cons_zero, List.set_cons_succ, i64_w, i32_w]
        rfl
      refine pure_ (i := 2) (N := some 26) (v := ?_) (a' := ?_) #[true, false, true, false, false, false, false, false, false, false, false, false, false, false, false, false, false, false, false, false, false, false, false, false, false] rfl rfl (by kernel_rfl) (fun _ _ _ h => h) (Or.inl ⟨by rfl, ?_⟩) ?_ ?_
      rotate_left
      · intro w'
        go_simp
        with_reducible rfl
      rotate_left
      · simp only [Act.put, List.setIfInBounds_toArray, List.set_cons_zero, List.set_cons_succ, i64_w, i32_w]
        rfl
      refine pure_ (i := 4) (N := some 28) (v := ?_) (a' := ?_) #[true, false, true, false, true, false, false, false, false, false, false, false, false, false, false, false, false, false, false, false, false, false, false, false, false] rfl rfl (by kernel_rfl) (fun _ _ _ h => h) (Or.inl ⟨by rfl, ?_⟩) ?_ ?_
      rotate_left
      · intro w'
        go_simp
        with_reducible rfl
      rotate_left
      · simp only [Act.put, List.setIfInBounds_toArray, List.set_cons_zero, List.set_cons_succ, i64_w, i32_w]
        rfl
      refine pure_ (i := 8) (N := some 32) (v := ?_) (a' := ?_) #[true, false, true, false, true, false, false, false, true, false, false, false, false, false, false, false, false, false, false, false, false, false, false, false, false] rfl rfl (by kernel_rfl) (fun _ _ _ h => h) (Or.inl ⟨by rfl, ?_⟩) ?_ ?_
      rotate_left
      · intro w'
        go_simp
        with_reducible rfl
      rotate_left
      · simp only [Act.put, List.setIfInBounds_toArray, List.set_cons_zero, List.set_cons_succ, i64_w, i32_w]
        rfl
      refine pure_ (i := 10) (N := some 34) (v := ?_) (a' := ?_) #[true, false, true, false, true, false, false, false, true, false, true, false, false, false, false, false, false, false, false, false, false, false, false, false, false] rfl rfl (by kernel_rfl) (fun _ _ _ h => h) (Or.inl ⟨by rfl, ?_⟩) ?_ ?_
      rotate_left
      · intro w'
        go_simp
        with_reducible rfl
      rotate_left
      · simp only [Act.put, List.setIfInBounds_toArray, List.set_cons_zero, List.set_cons_succ, i64_w, i32_w]
        rfl
      refine pure_ (i := 14) (N := some 38) (v := ?_) (a' := ?_) #[true, false, true, false, true, false, false, false, true, false, true, false, false, false, true, false, false, false, false, false, false, false, false, false, false] rfl rfl (by kernel_rfl) (fun _ _ _ h => h) (Or.inl ⟨by rfl, ?_⟩) ?_ ?_
      rotate_left
      · intro w'
        go_simp
        with_reducible rfl
      rotate_left
      · simp only [Act.put, List.setIfInBounds_toArray, List.set_cons_zero, List.set_cons_succ, i64_w, i32_w]
        rfl
      refine pure_ (i := 16) (N := some 40) (v := ?_) (a' := ?_) #[true, false, true, false, true, false, false, false, true, false, true, false, false, false, true, false, true, false, false, false, false, false, false, false, false] rfl rfl (by kernel_rfl) (fun _ _ _ h => h) (Or.inl ⟨by rfl, ?_⟩) ?_ ?_
      rotate_left
      · intro w'
        go_simp
        with_reducible rfl
      rotate_left
      · simp only [Act.put, List.setIfInBounds_toArray, List.set_cons_zero, List.set_cons_succ, i64_w, i32_w]
        rfl
      refine take_ (i := 1) (N := some 25) (v := ?_) (a' := ?_) #[true, true, true, false, true, false, false, false, true, false, true, false, false, false, true, false, true, false, false, false, false, false, false, false, false] rfl rfl (by kernel_rfl) (fun _ _ _ h => h) (Or.inl ⟨by rfl, ?_⟩) hHeld ?_ ?_
      rotate_left
      · rintro w' ⟨s0, s1, s2, s3, s4⟩
        go_simp
        with_reducible rfl
      rotate_left
      · simp only [Act.put, List.setIfInBounds_toArray, List.set_cons_zero, List.set_cons_succ, i64_w, i32_w]
        rfl
      refine take_ (i := 3) (N := some 27) (v := ?_) (a' := ?_) #[true, true, true, true, true, false, false, false, true, false, true, false, false, false, true, false, true, false, false, false, false, false, false, false, false] rfl rfl (by kernel_rfl) (fun _ _ _ h => h) (Or.inl ⟨by rfl, ?_⟩) hHeld ?_ ?_
      rotate_left
      · rintro w' ⟨s0, s1, s2, s3, s4⟩
        go_simp
        with_reducible rfl
      rotate_left
      · simp only [Act.put, List.setIfInBounds_toArray, List.set_cons_zero, List.set_cons_succ, i64_w, i32_w]
        rfl
      refine pure_ (i := 5) (N := some 29) (v := ?_) (a' := ?_) #[true, true, true, true, true, true, false, false, true, false, true, false, false, false, true, false, true, false, false, false, false, false, false, false, false] rfl rfl (by kernel_rfl) (fun _ _ _ h => h) (Or.inl ⟨by rfl, ?_⟩) ?_ ?_
      rotate_left
      · intro w'
        go_simp
        with_reducible rfl
      rotate_left
      · simp only [Act.put, List.setIfInBounds_toArray, List.set_cons_zero, List.set_cons_succ, i64_w, i32_w]
        rfl
      refine pure_ (i := 6) (N := some 30) (v := ?_) (a' := ?_) #[true, true, true, true, true, true, true, false, true, false, true, false, false, false, true, false, true, false, false, false, false, false, false, false, false] rfl rfl (by kernel_rfl) (fun _ _ _ h => h) (Or.inl ⟨by rfl, ?_⟩) ?_ ?_
      rotate_left
      · intro w'
        go_simp
        with_reducible rfl
      rotate_left
      · simp only [Act.put, List.setIfInBounds_toArray, List.set_cons_zero, List.set_cons_succ, i64_w, i32_w]
        rfl
      refine take_ (i := 7) (N := some 31) (v := ?_) (a' := ?_) #[true, true, true, true, true, true, true, true, true, false, true, false, false, false, true, false, true, false, false, false, false, false, false, false, false] rfl rfl (by kernel_rfl) (fun _ _ _ h => h) (Or.inl ⟨by rfl, ?_⟩) hHeld ?_ ?_
      rotate_left
      · rintro w' ⟨s0, s1, s2, s3, s4⟩
        go_simp
        with_reducible rfl
      rotate_left
      · simp only [Act.put, List.setIfInBounds_toArray, List.set_cons_zero, List.set_cons_succ, i64_w, i32_w]
        rfl
      refine take_ (i := 9) (N := some 33) (v := ?_) (a' := ?_) #[true, true, true, true, true, true, true, true, true, true, true, false, false, false, true, false, true, false, false, false, false, false, false, false, false] rfl rfl (by kernel_rfl) (fun _ _ _ h => h) (Or.inl ⟨by rfl, ?_⟩) hHeld ?_ ?_
      rotate_left
      · rintro w' ⟨s0, s1, s2, s3, s4⟩
        go_simp
        with_reducible rfl
      rotate_left
      · simp only [Act.put, List.setIfInBounds_toArray, List.set_cons_zero, List.set_cons_succ, i64_w, i32_w]
        rfl
      refine pure_ (i := 11) (N := some 35) (v := ?_) (a' := ?_) #[true, true, true, true, true, true, true, true, true, true, true, true, false, false, true, false, true, false, false, false, false, false, false, false, false] rfl rfl (by kernel_rfl) (fun _ _ _ h => h) (Or.inl ⟨by rfl, ?_⟩) ?_ ?_
      rotate_left
      · intro w'
        go_simp
        with_reducible rfl
      rotate_left
      · simp only [Act.put, List.setIfInBounds_toArray, List.set_cons_zero, List.set_cons_succ, i64_w, i32_w]
        rfl
      refine pure_ (i := 12) (N := some 36) (v := ?_) (a' := ?_) #[true, true, true, true, true, true, true, true, true, true, true, true, true, false, true, false, true, false, false, false, false, false, false, false, false] rfl rfl (by kernel_rfl) (fun _ _ _ h => h) (Or.inl ⟨by rfl, ?_⟩) ?_ ?_
      rotate_left
      · intro w'
        go_simp
        with_reducible rfl
      rotate_left
      · simp only [Act.put, List.setIfInBounds_toArray, List.set_cons_zero, List.set_cons_succ, i64_w, i32_w]
        rfl
      refine take_ (i := 13) (N := some 37) (v := ?_) (a' := ?_) #[true, true, true, true, true, true, true, true, true, true, true, true, true, true, true, false, true, false, false, false, false, false, false, false, false] rfl rfl (by kernel_rfl) (fun _ _ _ h => h) (Or.inl ⟨by rfl, ?_⟩) hHeld ?_ ?_
      rotate_left
      · rintro w' ⟨s0, s1, s2, s3, s4⟩
        go_simp
        with_reducible rfl
      rotate_left
      · simp only [Act.put, List.setIfInBounds_toArray, List.set_cons_zero, List.set_cons_succ, i64_w, i32_w]
        rfl
      refine take_ (i := 15) (N := some 39) (v := ?_) (a' := ?_) #[true, true, true, true, true, true, true, true, true, true, true, true, true, true, true, true, true, false, false, false, false, false, false, false, false] rfl rfl (by kernel_rfl) (fun _ _ _ h => h) (Or.inl ⟨by rfl, ?_⟩) hHeld ?_ ?_
      rotate_left
      · rintro w' ⟨s0, s1, s2, s3, s4⟩
        go_simp
        with_reducible rfl
      rotate_left
      · simp only [Act.put, List.setIfInBounds_toArray, List.set_cons_zero, List.set_cons_succ, i64_w, i32_w]
        rfl
      refine pure_ (i := 17) (N := some 41) (v := ?_) (a' := ?_) #[true, true, true, true, true, true, true, true, true, true, true, true, true, true, true, true, true, true, false, false, false, false, false, false, false] rfl rfl (by kernel_rfl) (fun _ _ _ h => h) (Or.inl ⟨by rfl, ?_⟩) ?_ ?_
      rotate_left
      · intro w'
        go_simp
        with_reducible rfl
      rotate_left
      · simp only [Act.put, List.setIfInBounds_toArray, List.set_cons_zero, List.set_cons_succ, i64_w, i32_w]
        rfl
      refine pure_ (i := 18) (N := some 42) (v := ?_) (a' := ?_) #[true, true, true, true, true, true, true, true, true, true, true, true, true, true, true, true, true, true, true, false, false, false, false, false, false] rfl rfl (by kernel_rfl) (fun _ _ _ h => h) (Or.inl ⟨by rfl, ?_⟩) ?_ ?_
      rotate_left
      · intro w'
        go_simp
        with_reducible rfl
      rotate_left
      · simp only [Act.put, List.setIfInBounds_toArray, List.set_cons_zero, List.set_cons_succ, i64_w, i32_w]
        rfl
      refine take_ (i := 19) (N := some 43) (v := .agg (nums .u8 p).toArray) (a' := ?_) #[true, true, true, true, true, true, true, true, true, true, true, true, true, true, true, true, true, true, true, true, false, false, false, false, false] rfl rfl (by kernel_rfl) (fun _ _ _ h => h) (Or.inl ⟨by rfl, fun w' s0 => ?ld⟩) hHeld ?_ ?_
      case ld => exact exec_load_any w' 74 (.tmp 42) rfl _ rfl (nums .u8 p) _ (fun j v hj => s0.2.2.2.2 j v hj) Tryd.underlying74 rfl (by rw [nums_length, HE.out.2.1]; kernel_rfl)
      rotate_left
      · simp only [Act.put, List.setIfInBounds_toArray, List.set_cons_zero, List.set_cons_succ, i64_w, i32_w]
        rfl
      refine pure_ (i := 20) (N := some 44) (v := .agg (ecells ⟨s, d, p⟩).toArray) (a' := ?_) #[true, true, true, true, true, true, true, true, true, true, true, true, true, true, true, true, true, true, true, true, true, false, false, false, false] rfl rfl (by kernel_rfl) (fun _ _ _ h => h) (Or.inl ⟨by rfl, fun w' => ?ld⟩) ?_ ?_
      case ld => exact exec_buildn (.tmp 31) (.tmp 37) (.tmp 43) HE.out.2.1 rfl rfl rfl rfl
      rotate_left
      · simp only [Act.put, List.setIfInBounds_toArray, List.set_cons_zero, List.set_cons_succ, i64_w, i32_w]
        rfl
      refine one_ (i := 21) (N := some 45) #[true, true, true, true, true, true, true, true, true, true, true, true, true, true, true, true, true, true, true, true, true, true, false, false, false] rfl rfl (by kernel_rfl) (by decide) (fun K hK => ?_)
      refine value_ (v := .slice (some ⟨wd.heap.size, 0, none⟩) 1 1) (w1 := wd.alloc (.cells (ecells ⟨s, d, p⟩).toArray 111)) (by rfl) rfl ?hr ?_
      case hr => exact exec_buildN (.tmp 44) HE.out.2.1 rfl rfl
      refine hK.out _ _ (HS.out _ (HD.out.1.below (below_alloc (Below.refl _ _) _))) (fun hHeld => ?_)
      clear hK K
      refine norm_ (a' := ?_) ?_ ?_
      rotate_left
      · show Act.put _ (some 45) _ = _
        simp only [Act.put, List.setIfInBounds_toArray, List.set_cons_zero, List.set_cons_succ, i64_w, i32_w]
        rfl
      refine one_ (i := 22) (N := some 46) #[true, true, true, true, true, true, true, true, true, true, true, true, true, true, true, true, true, true, true, true, true, true, true, false, false] rfl rfl (by kernel_rfl) (by decide) (fun K hK => ?_)
      refine Kd.R_append_step kE (w0 := w) w.heap.size ?aW (.tmp 25) (.tmp 45) 61 111 (.agg ez34) 56 ?as0 Tryd.underlying61 info_kn rfl (by decide) (by omega) u (x.es.take i) ⟨s, d, p⟩ (ecells ⟨s, d, p⟩) (fun k => gm < k) (fun _ => False) ?as1 ?as2 ?aP (fun _ hk => hk.elim) ?aF ?aO ?aB ?aS ?aL ?_
      case aW => rfl
      case as0 => rfl
      case as1 => rfl
      case as2 => rfl
      case aP => exact ⟨rfl, ecells_len HE.out.2.1⟩
      case aF => exact fun k hk => Nat.lt_of_lt_of_le (blk_lt HD.out.1.rm) hk
      case aO => exact HD.out.1.rw_
      case aB => exact HD.out.1.bl
      case aS => exact HD.out.1.bl.size
      case aL => exact HL.out
      intro v6 w6 ho6 hb6 hg6 _
      have hk6 : Kept wd w6 (fun k => some k = u.ownBlock) := Kept.of_grown hg6 (Kept.refl _ _) (fun k e => .inl e.symm)
      have hu5 : ∀ k, some k = u.ownBlock → gm < k := fun k e => (Kd.R_bound HD.out.1.rw_).1 k e.symm |>.1
      have hgl := HD.out.1.lo
      have HG6 := Aside0.mk (show RAt w6 gm x.k (.string (S x.b)) x.n (.slice Y x.ids.length yc) u x.s from HD.out.1.rm.kept hk6 (fun e => by have := hu5 _ e; omega))
      have hob6 : OB w6 gb x A Y (some ad) bc yc ec := (hk6.2 gb (blk_lt HD.out.1.ob) (fun e => by have := hu5 _ e; omega)).trans HD.out.1.ob
      have hg26 : w6.heap[g2]? = some (.cells rz 63 (0, 0)) := (hk6.2 g2 (blk_lt HD.out.2) (fun e => by have := hu5 _ e; have := HG2.out.1; omega)).trans HD.out.2
      have H6 := Aside0.mk (show Below w.heap.size w w6 ∧ OB w6 gb x A Y (some ad) bc yc ec ∧ gb < gm ∧ Kd.R kE 111 w6 w.heap.size (fun k => gm < k) v6 (x.es.take i ++ [⟨s, d, p⟩]) ∧ w6.heap[g2]? = some (.cells rz 63 (0, 0)) from ⟨hb6, hob6, hgl, ho6, hg26⟩)
      clear ho6 hb6 hg6 hk6 hu5 hgl hob6 hg26
      obtain ⟨A6, n6, c6, rfl⟩ : ∃ A6 n6 c6, v6 = .slice A6 n6 c6 := by
        obtain ⟨A6, c6, e6, _⟩ := Kd.R_reads H6.out.2.2.2.1
        exact ⟨_, _, _, e6⟩
      have hS6 : w6.cell? ⟨gm, 4, none⟩ = some u ∧ w6.cell? ⟨gb, 4, none⟩ = some (.slice (some ad) el ec) ∧ w6.cell? (ad.add (i * 34)) = some (.string s) ∧ w6.cell? ⟨(ad.add (i * 34)).block, (ad.add (i * 34)).off + 1, none⟩ = some (.bool d) ∧ ∀ (j : Nat) (v : Value), (nums .u8 p)[j]? = some v → w6.cell? ((⟨(ad.add (i * 34)).block, (ad.add (i * 34)).off + 2, none⟩ : Addr).add j) = some v := by
        have q0 := HE.out.2.2 0 (.string s) rfl
        have q1 := HE.out.2.2 1 (.bool d) rfl
        refine ⟨HG6.out.cells.2.2.2.2.1, by rw [HCS.out.2.2.1]; exact H6.out.2.1.cells.2.2.2.2.1, (H6.out.1.cell (World.block_lt_of_cell? w _ q0)).trans q0, ?_, fun j v hj => ?_⟩
        · rw [← add_field _ _ 1 (by omega)]; exact (H6.out.1.cell (World.block_lt_of_cell? w _ q1)).trans q1
        · have q2 := HE.out.2.2 (j + 2) v (by unfold ecells; exact hj)
          rw [← add_field _ _ 2 (by omega), Go.Deep.add_add, show i * 34 + 2 + j = i * 34 + (j + 2) by omega]
          exact (H6.out.1.cell (World.block_lt_of_cell? w _ q2)).trans q2
      have HS6 := Aside0.mk hS6
      clear hS6
      refine hK.out _ _ (HS6.out) (fun hHeld => ?_)
      clear hK K
      refine norm_ (a' := ?_) ?_ ?_
      rotate_left
      · show Act.put _ (some 46) _ = _
        simp only [Act.put, List.setIfInBounds_toArray, List.set_cons_zero, List.set_cons_succ, i64_w, i32_w]
        rfl
      refine pure_ (i := 23) (N := some 47) (v := ?_) (a' := ?_) #[true, true, true, true, true, true, true, true, true, true, true, true, true, true, true, true, true, true, true, true, true, true, true, true, false] rfl rfl (by kernel_rfl) (fun _ _ _ h => h) (Or.inl ⟨by rfl, ?_⟩) ?_ ?_
      rotate_left
      · intro w'
        go_simp
        with_reducible rfl
      rotate_left
      · simp only [Act.put, List.setIfInBounds_toArray, List.set_cons_zero, List.set_cons_succ, i64_w, i32_w]
        rfl
      refine last_ (i := 24) (N := none) #[true, true, true, true, true, true, true, true, true, true, true, true, true, true, true, true, true, true, true, true, true, true, true, true, true] rfl rfl (by kernel_rfl) (by decide) (fun K hK => ?_)
      refine skip_ (w1 := w6.setCell ⟨gm, 4, none⟩ (.slice A6 n6 c6)) (by rfl) rfl ?hr ?_
      case hr => exact exec_store1 w6 61 (.tmp 47) (.tmp 46) rfl gm 4 _ rfl rfl rfl 63 _ HG6.out (by kernel_rfl) (by show 4 < 6; omega) rfl
      have hkf : Kept w6 (w6.setCell ⟨gm, 4, none⟩ (.slice A6 n6 c6)) (fun k => k = gm) := (Kept.refl w6 (fun k => k = gm)).setCell (p := ⟨gm, 4, none⟩) (.inl rfl) _
      have HF := Aside0.mk (show MO w (w6.setCell ⟨gm, 4, none⟩ (.slice A6 n6 c6)) gb gm x A Y (some ad) bc yc ec (.slice A6 n6 c6) (x.es.take i ++ [⟨s, d, p⟩]) ∧ (w6.setCell ⟨gm, 4, none⟩ (.slice A6 n6 c6)).heap[g2]? = some (.cells rz 63 (0, 0)) from
        ⟨⟨below_set H6.out.1 (by show w.heap.size ≤ gm; have h1 := HG2.out; omega), blk_kept H6.out.2.1 hkf (fun e => by have := H6.out.2.2.1; omega), H6.out.2.2.1, HG6.out.setE _, Kd.R_kept H6.out.2.2.2.1 hkf (fun k hk e => by have : k = gm := e; omega)⟩, blk_kept H6.out.2.2.2.2 hkf (fun e => by have := HG2.out.1; omega)⟩)
      clear hkf hHeld
      refine hK.out _ _ ?_
      clear hK K
      refine done_ (by kernel_rfl) ?_
      go_wp2
      go_roundg (el - (i + 1))
      case measure => omega
      case rel => exact ⟨i + 1, .slice A6 n6 c6, by go_num, by omega, ⟨by rw [takeG eNone (by have := HCS.out.2.2.1; omega), ← HE.out.1]; exact HF.out.1, HF.out.2⟩⟩
    · have d1 : decide ((i : Int) < (el : Int)) = false := decide_eq_false (by omega)
      have hul : ∃ E' ec', u = .slice E' el ec' ∧ Kd.C kE wr E' x.es.length x.es := by
        have h := hI.out.1.rw_
        rw [List.take_of_length_le (by have := HCS.out.2.2.1; omega)] at h
        obtain ⟨E', ec', e, _, hC⟩ := Kd.R_reads h
        exact ⟨E', ec', by rw [HCS.out.2.2.1]; exact e, hC⟩
      obtain ⟨E', ec', rfl, hC'⟩ := hul
      obtain ⟨cs2, hcs2⟩ : ∃ cs2, RV cs2 x Y E' yc ec' := ⟨_, rfl⟩
      have hm : RBx wr gm x Y E' yc ec' := by have h := hI.out.1.rm; rw [HCS.out.2.2.1] at h; exact h
      have HM := Aside0.mk (And.intro hcs2 (And.intro hm hC'))
      clear hcs2 hm hC'
      go_wp2_with (first
        | ((with_reducible refine gate_dst (N := 48) rfl ?_); refine Kd.event_run rfl (v := .agg cs2) (w1 := wr) ?hr ?_; (case hr => exact HM.out.2.1.load HM.out.1 (.tmp 3) rfl rfl))
        | ((with_reducible refine gate_store (ty := 63) (x := .tmp 2) (y := .tmp 48) rfl ?_); go_loud (refine wpList_store_row rfl 63 (.tmp 2) (.tmp 48) rfl g2 cs2 rfl rfl 63 rz hI.out.2 (rv_all HM.out.1).1 (rv_all HM.out.1).2.1 (rv_all HM.out.1).2.2 ?_; refine wpName (fun w5 hw5 => ?_); have hk5 : Kept wr w5 (fun k => k = g2) := (by rw [hw5]; exact ⟨by simp, fun i _ hn => setRow_other _ _ _ _ hn⟩); have hR5 : Kd.R kE 111 w5 w.heap.size (fun k => gm < k) (.slice E' el ec') (x.es.take i) := Kd.R_kept hI.out.1.rw_ hk5 (fun k hk e => by have h1 := HG2.out.1; have : k = g2 := e; omega); have H5 := Aside0.mk (show w5.heap[g2]? = some (.cells cs2 63 (0, 0)) ∧ Below w.heap.size w w5 ∧ Kd.R kE 111 w5 w.heap.size (fun k => gm < k) (.slice E' el ec') (x.es.take i) from ⟨by rw [hw5]; exact setRow_heap _ _ _ _ _ _ hI.out.2, by rw [hw5]; exact below_setRow hI.out.1.bl HG2.out.2 _, hR5⟩); clear hw5 hk5 hR5)))
      refine bodyPost_ret (results_box rfl _ _ rfl (run_loadVar_row _ g2 63 63 cs2 (0, 0) _ H5.out.1 Tryd.underlying63 rfl (rv_all HM.out.1).1)) rfl ?_
      have hC5 : Kd.C kE w5 E' x.es.length x.es := by
        have h := H5.out.2.2
        rw [List.take_of_length_le (by have := HCS.out.2.2.1; omega)] at h
        obtain ⟨E2, c2, e2, _, hC⟩ := Kd.R_reads h
        cases e2
        exact hC
      have hIn := HCS.out.2.1
      exact ⟨cs2, Y, E', yc, ec', rfl, HM.out.1, ⟨Kd.C_below hIn.yC H5.out.2.1, hC5, hIn.bb, hIn.bi, hIn.be, hIn.k, hIn.n, hIn.bl, hIn.yl, hIn.el⟩, H5.out.2.1⟩
end
end Go.Proofs.YtgjdcdhfijkoiaaDoor.Obj
end
section
namespace Go.Proofs.YtgjdcdhfijkoiaaDoor.Obj
open Go.RowKit Go.Proofs.YtgjdcdhfijkoiaaDoorW.PrintWords Go.Proofs.YtgjdcdhfijkoiaaDoorW.PrintLast Go.Proofs.YtgjdcdhfijkoiaaDoorW.PrintMore Go.Proofs.YtgjdcdhfijkoiaaDoor.Mem Go.Proofs.YtgjdcdhfijkoiaaDoor.Cod Go.Proofs.YtgjdcdhfijkoiaaDoor.PCod Go.Proofs.YtgjdcdhfijkoiaaDoor.Str Go.Proofs.YtgjdcdhfijkoiaaDoor.Open
set_option linter.unusedVariables false
set_option linter.unusedSimpArgs false
/-- The reference's tests, one behind the other. -/
def r1 (k : Int) : Bool := decide (k < 1) || decide (k > 4)
def r2 (k : Int) (X : ByteArray) (n : Int) (yl el : Nat) (s : ByteArray) : Bool := ((k != 1 && !X.toList.isEmpty) || ((k != 2 && k != 4) && (n != 0 || yl != 0))) || (k != 3 && el != 0) || (k != 4 && !s.toList.isEmpty)
def r3 (X : ByteArray) (yl el : Nat) (s : ByteArray) : Bool := decide ((X.size : Int) > 32768) || decide ((yl : Int) > 1000) || decide ((el : Int) > 500) || decide ((s.size : Int) > 255)
def r4 (k n : Int) (yl : Nat) : Bool := k == 2 && ((decide (n > 1048576) || (n == 0 && yl != 0)) || (decide (n > 0) && yl == 0))
def r5 (k : Int) (yl : Nat) : Bool := k == 4 && (yl : Int) != 1
def rAll (x : OM) : Bool := !r1 x.k && !r2 x.k (S x.b) x.n x.ids.length x.es.length x.s && !r3 (S x.b) x.ids.length x.es.length x.s && !r4 x.k x.n x.ids.length && !r5 x.k x.ids.length
theorem empty_size (s : ByteArray) : s.toList = [] ↔ s.size = 0 := by
  rw [← List.length_eq_zero_iff, Lib.toList_data, Array.length_toList]
  rfl
theorem S_empty (b : List Int) : (S b).toList = [] ↔ b.length = 0 := by rw [empty_size, S_size]
theorem err_law (x : OM) (hn : 0 ≤ x.n) : checkO x = (rAll x && dirGo none x.es) := by
  obtain ⟨k, b, n, ids, es, s⟩ := x
  have he : es.length = 0 → dirGo none es = true := fun h => by rw [List.length_eq_zero_iff.1 h]; rfl
  unfold checkO rAll r1 r2 r3 r4 r5 pieceM listM dirM snapM bareM
  dsimp only at hn ⊢
  have hb := S_empty b
  have hs := empty_size s
  have hz := S_size b
  rw [Bool.eq_iff_iff]
  by_cases k1 : k = 1
  · subst k1
    simp [hb, hs, hz]
    constructor
    · rintro ⟨h1, h2⟩; have := he (by simp_all); simp_all <;> omega
    · intro h; simp_all <;> omega
  by_cases k2 : k = 2
  · subst k2
    have hq : ((n == 0) == ((ids.length : Int) == 0)) = true ↔ (n = 0 ↔ ids.length = 0) := by
      rw [beq_iff_eq, Bool.eq_iff_iff, beq_iff_eq, beq_iff_eq]
      omega
    simp only [hq, Bool.and_eq_true, Bool.or_eq_true, decide_eq_true_eq, beq_iff_eq, Bool.not_eq_true', Bool.and_eq_false_iff, Bool.or_eq_false_iff]
    simp [hb, hs, hz]
    constructor
    · rintro ⟨h1, h2⟩; have := he (by simp_all); simp_all; refine ⟨by by_cases hi : ids = [] <;> simp [hi], ?_⟩; by_cases hi : ids = [] <;> simp_all
    · intro h; simp_all; by_cases hi : ids = [] <;> simp_all <;> omega
  by_cases k3 : k = 3
  · subst k3
    simp [hb, hs, hz]
    constructor
    · rintro ⟨h1, h2⟩; simp_all <;> omega
    · intro h; simp_all <;> omega
  by_cases k4 : k = 4
  · subst k4
    simp [hb, hs, hz]
    constructor
    · rintro ⟨h1, h2⟩; have := he (by simp_all); simp_all <;> omega
    · intro h; simp_all <;> omega
  · rw [if_neg k1, if_neg k2, if_neg k3, if_neg k4]
    simp
    omega
section
variable {w : World} {x : OM} {cs : Array Value} {Y E : Option Addr} {yc ec : Nat}
set_option maxRecDepth 100000 in
set_option maxHeartbeats 8000000 in
theorem rocheck_no (hcs : RV cs x Y E yc ec) (hI : InR w x Y E) (hk1 : ¬ (1 ≤ x.k ∧ x.k ≤ 4)) :
    Calls Tryd.prog 34 #[.agg cs] w fun e w' => e = .returned (.int .i64 (errC x)) ∧ Below w.heap.size w w' := by
  obtain ⟨k, hk⟩ : ∃ z, z = x.k := ⟨_, rfl⟩
  obtain ⟨n, hn⟩ : ∃ z, z = x.n := ⟨_, rfl⟩
  obtain ⟨X, hX⟩ : ∃ z, z = S x.b := ⟨_, rfl⟩
  obtain ⟨yl, hyl⟩ : ∃ z, z = x.ids.length := ⟨_, rfl⟩
  obtain ⟨el, hel⟩ : ∃ z, z = x.es.length := ⟨_, rfl⟩
  obtain ⟨s, hs⟩ : ∃ z, z = x.s := ⟨_, rfl⟩
  have hl3 : el ≤ 9223372036854775807 := by rw [hel]; exact hI.el
  have HCS := Aside0.mk (And.intro hcs (And.intro hI (And.intro hk (And.intro hn (And.intro hX (And.intro hyl (And.intro hel hs)))))))
  have HL := Aside0.mk (err_law x hI.n.1)
  have HBAD : Aside0 (rAll x = false → errC x = 1) := ⟨fun h => by unfold errC; rw [HL.out, h]; rfl⟩
  have HR : Aside0 (rAll x = (!r1 k && !r2 k X n yl el s && !r3 X yl el s && !r4 k n yl && !r5 k yl)) := ⟨by rw [hk, hn, hX, hyl, hel, hs]; rfl⟩
  rw [← hk] at hk1
  clear hcs hI hk hn hX hyl hel hs
  have HK := Aside0.mk hk1
  clear hk1
  go_enter Tryd.func34, Tryd.ntmps34
  go_upto_region 1 with (first
    | ((with_reducible refine gate_dst (N := 1) rfl ?_); refine box_event ?hg (N := 1) ?hd (cs := cs) (t := 63) ?hr ?_; (case hd => rfl); (case hg => rfl); (case hr => exact exec_box _ _ _ rfl cs rfl); intro gb hgb w1 hbox hb1; have H1 := Aside0.mk (show RBx w1 gb x Y E yc ec ∧ Below w.heap.size w w1 from ⟨RBx.of HCS.out.1 hbox, hb1⟩); obtain ⟨a0, a1, a2, a3, a4, a5⟩ := H1.out.1.cells; rw [← HCS.out.2.2.1] at a0; rw [← HCS.out.2.2.2.2.1] at a1; rw [← HCS.out.2.2.2.1] at a2; rw [← HCS.out.2.2.2.2.2.1] at a3; rw [← HCS.out.2.2.2.2.2.2.1] at a4; rw [← HCS.out.2.2.2.2.2.2.2] at a5; clear hbox hb1 hgb))
  go_cut [13] (fun v13 wc => v13 = .bool (r1 k) ∧ w1 = wc)
  case first =>
    go_wp2
    all_goals
      go_meet
      case rel => exact ⟨by (repeat (rename (∀ (a : Act) (w : World), Code.wp _ _ _ a w → _) => hx; clear hx)); unfold r1; simp_all, rfl⟩
  obtain ⟨rfl, rfl⟩ := hcut
  have e1 : r1 k = true := by unfold r1; have := HK.out; rw [Bool.or_eq_true, decide_eq_true_eq, decide_eq_true_eq]; omega
  rw [e1]
  go_wp2
  go_ret
  exact ⟨by rw [HBAD.out (by rw [HR.out, e1]; rfl)]; rfl, H1.out.2⟩
set_option maxRecDepth 100000 in
set_option maxHeartbeats 8000000 in
theorem rocheck_1 (hcs : RV cs x Y E yc ec) (hI : InR w x Y E) (hk1 : x.k = 1) :
    Calls Tryd.prog 34 #[.agg cs] w fun e w' => e = .returned (.int .i64 (errC x)) ∧ Below w.heap.size w w' := by
  obtain ⟨k, hk⟩ : ∃ z, z = x.k := ⟨_, rfl⟩
  obtain ⟨n, hn⟩ : ∃ z, z = x.n := ⟨_, rfl⟩
  obtain ⟨X, hX⟩ : ∃ z, z = S x.b := ⟨_, rfl⟩
  obtain ⟨yl, hyl⟩ : ∃ z, z = x.ids.length := ⟨_, rfl⟩
  obtain ⟨el, hel⟩ : ∃ z, z = x.es.length := ⟨_, rfl⟩
  obtain ⟨s, hs⟩ : ∃ z, z = x.s := ⟨_, rfl⟩
  have hl3 : el ≤ 9223372036854775807 := by rw [hel]; exact hI.el
  have HCS := Aside0.mk (And.intro hcs (And.intro hI (And.intro hk (And.intro hn (And.intro hX (And.intro hyl (And.intro hel hs)))))))
  have HL := Aside0.mk (err_law x hI.n.1)
  have HBAD : Aside0 (rAll x = false → errC x = 1) := ⟨fun h => by unfold errC; rw [HL.out, h]; rfl⟩
  have HR : Aside0 (rAll x = (!r1 k && !r2 k X n yl el s && !r3 X yl el s && !r4 k n yl && !r5 k yl)) := ⟨by rw [hk, hn, hX, hyl, hel, hs]; rfl⟩
  rw [← hk] at hk1
  clear hcs hI hk hn hX hyl hel hs
  have HK := Aside0.mk hk1
  clear hk1
  go_enter Tryd.func34, Tryd.ntmps34
  go_upto_region 1 with (first
    | ((with_reducible refine gate_dst (N := 1) rfl ?_); refine box_event ?hg (N := 1) ?hd (cs := cs) (t := 63) ?hr ?_; (case hd => rfl); (case hg => rfl); (case hr => exact exec_box _ _ _ rfl cs rfl); intro gb hgb w1 hbox hb1; have H1 := Aside0.mk (show RBx w1 gb x Y E yc ec ∧ Below w.heap.size w w1 from ⟨RBx.of HCS.out.1 hbox, hb1⟩); obtain ⟨a0, a1, a2, a3, a4, a5⟩ := H1.out.1.cells; rw [← HCS.out.2.2.1, HK.out] at a0; rw [← HCS.out.2.2.2.2.1] at a1; rw [← HCS.out.2.2.2.1] at a2; rw [← HCS.out.2.2.2.2.2.1] at a3; rw [← HCS.out.2.2.2.2.2.2.1] at a4; rw [← HCS.out.2.2.2.2.2.2.2] at a5; clear hbox hb1 hgb))
  go_upto_region 3 with (fail)
  go_cut [63] (fun v13 wc => v13 = .bool (r2 1 X n yl el s) ∧ w1 = wc)
  case first =>
    go_wp2
    all_goals
      go_meet
      case rel => exact ⟨by (repeat (rename (∀ (a : Act) (w : World), Code.wp _ _ _ a w → _) => hx; clear hx)); clear HCS H1 HL HBAD HR HK a0 a1 a2 a3 a4 a5; unfold r2; simp_all <;> (rw [Bool.eq_iff_iff]; simp; omega), rfl⟩
  obtain ⟨rfl, rfl⟩ := hcut
  cases e2 : r2 1 X n yl el s
  rotate_left
  · go_wp2
    go_ret
    exact ⟨by rw [HBAD.out (by rw [HR.out, HK.out, e2]; rfl)]; rfl, H1.out.2⟩
  go_upto_region 5 with (fail)
  go_cut [85] (fun v13 wc => v13 = .bool (r3 X yl el s) ∧ w1 = wc)
  case first =>
    clear e2
    go_wp2
    all_goals
      go_meet
      case rel => exact ⟨by (repeat (rename (∀ (a : Act) (w : World), Code.wp _ _ _ a w → _) => hx; clear hx)); clear HCS H1 HL HBAD HR HK a0 a1 a2 a3 a4 a5; unfold r3; simp_all <;> (rw [Bool.eq_iff_iff]; simp; omega), rfl⟩
  obtain ⟨rfl, rfl⟩ := hcut
  cases e3 : r3 X yl el s
  rotate_left
  · go_wp2
    go_ret
    exact ⟨by rw [HBAD.out (by rw [HR.out, HK.out, e2, e3]; rfl)]; rfl, H1.out.2⟩
  have HEL := Aside0.mk (show el = 0 from by unfold r2 at e2; simp at e2; omega)
  have HE := Aside0.mk (show errC x = if dirGo none x.es = true then 0 else 1 from by unfold errC; rw [HL.out, HR.out, HK.out, e2, e3]; rfl)
  clear HBAD HR HL e2 e3
  go_wp2
  clear a0 a1 a2 a3 a5
  clear a4
  go_loopg [3, 4, 5] el (fun q v3 v4 v5 wr => ∃ i : Nat, v3 = .int .i64 i ∧ q + i = el ∧ Aside0 (RBx wr gb x Y E yc ec ∧ Below w.heap.size w wr ∧ dirGo none x.es = dirGo (prevE x.es i) (x.es.drop i)))
  case atStart => exact ⟨0, rfl, rfl, ⟨H1.out.1, H1.out.2, rfl⟩⟩
  case round =>
    clear H1
    obtain ⟨i, rfl, hq, hI⟩ := hrel
    obtain ⟨_, _, _, _, a4, _⟩ := hI.out.1.cells
    rw [← HCS.out.2.2.2.2.2.2.1] at a4
    have hz := HEL.out
    have d1 : decide ((i : Int) < (el : Int)) = false := decide_eq_false (by omega)
    have he := Aside0.mk (show errC x = 0 by rw [HE.out, hI.out.2.2, List.drop_of_length_le (by have := HCS.out.2.2.2.2.2.2.1; omega)]; rfl)
    clear HE HCS
    go_wp2
    go_ret
    exact ⟨by rw [he.out]; rfl, hI.out.2.1⟩
set_option maxRecDepth 100000 in
set_option maxHeartbeats 8000000 in
theorem rocheck_2 (hcs : RV cs x Y E yc ec) (hI : InR w x Y E) (hk1 : x.k = 2) :
    Calls Tryd.prog 34 #[.agg cs] w fun e w' => e = .returned (.int .i64 (errC x)) ∧ Below w.heap.size w w' := by
  obtain ⟨k, hk⟩ : ∃ z, z = x.k := ⟨_, rfl⟩
  obtain ⟨n, hn⟩ : ∃ z, z = x.n := ⟨_, rfl⟩
  obtain ⟨X, hX⟩ : ∃ z, z = S x.b := ⟨_, rfl⟩
  obtain ⟨yl, hyl⟩ : ∃ z, z = x.ids.length := ⟨_, rfl⟩
  obtain ⟨el, hel⟩ : ∃ z, z = x.es.length := ⟨_, rfl⟩
  obtain ⟨s, hs⟩ : ∃ z, z = x.s := ⟨_, rfl⟩
  have hl3 : el ≤ 9223372036854775807 := by rw [hel]; exact hI.el
  have HCS := Aside0.mk (And.intro hcs (And.intro hI (And.intro hk (And.intro hn (And.intro hX (And.intro hyl (And.intro hel hs)))))))
  have HL := Aside0.mk (err_law x hI.n.1)
  have HBAD : Aside0 (rAll x = false → errC x = 1) := ⟨fun h => by unfold errC; rw [HL.out, h]; rfl⟩
  have HR : Aside0 (rAll x = (!r1 k && !r2 k X n yl el s && !r3 X yl el s && !r4 k n yl && !r5 k yl)) := ⟨by rw [hk, hn, hX, hyl, hel, hs]; rfl⟩
  rw [← hk] at hk1
  clear hcs hI hk hn hX hyl hel hs
  have HK := Aside0.mk hk1
  clear hk1
  go_enter Tryd.func34, Tryd.ntmps34
  go_upto_region 1 with (first
    | ((with_reducible refine gate_dst (N := 1) rfl ?_); refine box_event ?hg (N := 1) ?hd (cs := cs) (t := 63) ?hr ?_; (case hd => rfl); (case hg => rfl); (case hr => exact exec_box _ _ _ rfl cs rfl); intro gb hgb w1 hbox hb1; have H1 := Aside0.mk (show RBx w1 gb x Y E yc ec ∧ Below w.heap.size w w1 from ⟨RBx.of HCS.out.1 hbox, hb1⟩); obtain ⟨a0, a1, a2, a3, a4, a5⟩ := H1.out.1.cells; rw [← HCS.out.2.2.1, HK.out] at a0; rw [← HCS.out.2.2.2.2.1] at a1; rw [← HCS.out.2.2.2.1] at a2; rw [← HCS.out.2.2.2.2.2.1] at a3; rw [← HCS.out.2.2.2.2.2.2.1] at a4; rw [← HCS.out.2.2.2.2.2.2.2] at a5; clear hbox hb1 hgb))
  go_upto_region 3 with (fail)
  go_cut [63] (fun v13 wc => v13 = .bool (r2 2 X n yl el s) ∧ w1 = wc)
  case first =>
    go_wp2
    all_goals
      go_meet
      case rel => exact ⟨by (repeat (rename (∀ (a : Act) (w : World), Code.wp _ _ _ a w → _) => hx; clear hx)); clear HCS H1 HL HBAD HR HK a0 a1 a2 a3 a4 a5; unfold r2; simp_all <;> (rw [Bool.eq_iff_iff]; simp; omega), rfl⟩
  obtain ⟨rfl, rfl⟩ := hcut
  cases e2 : r2 2 X n yl el s
  rotate_left
  · go_wp2
    go_ret
    exact ⟨by rw [HBAD.out (by rw [HR.out, HK.out, e2]; rfl)]; rfl, H1.out.2⟩
  go_upto_region 5 with (fail)
  go_cut [85] (fun v13 wc => v13 = .bool (r3 X yl el s) ∧ w1 = wc)
  case first =>
    clear e2
    go_wp2
    all_goals
      go_meet
      case rel => exact ⟨by (repeat (rename (∀ (a : Act) (w : World), Code.wp _ _ _ a w → _) => hx; clear hx)); clear HCS H1 HL HBAD HR HK a0 a1 a2 a3 a4 a5; unfold r3; simp_all <;> (rw [Bool.eq_iff_iff]; simp; omega), rfl⟩
  obtain ⟨rfl, rfl⟩ := hcut
  cases e3 : r3 X yl el s
  rotate_left
  · go_wp2
    go_ret
    exact ⟨by rw [HBAD.out (by rw [HR.out, HK.out, e2, e3]; rfl)]; rfl, H1.out.2⟩
  go_upto_region 7 with (fail)
  go_cut [115] (fun v13 wc => v13 = .bool (r4 2 n yl) ∧ w1 = wc)
  case first =>
    clear e2 e3
    go_wp2
    all_goals
      go_meet
      case rel => exact ⟨by (repeat (rename (∀ (a : Act) (w : World), Code.wp _ _ _ a w → _) => hx; clear hx)); clear HCS H1 HL HBAD HR HK a0 a1 a2 a3 a4 a5; unfold r4; simp_all <;> (rw [Bool.eq_iff_iff]; simp; omega), rfl⟩
  obtain ⟨rfl, rfl⟩ := hcut
  cases e4 : r4 2 n yl
  rotate_left
  · go_wp2
    go_ret
    exact ⟨by rw [HBAD.out (by rw [HR.out, HK.out, e2, e3, e4]; rfl)]; rfl, H1.out.2⟩
  have HEL := Aside0.mk (show el = 0 from by unfold r2 at e2; simp at e2; omega)
  have HE := Aside0.mk (show errC x = if dirGo none x.es = true then 0 else 1 from by unfold errC; rw [HL.out, HR.out, HK.out, e2, e3, e4]; rfl)
  clear HBAD HR HL e2 e3 e4
  go_wp2
  clear a0 a1 a2 a3 a5
  clear a4
  go_loopg [3, 4, 5] el (fun q v3 v4 v5 wr => ∃ i : Nat, v3 = .int .i64 i ∧ q + i = el ∧ Aside0 (RBx wr gb x Y E yc ec ∧ Below w.heap.size w wr ∧ dirGo none x.es = dirGo (prevE x.es i) (x.es.drop i)))
  case atStart => exact ⟨0, rfl, rfl, ⟨H1.out.1, H1.out.2, rfl⟩⟩
  case round =>
    clear H1
    obtain ⟨i, rfl, hq, hI⟩ := hrel
    obtain ⟨_, _, _, _, a4, _⟩ := hI.out.1.cells
    rw [← HCS.out.2.2.2.2.2.2.1] at a4
    have hz := HEL.out
    have d1 : decide ((i : Int) < (el : Int)) = false := decide_eq_false (by omega)
    have he := Aside0.mk (show errC x = 0 by rw [HE.out, hI.out.2.2, List.drop_of_length_le (by have := HCS.out.2.2.2.2.2.2.1; omega)]; rfl)
    clear HE HCS
    go_wp2
    go_ret
    exact ⟨by rw [he.out]; rfl, hI.out.2.1⟩
end
end Go.Proofs.YtgjdcdhfijkoiaaDoor.Obj
end
