/- The reference's Get of an object under way. -/
import Derived.Test.YtgjdcdhfijkoiaaDoorObI
section
namespace Go.Proofs.YtgjdcdhfijkoiaaDoor.Obj
open Go.RowKit Go.Proofs.YtgjdcdhfijkoiaaDoorW.PrintWords Go.Proofs.YtgjdcdhfijkoiaaDoorW.PrintLast Go.Proofs.YtgjdcdhfijkoiaaDoorW.PrintMore Go.Proofs.YtgjdcdhfijkoiaaDoor.Mem Go.Proofs.YtgjdcdhfijkoiaaDoor.Cod Go.Proofs.YtgjdcdhfijkoiaaDoor.PCod Go.Proofs.YtgjdcdhfijkoiaaDoor.Str Go.Proofs.YtgjdcdhfijkoiaaDoor.Open
set_option linter.unusedVariables false
set_option linter.unusedSimpArgs false
/-! ### cells side by side are written (as in the notes' GetW) -/
theorem blk_sets {g : Nat} {t : TypeId} : ∀ (vs cs : List Value) (o : Nat) (w : World), w.heap[g]? = some (.cells cs.toArray t (0, 0)) → o + vs.length ≤ cs.length → (w.setCells g o vs).heap[g]? = some (.cells (cs.take o ++ vs ++ cs.drop (o + vs.length)).toArray t (0, 0))
  | [], cs, o, w, h, _ => by simpa [World.setCells] using h
  | v :: r, cs, o, w, h, hl => by
    have hlt : o < cs.length := by simp at hl; omega
    have h2 := blk_sets r (cs.set o v) (o + 1) (w.setCell ⟨g, o, none⟩ v) (by have := blk_set h o v; simpa using this) (by simp at hl ⊢; omega)
    show ((w.setCell ⟨g, o, none⟩ v).setCells g (o + 1) r).heap[g]? = _
    rw [h2]
    congr 3
    have e1 : (cs.set o v).take (o + 1) = cs.take o ++ [v] := by
      apply List.ext_getElem?
      intro j
      rw [List.getElem?_take]
      by_cases hj : j < o
      · rw [if_pos (by omega), List.getElem?_set_ne (by omega), List.getElem?_append_left (by rw [List.length_take]; omega), List.getElem?_take, if_pos hj]
      · by_cases hj2 : j = o
        · rw [if_pos (by omega), hj2, List.getElem?_set_self hlt, List.getElem?_append_right (by rw [List.length_take]; omega), List.length_take, show o - min o cs.length = 0 by omega]; rfl
        · rw [if_neg (by omega), List.getElem?_eq_none (by simp; omega)]
    have e2 : (cs.set o v).drop (o + 1 + r.length) = cs.drop (o + (r.length + 1)) := by
      rw [show o + 1 + r.length = o + (r.length + 1) by omega]
      apply List.ext_getElem?
      intro j
      rw [List.getElem?_drop, List.getElem?_drop, List.getElem?_set_ne (by omega)]
    rw [e1, e2]
    simp
theorem sets_other {g : Nat} : ∀ (vs : List Value) (o : Nat) (w : World) (k : Nat), k ≠ g → (w.setCells g o vs).heap[k]? = w.heap[k]?
  | [], _, _, _, _ => rfl
  | v :: r, o, w, k, hk => (sets_other r (o + 1) _ k hk).trans (Below.heap_setCell w ⟨g, o, none⟩ v k hk)
theorem sets_size {g : Nat} : ∀ (vs : List Value) (o : Nat) (w : World), (w.setCells g o vs).heap.size = w.heap.size
  | [], _, _ => rfl
  | v :: r, o, w => (sets_size r (o + 1) _).trans (by simp [World.setCell])
theorem below_sets {g : Nat} {w : World} (hg : w.heap.size ≤ g) : ∀ (vs : List Value) (o : Nat) (W : World), Below w.heap.size w W → Below w.heap.size w (W.setCells g o vs)
  | [], _, _, h => h
  | v :: r, o, W, h => below_sets hg r (o + 1) _ (below_set h hg)
section
variable {P : Program} {o : Oper} {ev : Operand → Value}
theorem exec_store_mid (W : World) (ty : TypeId) (x y : Operand) (ho : o.op = .store ty x y) (g off : Nat) (vs : List Value) (hx : ev x = .pointer (some ⟨g, off, none⟩)) (hy : ev y = .agg vs.toArray)
    (t : TypeId) (cs : List Value) (hg : W.heap[g]? = some (.cells cs.toArray t (0, 0))) (hi : (P.info? ty).map (·.size) = some vs.length) (hl : off + vs.length ≤ cs.length) (h1 : ∀ v ∈ vs, v.oneCell' = true) :
    (execOp ev o).run P W = .ok .skip (W.setCells g off vs) := by
  have hst := run_storeCells_cells (P := P) g off vs 0 W (fun j hj => by rw [blk_cell hg, List.getElem?_toArray, List.getElem?_eq_getElem (by omega)]; rfl) (fun j hj => blk_frozen hg _) h1
  cases hq : P.info? ty with
  | none => simp [hq] at hi
  | some i =>
    have hs : vs.length = i.size := by simp [hq] at hi; omega
    unfold execOp
    simp only [ho, hx, hy, Instr.storeAt, Instr.sureAddr, Sem.run_bind, Sem.run_pure, Result.andThen_ok]
    simp [storeVar, sizeOf, typeInfo, hq, Value.cells, hs, hst]
end
theorem ent_sets {W : World} {g : Nat} {t : TypeId} {nm : ByteArray} {d : Bool} {p q : List Int} (h : W.heap[g]? = some (.cells (ecells ⟨nm, d, p⟩).toArray t (0, 0))) (hq : q.length = 32) (hp : p.length = 32 := by rfl) : (W.setCells g 2 (nums .u8 q)).heap[g]? = some (.cells (ecells ⟨nm, d, q⟩).toArray t (0, 0)) := by
  have hl := ecells_len (e := ⟨nm, d, p⟩) hp
  have h1 := blk_sets (nums .u8 q) _ 2 W h (by rw [nums_length, hq, hl]; omega)
  rw [h1, List.drop_of_length_le (by rw [nums_length, hq, hl]; omega), List.append_nil]
  rfl
theorem rbool_eq (R : RM) : R.rbool = R.bool.2 := by
  obtain ⟨b, e⟩ := R
  unfold RM.rbool RM.bool
  by_cases he : e = 0
  · subst he
    cases b with
    | nil => simp
    | cons c r =>
      by_cases hc : 1 < c
      · have h1 : (c == 1) = false := beq_eq_false_iff_ne.2 (by omega)
        simp [hc, h1]
      · simp [hc]
  · simp [he]
theorem rbuild_0 (W : World) : (Instr.build 63 #[]).run Tryd.prog W = .ok (.agg rz) W := by kernel_rfl
theorem rbuild_k (W : World) (k : Int) : (Instr.build 63 #[(0, .int .u8 k)]).run Tryd.prog W = .ok (.agg (ocells k 0 (.string ByteArray.empty) (.slice none 0 0) (.slice none 0 0) ByteArray.empty).toArray) W := by kernel_rfl
theorem exec_rbuild0 {o : Oper} {ev : Operand → Value} {W : World} (ho : o.op = .build 63 #[]) : (execOp ev o).run Tryd.prog W = .ok (.value (.agg rz)) W := by
  have h := rbuild_0 W
  unfold execOp
  simp [ho, h]
theorem exec_rbuildk {o : Oper} {ev : Operand → Value} {W : World} (x : Operand) {k : Int} (ho : o.op = .build 63 #[(0, x)]) (hx : ev x = .int .u8 k) : (execOp ev o).run Tryd.prog W = .ok (.value (.agg (ocells k 0 (.string ByteArray.empty) (.slice none 0 0) (.slice none 0 0) ByteArray.empty).toArray)) W := by
  have h := rbuild_k W k
  unfold execOp
  simp [ho, hx, h]
/-- What Get answers. -/
def GotR (w : World) (b : List Int) (e : Ending) (w' : World) : Prop := ∃ cs Y E yc ec, e = .returned (.tuple #[.agg cs, .int .i64 (getO b).2]) ∧ RV cs (getO b).1 Y E yc ec ∧ InR w' (getO b).1 Y E ∧ Below w.heap.size w w'
theorem inR_zero (w : World) : InR w zeroO none none :=
  ⟨Kd.C_nil _ _, Kd.C_nil _ _, (fun x hx => by cases hx), (fun x hx => by cases hx), (fun x hx => by cases hx), ⟨by show (0 : Int) ≤ 0; omega, by show (0 : Int) ≤ 255; omega⟩, ⟨by show (0 : Int) ≤ 0; omega, by show (0 : Int) ≤ 18446744073709551615; omega⟩, by show 0 ≤ _; omega, by show 0 ≤ _; omega, by show 0 ≤ _; omega⟩
/-- Under way: the result in g2, the reader in gr, the object in gn, its rows behind it. -/
structure RG (w W : World) (g2 gr gn : Nat) (R : RM) (x : OM) (vY vE : Value) : Prop where
  bl : Below w.heap.size w W
  b2 : w.heap.size ≤ g2
  z2 : W.heap[g2]? = some (.cells rz 63 (0, 0))
  rd : W.heap[gr]? = some (.cells #[.string (S R.b), .int .i64 R.e] 99 (0, 0))
  ob : RAt W gn x.k (.string (S x.b)) x.n vY vE x.s
  h1 : g2 < gr
  h2 : gr < gn
  by_ : Byt R.b
  rY : Kd.R kId 74 W w.heap.size (fun k => gn < k) vY x.ids
  rE : Kd.R kE 111 W w.heap.size (fun k => gn < k) vE x.es
section
variable {w W W' : World} {g2 gr gn : Nat} {R R' : RM} {x x' : OM} {vY vE vY' vE' : Value}
theorem RG.below (h : RG w W g2 gr gn R x vY vE) (hb : Below W.heap.size W W') : RG w W' g2 gr gn R x vY vE :=
  ⟨below_step h.bl hb, h.b2, (hb.block _ (blk_lt h.z2)).trans h.z2, (hb.block _ (blk_lt h.rd)).trans h.rd, h.ob.below hb, h.h1, h.h2, h.by_, Kd.R_below h.rY hb, Kd.R_below h.rE hb⟩
theorem RG.loadR (h : RG w W g2 gr gn R x vY vE) {o : Oper} {ev : Operand → Value} (y : Operand) (ho : o.op = .load 99 y) (hx : ev y = .pointer (some ⟨gr, 0, none⟩)) : (execOp ev o).run Tryd.prog W = .ok (.value (stV R)) W :=
  exec_load_row W 99 y ho gr hx 99 _ (0, 0) _ h.rd Tryd.underlying99 rfl (by kernel_rfl)
theorem RG.storeR (h : RG w W g2 gr gn R x vY vE) {o : Oper} {ev : Operand → Value} (y z : Operand) (ho : o.op = .store 99 y z) (hx : ev y = .pointer (some ⟨gr, 0, none⟩)) (hz : ev z = stV R') : (execOp ev o).run Tryd.prog W = .ok .skip (W.setRow gr #[.string (S R'.b), .int .i64 R'.e]) :=
  exec_store_row W 99 y z ho gr _ hx hz 99 _ h.rd (by kernel_rfl) rfl (by simp [Value.oneCell'])
theorem RG.setR (h : RG w W g2 gr gn R x vY vE) (hy : Byt R'.b) : RG w (W.setRow gr #[.string (S R'.b), .int .i64 R'.e]) g2 gr gn R' x vY vE := by
  have h1 := h.h1
  have h2 := h.h2
  have hk : Kept W (W.setRow gr #[.string (S R'.b), .int .i64 R'.e]) (fun k => k = gr) := ⟨by simp, fun i _ hn => setRow_other _ _ _ _ hn⟩
  exact ⟨below_setRow h.bl (by have := h.b2; omega) _, h.b2, (hk.2 g2 (blk_lt h.z2) (by omega)).trans h.z2, setRow_heap _ _ _ _ _ _ h.rd, h.ob.kept hk (by omega), h.h1, h.h2, hy, Kd.R_kept h.rY hk (fun k hk' e => by have : k = gr := e; omega), Kd.R_kept h.rE hk (fun k hk' e => by have : k = gr := e; omega)⟩
theorem RG.cell (h : RG w W g2 gr gn R x vY vE) (j : Nat) (v : Value) (ho : RAt (W.setCell ⟨gn, j, none⟩ v) gn x'.k (.string (S x'.b)) x'.n vY' vE' x'.s)
    (hY : Kd.R kId 74 W w.heap.size (fun k => gn < k) vY' x'.ids) (hE : Kd.R kE 111 W w.heap.size (fun k => gn < k) vE' x'.es) : RG w (W.setCell ⟨gn, j, none⟩ v) g2 gr gn R x' vY' vE' := by
  have h1 := h.h1
  have h2 := h.h2
  have hk : Kept W (W.setCell ⟨gn, j, none⟩ v) (fun k => k = gn) := (Kept.refl W (fun k => k = gn)).setCell (p := ⟨gn, j, none⟩) (.inl rfl) _
  exact ⟨below_set h.bl (by have := h.b2; show w.heap.size ≤ gn; omega), h.b2, (hk.2 g2 (blk_lt h.z2) (by omega)).trans h.z2, (hk.2 gr (blk_lt h.rd) (by omega)).trans h.rd, ho, h.h1, h.h2, h.by_, Kd.R_kept hY hk (fun k hk' e => by have : k = gn := e; omega), Kd.R_kept hE hk (fun k hk' e => by have : k = gn := e; omega)⟩
theorem RG.setB (h : RG w W g2 gr gn R x vY vE) (b' : List Int) : RG w (W.setCell ⟨gn, 1, none⟩ (.string (S b'))) g2 gr gn R { x with b := b' } vY vE := h.cell 1 _ (blk_set h.ob 1 _) h.rY h.rE
theorem RG.setN (h : RG w W g2 gr gn R x vY vE) (n' : Int) : RG w (W.setCell ⟨gn, 2, none⟩ (.int .u64 n')) g2 gr gn R { x with n := n' } vY vE := h.cell 2 _ (blk_set h.ob 2 _) h.rY h.rE
theorem RG.setY (h : RG w W g2 gr gn R x vY vE) {y' : List (List Int)} (hY : Kd.R kId 74 W w.heap.size (fun k => gn < k) vY' y') : RG w (W.setCell ⟨gn, 3, none⟩ vY') g2 gr gn R { x with ids := y' } vY' vE := h.cell 3 _ (blk_set h.ob 3 _) hY h.rE
theorem RG.setE (h : RG w W g2 gr gn R x vY vE) {y' : List EM} (hE : Kd.R kE 111 W w.heap.size (fun k => gn < k) vE' y') : RG w (W.setCell ⟨gn, 4, none⟩ vE') g2 gr gn R { x with es := y' } vY vE' := h.cell 4 _ (blk_set h.ob 4 _) h.rY hE
theorem RG.setS (h : RG w W g2 gr gn R x vY vE) (s' : ByteArray) : RG w (W.setCell ⟨gn, 5, none⟩ (.string s')) g2 gr gn R { x with s := s' } vY vE := h.cell 5 _ (blk_set h.ob 5 _) h.rY h.rE
theorem RG.fin (h : RG w W g2 gr gn R x vY vE) {ok : Bool} (hs : SwO (R, x, ok)) (hk : 0 ≤ x.k ∧ x.k ≤ 255) (hbl : x.b.length ≤ 9223372036854775807) : ∃ cs Y E yc ec, vY = .slice Y x.ids.length yc ∧ vE = .slice E x.es.length ec ∧ RV cs x Y E yc ec ∧ RBx W gn x Y E yc ec ∧ InR W x Y E := by
  obtain ⟨Y, yc, rfl, _, hY⟩ := Kd.R_reads h.rY
  obtain ⟨E, ec, rfl, _, hE⟩ := Kd.R_reads h.rE
  exact ⟨_, Y, E, yc, ec, rfl, rfl, rfl, h.ob, ⟨hY, hE, hs.bb, hs.bi, hs.be, hk, hs.n, hbl, hY.2.1, hE.2.1⟩⟩
/-- One field of the object is stored. -/
theorem RG.put (h : RG w W g2 gr gn R x vY vE) {o : Oper} {ev : Operand → Value} (ty : TypeId) (j : Nat) (v : Value) (y z : Operand) (ho : o.op = .store ty y z) (hx : ev y = .pointer (some ⟨gn, j, none⟩)) (hz : ev z = v) (hc : v.cells = #[v]) (h1 : v.oneCell' = true) (hi : (Tryd.prog.info? ty).map (·.size) = some 1) (hj : j < 6) :
    (execOp ev o).run Tryd.prog W = .ok .skip (W.setCell ⟨gn, j, none⟩ v) := exec_store1 W ty y z ho gn j v hx hz hc 63 _ h.ob hi hj h1
theorem R_keep {α : Type} {n : Nat} {enc : α → List Value} {h1 : ∀ x, ∀ u ∈ enc x, u.oneCell' = true} {e N : Nat} {ok S : Nat → Prop} {v : Value} {xs : List α} (h : Kd.R (flat n enc h1) e W N ok v xs) (hk : Kept W W' S) (hs : ∀ k, some k = v.ownBlock → ¬ S k) : Kd.R (flat n enc h1) e W' N ok v xs := by
  have ht := Kd.R_kept (Kd.R_tight rfl h) hk (fun k hk' => hs k hk')
  exact ⟨h.1, ht.2⟩
theorem RY_keep {e N : Nat} {ok S : Nat → Prop} {v : Value} {xs : List (List Int)} (h : Kd.R kId e W N ok v xs) (hk : Kept W W' S) (hs : ∀ k, some k = v.ownBlock → ¬ S k) : Kd.R kId e W' N ok v xs := R_keep (n := 32) (enc := nums .u8) (h1 := fun p => nums_one p) h hk hs
theorem RE_keep {e N : Nat} {ok S : Nat → Prop} {v : Value} {xs : List EM} (h : Kd.R kE e W N ok v xs) (hk : Kept W W' S) (hs : ∀ k, some k = v.ownBlock → ¬ S k) : Kd.R kE e W' N ok v xs := R_keep (n := 34) (enc := ecells) (h1 := ecells_one) h hk hs
/-- A block of its own is written. -/
theorem RG.keepG (h : RG w W g2 gr gn R x vY vE) {g : Nat} (hb : Below w.heap.size w W') (hk : Kept W W' (fun k => k = g)) (hg : gn < g) (hY : ∀ k, some k = vY.ownBlock → k < g) (hE : ∀ k, some k = vE.ownBlock → k < g) : RG w W' g2 gr gn R x vY vE := by
  have h1 := h.h1
  have h2 := h.h2
  exact ⟨hb, h.b2, (hk.2 g2 (blk_lt h.z2) (by omega)).trans h.z2, (hk.2 gr (blk_lt h.rd) (by omega)).trans h.rd, h.ob.kept hk (by omega), h.h1, h.h2, h.by_, RY_keep h.rY hk (fun k e e2 => by have := hY k e; have : k = g := e2; omega), RE_keep h.rE hk (fun k e e2 => by have := hE k e; have : k = g := e2; omega)⟩
theorem RG.bound (h : RG w W g2 gr gn R x vY vE) : gn < W.heap.size ∧ (∀ k, some k = vY.ownBlock → k < W.heap.size) ∧ (∀ k, some k = vE.ownBlock → k < W.heap.size) :=
  ⟨blk_lt h.ob, fun k e => ((Kd.R_bound h.rY).1 k e.symm).2.2.1, fun k e => ((Kd.R_bound h.rE).1 k e.symm).2.2.1⟩
theorem RG.growY (h : RG w W g2 gr gn R x vY (.slice none 0 0)) (hes : x.es = []) {v6 : Value} {y' : List (List Int)} (hb : Below w.heap.size w W') (hg : W.grownBy W' vY.ownBlock) (ho : Kd.R kId 74 W' w.heap.size (fun k => gn < k) v6 y') :
    RAt W' gn x.k (.string (S x.b)) x.n vY (.slice none 0 0) x.s ∧ RG w (W'.setCell ⟨gn, 3, none⟩ v6) g2 gr gn R { x with ids := y' } v6 (.slice none 0 0) := by
  have h1 := h.h1
  have h2 := h.h2
  have hk6 : Kept W W' (fun k => some k = vY.ownBlock) := Kept.of_grown hg (Kept.refl _ _) (fun k e => .inl e.symm)
  have hu : ∀ k, some k = vY.ownBlock → gn < k := fun k e => (Kd.R_bound h.rY).1 k e.symm |>.1
  have hob := h.ob.kept hk6 (fun e => by have := hu _ e; omega)
  have hk : Kept W' (W'.setCell ⟨gn, 3, none⟩ v6) (fun k => k = gn) := (Kept.refl W' (fun k => k = gn)).setCell (p := ⟨gn, 3, none⟩) (.inl rfl) _
  have hz : W'.heap[g2]? = some (.cells rz 63 (0, 0)) := (hk6.2 g2 (blk_lt h.z2) (fun e => by have := hu _ e; omega)).trans h.z2
  have hr : W'.heap[gr]? = some (.cells #[.string (S R.b), .int .i64 R.e] 99 (0, 0)) := (hk6.2 gr (blk_lt h.rd) (fun e => by have := hu _ e; omega)).trans h.rd
  refine ⟨hob, below_set hb (by have := h.b2; show w.heap.size ≤ gn; omega), h.b2, (hk.2 g2 (blk_lt hz) (by omega)).trans hz, (hk.2 gr (blk_lt hr) (by omega)).trans hr, blk_set hob 3 _, h.h1, h.h2, h.by_, Kd.R_kept ho hk (fun k hk' e => by have : k = gn := e; omega), ?_⟩
  show Kd.R kE _ _ _ _ _ x.es
  rw [hes]
  exact Kd.R_nil _ _ _ _ _
theorem RG.growE (h : RG w W g2 gr gn R x (.slice none 0 0) vE) (hids : x.ids = []) {v6 : Value} {y' : List EM} (hb : Below w.heap.size w W') (hg : W.grownBy W' vE.ownBlock) (ho : Kd.R kE 111 W' w.heap.size (fun k => gn < k) v6 y') :
    RAt W' gn x.k (.string (S x.b)) x.n (.slice none 0 0) vE x.s ∧ RG w (W'.setCell ⟨gn, 4, none⟩ v6) g2 gr gn R { x with es := y' } (.slice none 0 0) v6 := by
  have h1 := h.h1
  have h2 := h.h2
  have hk6 : Kept W W' (fun k => some k = vE.ownBlock) := Kept.of_grown hg (Kept.refl _ _) (fun k e => .inl e.symm)
  have hu : ∀ k, some k = vE.ownBlock → gn < k := fun k e => (Kd.R_bound h.rE).1 k e.symm |>.1
  have hob := h.ob.kept hk6 (fun e => by have := hu _ e; omega)
  have hk : Kept W' (W'.setCell ⟨gn, 4, none⟩ v6) (fun k => k = gn) := (Kept.refl W' (fun k => k = gn)).setCell (p := ⟨gn, 4, none⟩) (.inl rfl) _
  have hz : W'.heap[g2]? = some (.cells rz 63 (0, 0)) := (hk6.2 g2 (blk_lt h.z2) (fun e => by have := hu _ e; omega)).trans h.z2
  have hr : W'.heap[gr]? = some (.cells #[.string (S R.b), .int .i64 R.e] 99 (0, 0)) := (hk6.2 gr (blk_lt h.rd) (fun e => by have := hu _ e; omega)).trans h.rd
  refine ⟨hob, below_set hb (by have := h.b2; show w.heap.size ≤ gn; omega), h.b2, (hk.2 g2 (blk_lt hz) (by omega)).trans hz, (hk.2 gr (blk_lt hr) (by omega)).trans hr, blk_set hob 4 _, h.h1, h.h2, h.by_, ?_, Kd.R_kept ho hk (fun k hk' e => by have : k = gn := e; omega)⟩
  show Kd.R kId _ _ _ _ _ x.ids
  rw [hids]
  exact Kd.R_nil _ _ _ _ _
end
end Go.Proofs.YtgjdcdhfijkoiaaDoor.Obj
end
section
namespace Go.Proofs.YtgjdcdhfijkoiaaDoor.Obj
open Go.RowKit Go.Proofs.YtgjdcdhfijkoiaaDoorW.PrintWords Go.Proofs.YtgjdcdhfijkoiaaDoorW.PrintLast Go.Proofs.YtgjdcdhfijkoiaaDoorW.PrintMore Go.Proofs.YtgjdcdhfijkoiaaDoor.Mem Go.Proofs.YtgjdcdhfijkoiaaDoor.Cod Go.Proofs.YtgjdcdhfijkoiaaDoor.PCod Go.Proofs.YtgjdcdhfijkoiaaDoor.Str Go.Proofs.YtgjdcdhfijkoiaaDoor.Open
set_option linter.unusedVariables false
set_option linter.unusedSimpArgs false
section
variable {w : World}
theorem bytes_short (R : RM) (m : Int) (hm : 0 ≤ m) : ((R.bytes m).2.length : Int) ≤ m := by
  by_cases h : R.uint.1.e = 0
  rotate_left
  · rw [RM.bytes_e h]; simpa using hm
  by_cases h1 : m < 0 ∨ m < R.uint.2
  · rw [RM.bytes_big h h1]; simpa using hm
  rw [RM.bytes_ok h h1]
  unfold RM.fixed
  split
  · simpa using hm
  split
  · simpa using hm
  split
  · simpa using hm
  · dsimp only
    rw [List.length_take]
    omega
set_option maxRecDepth 100000 in
set_option maxHeartbeats 8000000 in
theorem rgt_err {b : List Int} (hy : Byt b) (he : (⟨b, 0⟩ : RM).uint.1.e ≠ 0) : Calls Tryd.prog 37 #[.string (S b)] w (GotR w b) := by
  obtain ⟨R0, hR0⟩ : ∃ R, R = (⟨b, 0⟩ : RM).uint.1 := ⟨_, rfl⟩
  obtain ⟨k, hk0⟩ : ∃ k, k = (⟨b, 0⟩ : RM).uint.2 := ⟨_, rfl⟩
  have hg : getO b = if R0.e ≠ 0 then (zeroO, R0.e) else finM (swM k (IntKind.u8.wrap k) R0) := by unfold getO; rw [hR0, hk0]
  have hby : Byt R0.b := by rw [hR0]; exact RM.uint_byt (R := ⟨b, 0⟩) hy
  have hkb : 0 ≤ k := by rw [hk0]; exact (RM.uint_bd (R := ⟨b, 0⟩) hy).1
  obtain ⟨s, hs⟩ : ∃ s, s = S b := ⟨_, rfl⟩
  have HU := Aside0.mk (And.intro hy (And.intro hR0 (And.intro hk0 hs)))
  rw [← hR0] at he
  rw [← hs]
  have HG := Aside0.mk (show getO b = (zeroO, R0.e) by rw [hg, if_pos he])
  have d1 : (R0.e != 0) = true := bne_iff_ne.2 he
  clear hg hby hkb hy hR0 hk0 hs he
  go_enter Tryd.func37, Tryd.ntmps37
  go_upto_region 2 with (first
    |((with_reducible refine gate_dst (N := 2) rfl ?_); refine Kd.event_run rfl (v := .pointer (some ⟨w.heap.size, 0, none⟩)) (w1 := w.alloc (.cells rz 63)) ?hr ?_; (case hr => first | kernel_rfl | (go_simp; done) | (go_simp; rfl)); go_loud (refine wpName (fun w1 hw1 => ?_); have H1 := Aside0.mk (show w1.heap[w.heap.size]? = some (.cells rz 63 (0, 0)) ∧ Below w.heap.size w w1 from ⟨by rw [hw1]; exact blk_new w _, by rw [hw1]; exact below_alloc (Below.refl _ _) _⟩); clear hw1))
    | (go_at_call 55; go_loud (have hx := ref_uint (w := w1) (R := ⟨b, 0⟩) HU.out.1; rw [← HU.out.2.1, ← HU.out.2.2.1] at hx; rw [HU.out.2.2.2]; refine hx.mono ?_; clear hx; rintro e w2 ⟨rfl, hb2⟩; have H2 := Aside0.mk (show w2.heap[w.heap.size]? = some (.cells rz 63 (0, 0)) ∧ Below w.heap.size w w2 from ⟨(hb2.block _ (blk_lt H1.out.1)).trans H1.out.1, below_step H1.out.2 hb2⟩); clear hb2))
    | ((with_reducible refine gate_dst (N := 4) rfl ?_); refine Kd.event_run rfl (v := .pointer (some ⟨w2.heap.size, 0, none⟩)) (w1 := w2.alloc (.cells #[.string ByteArray.empty, .int .i64 0] 99)) ?hr ?_; (case hr => first | kernel_rfl | (go_simp; done) | (go_simp; rfl)); go_loud (refine wpName (fun w3 hw3 => ?_); obtain ⟨gr, hgr⟩ : ∃ gr, gr = w2.heap.size := ⟨_, rfl⟩; have H3 := Aside0.mk (show w3.heap[gr]? = some (.cells #[.string ByteArray.empty, .int .i64 0] 99 (0, 0)) ∧ Below w2.heap.size w2 w3 ∧ gr = w2.heap.size from ⟨by rw [hw3, hgr]; exact blk_new w2 _, by rw [hw3]; exact below_alloc (Below.refl _ _) _, hgr⟩); rw [← hgr]; clear hw3 hgr))
    | ((with_reducible refine gate_store (ty := 99) (x := .tmp 4) (y := .tmp 16) rfl ?_); go_loud (refine store_event rfl (t := 99) (p := 4) (v := .tmp 16) rfl rfl (w1 := w3.setRow gr #[.string (S R0.b), .int .i64 R0.e]) ?hr ?_; (case hr => exact exec_store_row w3 99 (.tmp 4) (.tmp 16) rfl gr _ rfl rfl 99 _ H3.out.1 (by kernel_rfl) rfl (by simp [Value.oneCell'])); intro w4 hw4; have H4 := Aside0.mk (show w4.heap[gr]? = some (.cells #[.string (S R0.b), .int .i64 R0.e] 99 (0, 0)) ∧ w4.heap[w.heap.size]? = some (.cells rz 63 (0, 0)) ∧ Below w.heap.size w w4 ∧ w.heap.size < gr from ⟨by rw [hw4]; exact setRow_heap _ _ _ _ _ _ H3.out.1, by rw [hw4, setRow_other _ _ _ _ (by rw [H3.out.2.2]; have := blk_lt H2.out.1; omega)]; exact (H3.out.2.1.block _ (blk_lt H2.out.1)).trans H2.out.1, by rw [hw4]; exact below_setRow (below_step H2.out.2 H3.out.2.1) (by rw [H3.out.2.2]; exact H2.out.2.size) _, by rw [H3.out.2.2]; exact blk_lt H2.out.1⟩); clear hw4)))
  have cE : w4.cell? ⟨gr, 1, none⟩ = some (.int .i64 R0.e) := (blk_cell H4.out.1 1).trans rfl
  go_upto_region 3 with (fail)
  obtain ⟨wd, hwd⟩ : ∃ wd, wd = w4.drew := ⟨_, rfl⟩
  have hbd : Below w4.heap.size w4 wd := by rw [hwd]; exact below_drew1 (Below.refl _ _)
  have HD := Aside0.mk (And.intro ((hbd.block _ (blk_lt H4.out.1)).trans H4.out.1) (And.intro ((hbd.block _ (blk_lt H4.out.2.1)).trans H4.out.2.1) (below_step H4.out.2.2.1 hbd)))
  clear hbd cE
  refine start_ (n := 5) (S := fun w' => w'.cell? ⟨gr, 1, none⟩ = some (.int .i64 R0.e)) (ds := []) #[false, false, false, false, false] (by kernel_rfl) rfl (by kernel_rfl) (by rw [← hwd]; exact (blk_cell HD.out.1 1).trans rfl) (fun hHeld => ?_)
  rw [← hwd] at hHeld ⊢
  clear hwd
  refine take_ (i := 0) (N := some 21) (v := .agg rz) (a' := ?_) #[true, false, false, false, false] rfl rfl (by kernel_rfl) (fun _ _ _ h => h) (Or.inl ⟨by rfl, fun w' s0 => ?ld⟩) hHeld ?_ ?_
  case ld => exact exec_rbuild0 rfl
  rotate_left
  · simp only [Act.put, List.setIfInBounds_toArray, List.set_cons_zero, List.set_cons_succ, i64_w, i32_w]
    rfl
  refine pure_ (i := 1) (N := some 22) (v := ?_) (a' := ?_) #[true, true, false, false, false] rfl rfl (by kernel_rfl) (fun _ _ _ h => h) (Or.inl ⟨by rfl, ?_⟩) ?_ ?_
  rotate_left
  · intro w'
    go_simp
    with_reducible rfl
  rotate_left
  · simp only [Act.put, List.setIfInBounds_toArray, List.set_cons_zero, List.set_cons_succ, i64_w, i32_w]
    rfl
  refine take_ (i := 2) (N := some 23) (v := ?_) (a' := ?_) #[true, true, true, false, false] rfl rfl (by kernel_rfl) (fun _ _ _ h => h) (Or.inl ⟨by rfl, ?_⟩) hHeld ?_ ?_
  rotate_left
  · rintro w' s0
    go_simp
    with_reducible rfl
  rotate_left
  · simp only [Act.put, List.setIfInBounds_toArray, List.set_cons_zero, List.set_cons_succ, i64_w, i32_w]
    rfl
  refine one_ (i := 3) (N := none) #[true, true, true, true, false] rfl rfl (by kernel_rfl) (by decide) (fun K hK => ?_)
  refine skip_ (w1 := wd.setRow w.heap.size rz) (by rfl) rfl ?hr ?_
  case hr => exact exec_store_row wd 63 (.tmp 2) (.tmp 21) rfl w.heap.size _ rfl rfl 63 _ HD.out.2.1 (by kernel_rfl) rfl (rv_all rz_v).2.2
  obtain ⟨w9, hw9⟩ : ∃ w9, w9 = wd.setRow w.heap.size rz := ⟨_, rfl⟩
  have H9 := Aside0.mk (And.intro (show w9.heap[w.heap.size]? = some (.cells rz 63 (0, 0)) by rw [hw9]; exact setRow_heap _ _ _ _ _ _ HD.out.2.1) (show Below w.heap.size w w9 by rw [hw9]; exact below_setRow HD.out.2.2 (Nat.le_refl _) _))
  have hc9 : w9.cell? ⟨gr, 1, none⟩ = some (.int .i64 R0.e) := by
    have h : w9.heap[gr]? = some (.cells #[.string (S R0.b), .int .i64 R0.e] 99 (0, 0)) := by rw [hw9, setRow_other _ _ _ _ (by have := H4.out.2.2.2; omega)]; exact HD.out.1
    exact (blk_cell h 1).trans rfl
  rw [← hw9]
  clear hw9
  refine hK.out _ _ (hc9) (fun hHeld => ?_)
  clear hK K
  refine pure_ (i := 4) (N := some 3) (v := ?_) (a' := ?_) #[true, true, true, true, true] rfl rfl (by kernel_rfl) (fun _ _ _ h => h) (Or.inl ⟨by rfl, ?_⟩) ?_ ?_
  rotate_left
  · intro w'
    go_simp
    with_reducible rfl
  rotate_left
  · simp only [Act.put, List.setIfInBounds_toArray, List.set_cons_zero, List.set_cons_succ, i64_w, i32_w]
    rfl
  refine done_ (by kernel_rfl) ?_
  go_wp2
  refine bodyPost_ret (results_ct rfl _ _ w.heap.size 63 rz (0, 0) _ rfl H9.out.1 Tryd.underlying63 rfl (by kernel_rfl)) rfl ?_
  exact ⟨rz, none, none, 0, 0, by rw [HG.out]; rfl, by rw [HG.out]; exact rz_v, by rw [HG.out]; exact inR_zero _, H9.out.2⟩
set_option maxRecDepth 100000 in
set_option maxHeartbeats 8000000 in
theorem rgt_no {b : List Int} (hy : Byt b) (he : (⟨b, 0⟩ : RM).uint.1.e = 0) (hk : ¬ (1 ≤ (⟨b, 0⟩ : RM).uint.2 ∧ (⟨b, 0⟩ : RM).uint.2 ≤ 4)) : Calls Tryd.prog 37 #[.string (S b)] w (GotR w b) := by
  obtain ⟨R0, hR0⟩ : ∃ R, R = (⟨b, 0⟩ : RM).uint.1 := ⟨_, rfl⟩
  obtain ⟨k, hk0⟩ : ∃ k, k = (⟨b, 0⟩ : RM).uint.2 := ⟨_, rfl⟩
  have hg : getO b = if R0.e ≠ 0 then (zeroO, R0.e) else finM (swM k (IntKind.u8.wrap k) R0) := by unfold getO; rw [hR0, hk0]
  have hby : Byt R0.b := by rw [hR0]; exact RM.uint_byt (R := ⟨b, 0⟩) hy
  have hkb : 0 ≤ k := by rw [hk0]; exact (RM.uint_bd (R := ⟨b, 0⟩) hy).1
  obtain ⟨s, hs⟩ : ∃ s, s = S b := ⟨_, rfl⟩
  have HU := Aside0.mk (And.intro hy (And.intro hR0 (And.intro hk0 hs)))
  rw [← hR0] at he
  rw [← hk0] at hk
  rw [← hs]
  have HG := Aside0.mk (show getO b = (zeroO, 11) by rw [hg, if_neg (by simpa using he), swM_0 _ R0 (by omega) (by omega) (by omega) (by omega)]; rfl)
  have d1 : (R0.e != 0) = false := by rw [he]; rfl
  clear hg hby hy hR0 hk0 hs
  have HE := Aside0.mk he
  clear he
  by_cases hk1 : k < 1
  · have d2 : decide (k < 1) = true := decide_eq_true hk1
    clear hk hkb hk1
    go_enter Tryd.func37, Tryd.ntmps37
    go_upto_region 2 with (first
    |((with_reducible refine gate_dst (N := 2) rfl ?_); refine Kd.event_run rfl (v := .pointer (some ⟨w.heap.size, 0, none⟩)) (w1 := w.alloc (.cells rz 63)) ?hr ?_; (case hr => first | kernel_rfl | (go_simp; done) | (go_simp; rfl)); go_loud (refine wpName (fun w1 hw1 => ?_); have H1 := Aside0.mk (show w1.heap[w.heap.size]? = some (.cells rz 63 (0, 0)) ∧ Below w.heap.size w w1 from ⟨by rw [hw1]; exact blk_new w _, by rw [hw1]; exact below_alloc (Below.refl _ _) _⟩); clear hw1))
    | (go_at_call 55; go_loud (have hx := ref_uint (w := w1) (R := ⟨b, 0⟩) HU.out.1; rw [← HU.out.2.1, ← HU.out.2.2.1] at hx; rw [HU.out.2.2.2]; refine hx.mono ?_; clear hx; rintro e w2 ⟨rfl, hb2⟩; have H2 := Aside0.mk (show w2.heap[w.heap.size]? = some (.cells rz 63 (0, 0)) ∧ Below w.heap.size w w2 from ⟨(hb2.block _ (blk_lt H1.out.1)).trans H1.out.1, below_step H1.out.2 hb2⟩); clear hb2))
    | ((with_reducible refine gate_dst (N := 4) rfl ?_); refine Kd.event_run rfl (v := .pointer (some ⟨w2.heap.size, 0, none⟩)) (w1 := w2.alloc (.cells #[.string ByteArray.empty, .int .i64 0] 99)) ?hr ?_; (case hr => first | kernel_rfl | (go_simp; done) | (go_simp; rfl)); go_loud (refine wpName (fun w3 hw3 => ?_); obtain ⟨gr, hgr⟩ : ∃ gr, gr = w2.heap.size := ⟨_, rfl⟩; have H3 := Aside0.mk (show w3.heap[gr]? = some (.cells #[.string ByteArray.empty, .int .i64 0] 99 (0, 0)) ∧ Below w2.heap.size w2 w3 ∧ gr = w2.heap.size from ⟨by rw [hw3, hgr]; exact blk_new w2 _, by rw [hw3]; exact below_alloc (Below.refl _ _) _, hgr⟩); rw [← hgr]; clear hw3 hgr))
    | ((with_reducible refine gate_store (ty := 99) (x := .tmp 4) (y := .tmp 16) rfl ?_); go_loud (refine store_event rfl (t := 99) (p := 4) (v := .tmp 16) rfl rfl (w1 := w3.setRow gr #[.string (S R0.b), .int .i64 R0.e]) ?hr ?_; (case hr => exact exec_store_row w3 99 (.tmp 4) (.tmp 16) rfl gr _ rfl rfl 99 _ H3.out.1 (by kernel_rfl) rfl (by simp [Value.oneCell'])); intro w4 hw4; have H4 := Aside0.mk (show w4.heap[gr]? = some (.cells #[.string (S R0.b), .int .i64 R0.e] 99 (0, 0)) ∧ w4.heap[w.heap.size]? = some (.cells rz 63 (0, 0)) ∧ Below w.heap.size w w4 ∧ w.heap.size < gr from ⟨by rw [hw4]; exact setRow_heap _ _ _ _ _ _ H3.out.1, by rw [hw4, setRow_other _ _ _ _ (by rw [H3.out.2.2]; have := blk_lt H2.out.1; omega)]; exact (H3.out.2.1.block _ (blk_lt H2.out.1)).trans H2.out.1, by rw [hw4]; exact below_setRow (below_step H2.out.2 H3.out.2.1) (by rw [H3.out.2.2]; exact H2.out.2.size) _, by rw [H3.out.2.2]; exact blk_lt H2.out.1⟩); clear hw4)))
    have cE : w4.cell? ⟨gr, 1, none⟩ = some (.int .i64 R0.e) := (blk_cell H4.out.1 1).trans rfl
    go_wp2_with (first
      | ((with_reducible refine gate_dst (N := 30) rfl ?_); refine Kd.event_run rfl (v := .agg rz) (w1 := w4) ?hr ?_; (case hr => exact exec_rbuild0 rfl))
      | ((with_reducible refine gate_store (ty := 63) (x := .tmp 2) (y := .tmp 30) rfl ?_); go_loud (refine wpList_store_row rfl 63 (.tmp 2) (.tmp 30) rfl w.heap.size rz rfl rfl 63 rz H4.out.2.1 (rv_all rz_v).1 rfl (rv_all rz_v).2.2 ?_; refine wpName (fun w5 hw5 => ?_); have H5 := Aside0.mk (show w5.heap[w.heap.size]? = some (.cells rz 63 (0, 0)) ∧ Below w.heap.size w w5 from ⟨by rw [hw5]; exact setRow_heap _ _ _ _ _ _ H4.out.2.1, by rw [hw5]; exact below_setRow H4.out.2.2.1 (Nat.le_refl _) _⟩); clear hw5)))
    refine bodyPost_ret (results_ct rfl _ _ w.heap.size 63 rz (0, 0) _ rfl H5.out.1 Tryd.underlying63 rfl (by kernel_rfl)) rfl ?_
    exact ⟨rz, none, none, 0, 0, by rw [HG.out]; rfl, by rw [HG.out]; exact rz_v, by rw [HG.out]; exact inR_zero _, H5.out.2⟩
  · have d2 : decide (k < 1) = false := decide_eq_false hk1
    have d3 : decide (k > 4) = true := decide_eq_true (by omega)
    clear hk hkb hk1
    go_enter Tryd.func37, Tryd.ntmps37
    go_upto_region 2 with (first
    |((with_reducible refine gate_dst (N := 2) rfl ?_); refine Kd.event_run rfl (v := .pointer (some ⟨w.heap.size, 0, none⟩)) (w1 := w.alloc (.cells rz 63)) ?hr ?_; (case hr => first | kernel_rfl | (go_simp; done) | (go_simp; rfl)); go_loud (refine wpName (fun w1 hw1 => ?_); have H1 := Aside0.mk (show w1.heap[w.heap.size]? = some (.cells rz 63 (0, 0)) ∧ Below w.heap.size w w1 from ⟨by rw [hw1]; exact blk_new w _, by rw [hw1]; exact below_alloc (Below.refl _ _) _⟩); clear hw1))
    | (go_at_call 55; go_loud (have hx := ref_uint (w := w1) (R := ⟨b, 0⟩) HU.out.1; rw [← HU.out.2.1, ← HU.out.2.2.1] at hx; rw [HU.out.2.2.2]; refine hx.mono ?_; clear hx; rintro e w2 ⟨rfl, hb2⟩; have H2 := Aside0.mk (show w2.heap[w.heap.size]? = some (.cells rz 63 (0, 0)) ∧ Below w.heap.size w w2 from ⟨(hb2.block _ (blk_lt H1.out.1)).trans H1.out.1, below_step H1.out.2 hb2⟩); clear hb2))
    | ((with_reducible refine gate_dst (N := 4) rfl ?_); refine Kd.event_run rfl (v := .pointer (some ⟨w2.heap.size, 0, none⟩)) (w1 := w2.alloc (.cells #[.string ByteArray.empty, .int .i64 0] 99)) ?hr ?_; (case hr => first | kernel_rfl | (go_simp; done) | (go_simp; rfl)); go_loud (refine wpName (fun w3 hw3 => ?_); obtain ⟨gr, hgr⟩ : ∃ gr, gr = w2.heap.size := ⟨_, rfl⟩; have H3 := Aside0.mk (show w3.heap[gr]? = some (.cells #[.string ByteArray.empty, .int .i64 0] 99 (0, 0)) ∧ Below w2.heap.size w2 w3 ∧ gr = w2.heap.size from ⟨by rw [hw3, hgr]; exact blk_new w2 _, by rw [hw3]; exact below_alloc (Below.refl _ _) _, hgr⟩); rw [← hgr]; clear hw3 hgr))
    | ((with_reducible refine gate_store (ty := 99) (x := .tmp 4) (y := .tmp 16) rfl ?_); go_loud (refine store_event rfl (t := 99) (p := 4) (v := .tmp 16) rfl rfl (w1 := w3.setRow gr #[.string (S R0.b), .int .i64 R0.e]) ?hr ?_; (case hr => exact exec_store_row w3 99 (.tmp 4) (.tmp 16) rfl gr _ rfl rfl 99 _ H3.out.1 (by kernel_rfl) rfl (by simp [Value.oneCell'])); intro w4 hw4; have H4 := Aside0.mk (show w4.heap[gr]? = some (.cells #[.string (S R0.b), .int .i64 R0.e] 99 (0, 0)) ∧ w4.heap[w.heap.size]? = some (.cells rz 63 (0, 0)) ∧ Below w.heap.size w w4 ∧ w.heap.size < gr from ⟨by rw [hw4]; exact setRow_heap _ _ _ _ _ _ H3.out.1, by rw [hw4, setRow_other _ _ _ _ (by rw [H3.out.2.2]; have := blk_lt H2.out.1; omega)]; exact (H3.out.2.1.block _ (blk_lt H2.out.1)).trans H2.out.1, by rw [hw4]; exact below_setRow (below_step H2.out.2 H3.out.2.1) (by rw [H3.out.2.2]; exact H2.out.2.size) _, by rw [H3.out.2.2]; exact blk_lt H2.out.1⟩); clear hw4)))
    have cE : w4.cell? ⟨gr, 1, none⟩ = some (.int .i64 R0.e) := (blk_cell H4.out.1 1).trans rfl
    go_wp2_with (first
      | ((with_reducible refine gate_dst (N := 30) rfl ?_); refine Kd.event_run rfl (v := .agg rz) (w1 := w4) ?hr ?_; (case hr => exact exec_rbuild0 rfl))
      | ((with_reducible refine gate_store (ty := 63) (x := .tmp 2) (y := .tmp 30) rfl ?_); go_loud (refine wpList_store_row rfl 63 (.tmp 2) (.tmp 30) rfl w.heap.size rz rfl rfl 63 rz H4.out.2.1 (rv_all rz_v).1 rfl (rv_all rz_v).2.2 ?_; refine wpName (fun w5 hw5 => ?_); have H5 := Aside0.mk (show w5.heap[w.heap.size]? = some (.cells rz 63 (0, 0)) ∧ Below w.heap.size w w5 from ⟨by rw [hw5]; exact setRow_heap _ _ _ _ _ _ H4.out.2.1, by rw [hw5]; exact below_setRow H4.out.2.2.1 (Nat.le_refl _) _⟩); clear hw5)))
    refine bodyPost_ret (results_ct rfl _ _ w.heap.size 63 rz (0, 0) _ rfl H5.out.1 Tryd.underlying63 rfl (by kernel_rfl)) rfl ?_
    exact ⟨rz, none, none, 0, 0, by rw [HG.out]; rfl, by rw [HG.out]; exact rz_v, by rw [HG.out]; exact inR_zero _, H5.out.2⟩
set_option maxRecDepth 100000 in
set_option maxHeartbeats 8000000 in
theorem rgt_1 {b : List Int} (hy : Byt b) (he : (⟨b, 0⟩ : RM).uint.1.e = 0) (hk : (⟨b, 0⟩ : RM).uint.2 = 1) : Calls Tryd.prog 37 #[.string (S b)] w (GotR w b) := by
  obtain ⟨R0, hR0⟩ : ∃ R, R = (⟨b, 0⟩ : RM).uint.1 := ⟨_, rfl⟩
  obtain ⟨k, hk0⟩ : ∃ k, k = (⟨b, 0⟩ : RM).uint.2 := ⟨_, rfl⟩
  have hg : getO b = if R0.e ≠ 0 then (zeroO, R0.e) else finM (swM k (IntKind.u8.wrap k) R0) := by unfold getO; rw [hR0, hk0]
  have hby : Byt R0.b := by rw [hR0]; exact RM.uint_byt (R := ⟨b, 0⟩) hy
  have hkb : 0 ≤ k := by rw [hk0]; exact (RM.uint_bd (R := ⟨b, 0⟩) hy).1
  obtain ⟨s, hs⟩ : ∃ s, s = S b := ⟨_, rfl⟩
  have HU := Aside0.mk (And.intro hy (And.intro hR0 (And.intro hk0 hs)))
  rw [← hR0] at he
  rw [← hk0] at hk
  subst hk
  rw [← hs]
  have hsw := swM_ok 1 1 (R := R0) hby
  have HG := Aside0.mk (And.intro (show getO b = finM (swM 1 1 R0) by rw [hg, if_neg (by simpa using he)]; rfl) (And.intro hby hsw))
  have d1 : (R0.e != 0) = false := by rw [he]; rfl
  have hwk : IntKind.u8.wrap (1 : Int) = 1 := rfl
  clear hg hby hy hR0 hk0 hs he hkb hsw
  go_enter Tryd.func37, Tryd.ntmps37
  go_upto_region 2 with (first
    |((with_reducible refine gate_dst (N := 2) rfl ?_); refine Kd.event_run rfl (v := .pointer (some ⟨w.heap.size, 0, none⟩)) (w1 := w.alloc (.cells rz 63)) ?hr ?_; (case hr => first | kernel_rfl | (go_simp; done) | (go_simp; rfl)); go_loud (refine wpName (fun w1 hw1 => ?_); have H1 := Aside0.mk (show w1.heap[w.heap.size]? = some (.cells rz 63 (0, 0)) ∧ Below w.heap.size w w1 from ⟨by rw [hw1]; exact blk_new w _, by rw [hw1]; exact below_alloc (Below.refl _ _) _⟩); clear hw1))
    | (go_at_call 55; go_loud (have hx := ref_uint (w := w1) (R := ⟨b, 0⟩) HU.out.1; rw [← HU.out.2.1, ← HU.out.2.2.1] at hx; rw [HU.out.2.2.2]; refine hx.mono ?_; clear hx; rintro e w2 ⟨rfl, hb2⟩; have H2 := Aside0.mk (show w2.heap[w.heap.size]? = some (.cells rz 63 (0, 0)) ∧ Below w.heap.size w w2 from ⟨(hb2.block _ (blk_lt H1.out.1)).trans H1.out.1, below_step H1.out.2 hb2⟩); clear hb2))
    | ((with_reducible refine gate_dst (N := 4) rfl ?_); refine Kd.event_run rfl (v := .pointer (some ⟨w2.heap.size, 0, none⟩)) (w1 := w2.alloc (.cells #[.string ByteArray.empty, .int .i64 0] 99)) ?hr ?_; (case hr => first | kernel_rfl | (go_simp; done) | (go_simp; rfl)); go_loud (refine wpName (fun w3 hw3 => ?_); obtain ⟨gr, hgr⟩ : ∃ gr, gr = w2.heap.size := ⟨_, rfl⟩; have H3 := Aside0.mk (show w3.heap[gr]? = some (.cells #[.string ByteArray.empty, .int .i64 0] 99 (0, 0)) ∧ Below w2.heap.size w2 w3 ∧ gr = w2.heap.size from ⟨by rw [hw3, hgr]; exact blk_new w2 _, by rw [hw3]; exact below_alloc (Below.refl _ _) _, hgr⟩); rw [← hgr]; clear hw3 hgr))
    | ((with_reducible refine gate_store (ty := 99) (x := .tmp 4) (y := .tmp 16) rfl ?_); go_loud (refine store_event rfl (t := 99) (p := 4) (v := .tmp 16) rfl rfl (w1 := w3.setRow gr #[.string (S R0.b), .int .i64 R0.e]) ?hr ?_; (case hr => exact exec_store_row w3 99 (.tmp 4) (.tmp 16) rfl gr _ rfl rfl 99 _ H3.out.1 (by kernel_rfl) rfl (by simp [Value.oneCell'])); intro w4 hw4; have H4 := Aside0.mk (show w4.heap[gr]? = some (.cells #[.string (S R0.b), .int .i64 R0.e] 99 (0, 0)) ∧ w4.heap[w.heap.size]? = some (.cells rz 63 (0, 0)) ∧ Below w.heap.size w w4 ∧ w.heap.size < gr from ⟨by rw [hw4]; exact setRow_heap _ _ _ _ _ _ H3.out.1, by rw [hw4, setRow_other _ _ _ _ (by rw [H3.out.2.2]; have := blk_lt H2.out.1; omega)]; exact (H3.out.2.1.block _ (blk_lt H2.out.1)).trans H2.out.1, by rw [hw4]; exact below_setRow (below_step H2.out.2 H3.out.2.1) (by rw [H3.out.2.2]; exact H2.out.2.size) _, by rw [H3.out.2.2]; exact blk_lt H2.out.1⟩); clear hw4)))
  have cE : w4.cell? ⟨gr, 1, none⟩ = some (.int .i64 R0.e) := (blk_cell H4.out.1 1).trans rfl
  go_upto_region 7 with (first
    | ((with_reducible refine gate_dst (N := 33) rfl ?_); refine Kd.event_run rfl (v := .agg (ocells 1 0 (.string ByteArray.empty) (.slice none 0 0) (.slice none 0 0) ByteArray.empty).toArray) (w1 := w4) ?hr ?_; (case hr => exact exec_rbuildk (.tmp 32) rfl rfl))
    | ((with_reducible refine gate_dst (N := 6) rfl ?_); refine Kd.event_run rfl (v := .pointer (some ⟨w4.heap.size, 0, none⟩)) (w1 := w4.alloc (.cells rz 63)) ?hr ?_; (case hr => first | kernel_rfl | (go_simp; done) | (go_simp; rfl)); go_loud (refine wpName (fun w5 hw5 => ?_); obtain ⟨gn, hgn⟩ : ∃ z, z = w4.heap.size := ⟨_, rfl⟩; have H5 := Aside0.mk (show w5.heap[gn]? = some (.cells rz 63 (0, 0)) ∧ Below w4.heap.size w4 w5 ∧ gn = w4.heap.size from ⟨by rw [hw5, hgn]; exact blk_new w4 _, by rw [hw5]; exact below_alloc (Below.refl _ _) _, hgn⟩); rw [← hgn]; clear hw5 hgn))
    | ((with_reducible refine gate_store (ty := 63) (x := .tmp 6) (y := .tmp 33) rfl ?_); go_loud (refine wpList_store_row rfl 63 (.tmp 6) (.tmp 33) rfl gn _ rfl rfl 63 rz H5.out.1 rz_info rfl (rcells_all 1 0 ByteArray.empty none none 0 0 0 0 ByteArray.empty) ?_; refine wpName (fun w6 hw6 => ?_); have hb6 : Below w4.heap.size w4 w6 := (by rw [hw6]; exact below_setRow H5.out.2.1 (by rw [H5.out.2.2]; exact Nat.le_refl _) _); have H6 := Aside0.mk (show RG w w6 w.heap.size gr gn R0 ⟨1, [], 0, [], [], ByteArray.empty⟩ (.slice none 0 0) (.slice none 0 0) from ⟨below_step H4.out.2.2.1 hb6, Nat.le_refl _, (hb6.block _ (blk_lt H4.out.2.1)).trans H4.out.2.1, (hb6.block _ (blk_lt H4.out.1)).trans H4.out.1, by rw [hw6]; exact setRow_heap _ _ _ _ _ _ H5.out.1, H4.out.2.2.2, by rw [H5.out.2.2]; exact blk_lt H4.out.1, HG.out.2.1, Kd.R_nil _ _ _ _ _, Kd.R_nil _ _ _ _ _⟩); clear hw6 hb6)))
  clear H1 H2 H3 H4 H5 cE
  obtain ⟨Q, hQ⟩ : ∃ Q, Q = R0.bytes 32768 := ⟨_, rfl⟩
  have hb0 := RM.bytes_byt HG.out.2.1 32768
  have HQ := Aside0.mk hQ
  have HS := Aside0.mk (show getO b = finM (Q.1, ⟨1, Q.2, 0, [], [], ByteArray.empty⟩, true) ∧ SwO (Q.1, (⟨1, Q.2, 0, [], [], ByteArray.empty⟩ : OM), true) ∧ (0 ≤ (1 : Int) ∧ (1 : Int) ≤ 255) ∧ Q.2.length ≤ 9223372036854775807 from ⟨by rw [HG.out.1, swM_1, hQ], by have h := HG.out.2.2.1; rw [swM_1, ← hQ] at h; exact h, by decide, by
    have h2 : Q.2.length ≤ 32768 := by have := bytes_short R0 32768 (by omega); rw [hQ]; omega
    omega⟩)
  have HBY := Aside0.mk (show Byt Q.1.b by rw [hQ]; exact hb0.1)
  clear hQ hb0
  go_upto_region 17 with (first
    | ((with_reducible refine gate_dst (N := 37) rfl ?_); refine Kd.event_run rfl (v := stV R0) (w1 := w6) ?hr ?_; (case hr => exact H6.out.loadR (.tmp 4) rfl rfl))
    | (go_at_call 56; go_loud (have hx := (show Calls Tryd.prog 56 #[stV R0, .int .i64 32768] w6 fun e w' => e = .returned (.tuple #[stV Q.1, .string (S Q.2)]) ∧ Below w6.heap.size w6 w' by rw [HQ.out]; exact ref_bytes HG.out.2.1 32768 (by decide)); refine hx.mono ?_; clear hx; rintro e w7 ⟨rfl, hb7⟩; have H7 := Aside0.mk (H6.out.below hb7); clear hb7))
    | ((with_reducible refine gate_store (ty := 99) (x := .tmp 4) (y := .tmp 39) rfl ?_); go_loud (refine store_event rfl (t := 99) (p := 4) (v := .tmp 39) rfl rfl (w1 := w7.setRow gr #[.string (S Q.1.b), .int .i64 Q.1.e]) ?hr ?_; (case hr => exact H7.out.storeR (.tmp 4) (.tmp 39) rfl rfl rfl); intro w8 hw8; have H8 := Aside0.mk (H7.out.setR (R' := Q.1) HBY.out); rw [← hw8] at H8; clear hw8))
    | ((with_reducible refine gate_store (ty := 9) (x := .tmp 41) (y := .tmp 40) rfl ?_); go_loud (refine store_event rfl (t := 9) (p := 41) (v := .tmp 40) rfl rfl (w1 := w8.setCell ⟨gn, 1, none⟩ (.string (S Q.2))) ?hr ?_; (case hr => exact H8.out.put 9 1 (.string (S Q.2)) (.tmp 41) (.tmp 40) rfl rfl rfl rfl rfl (by kernel_rfl) (by decide)); intro w9 hw9; have H9 := Aside0.mk (H8.out.setB Q.2); rw [← hw9] at H9; clear hw9)))
  clear H6 H7 H8
  go_loopg [8, 9, 10] 0 (fun q v8 v9 v10 wr => v8 = .int .u64 0 ∧ wr = w9)
  case atStart => exact ⟨rfl, rfl⟩
  case round =>
    obtain ⟨rfl, rfl⟩ := hrel
    go_upto_region 30 with (fail)
    by_cases hend : Q.1.end_ = 0
    rotate_left
    · have HG2 := Aside0.mk (show getO b = (zeroO, Q.1.end_) by rw [HS.out.1]; unfold finM; rw [if_neg (show ¬ true = false by decide), if_pos hend])
      have d2 : (Q.1.end_ != 0) = true := bne_iff_ne.2 hend
      clear hend
      go_wp2_with (first
        | ((with_reducible refine gate_dst (N := 134) rfl ?_); refine Kd.event_run rfl (v := stV Q.1) (w1 := wr) ?hr ?_; (case hr => exact H9.out.loadR (.tmp 4) rfl rfl))
        | (go_at_call 57; go_loud (refine (ref_end (w := wr) (R := Q.1)).mono ?_; rintro e w40 ⟨rfl, hb40⟩; have H40 := Aside0.mk (H9.out.below hb40); clear hb40))
        | ((with_reducible refine gate_dst (N := 138) rfl ?_); refine Kd.event_run rfl (v := .agg rz) (w1 := w40) ?hr ?_; (case hr => exact exec_rbuild0 rfl))
        | ((with_reducible refine gate_store (ty := 63) (x := .tmp 2) (y := .tmp 138) rfl ?_); go_loud (refine wpList_store_row rfl 63 (.tmp 2) (.tmp 138) rfl w.heap.size rz rfl rfl 63 rz H40.out.z2 (rv_all rz_v).1 rfl (rv_all rz_v).2.2 ?_; refine wpName (fun w5 hw5 => ?_); have H5 := Aside0.mk (show w5.heap[w.heap.size]? = some (.cells rz 63 (0, 0)) ∧ Below w.heap.size w w5 from ⟨by rw [hw5]; exact setRow_heap _ _ _ _ _ _ H40.out.z2, by rw [hw5]; exact below_setRow H40.out.bl (Nat.le_refl _) _⟩); clear hw5)))
      refine bodyPost_ret (results_ct rfl _ _ w.heap.size 63 rz (0, 0) _ rfl H5.out.1 Tryd.underlying63 rfl (by kernel_rfl)) rfl ?_
      exact ⟨rz, none, none, 0, 0, by rw [HG2.out]; rfl, by rw [HG2.out]; exact rz_v, by rw [HG2.out]; exact inR_zero _, H5.out.2⟩
    have d2 : (Q.1.end_ != 0) = false := by rw [hend]; rfl
    obtain ⟨cs2, Y2, E2, yc2, ec2, hvY, hvE, hrv, hrb, hir⟩ := H9.out.fin HS.out.2.1 HS.out.2.2.1 HS.out.2.2.2
    have HB := Aside0.mk (show RV cs2 ⟨1, Q.2, 0, [], [], ByteArray.empty⟩ Y2 E2 yc2 ec2 ∧ RBx wr gn ⟨1, Q.2, 0, [], [], ByteArray.empty⟩ Y2 E2 yc2 ec2 ∧ InR wr ⟨1, Q.2, 0, [], [], ByteArray.empty⟩ Y2 E2 from ⟨hrv, hrb, hir⟩)
    clear hvY hvE hrv hrb hir
    rcases err_or ⟨1, Q.2, 0, [], [], ByteArray.empty⟩ with her | her
    rotate_left
    · have HG2 := Aside0.mk (show getO b = (zeroO, 11) by rw [HS.out.1]; unfold finM; rw [if_neg (show ¬ true = false by decide), if_neg (by simpa using hend), if_pos (show errC _ ≠ 0 by rw [her]; decide)])
      have HER := Aside0.mk her
      clear hend her
      go_wp2_with (first
        | ((with_reducible refine gate_dst (N := 134) rfl ?_); refine Kd.event_run rfl (v := stV Q.1) (w1 := wr) ?hr ?_; (case hr => exact H9.out.loadR (.tmp 4) rfl rfl))
        | (go_at_call 57; go_loud (refine (ref_end (w := wr) (R := Q.1)).mono ?_; rintro e w40 ⟨rfl, hb40⟩; have H40 := Aside0.mk (show RG w w40 w.heap.size gr gn _ _ _ _ ∧ RBx w40 gn ⟨1, Q.2, 0, [], [], ByteArray.empty⟩ Y2 E2 yc2 ec2 ∧ InR w40 ⟨1, Q.2, 0, [], [], ByteArray.empty⟩ Y2 E2 from ⟨H9.out.below hb40, HB.out.2.1.below hb40, HB.out.2.2.below hb40⟩); clear hb40))
        | ((with_reducible refine gate_dst (N := 140) rfl ?_); refine Kd.event_run rfl (v := .agg cs2) (w1 := w40) ?hr ?_; (case hr => exact H40.out.2.1.load HB.out.1 (.tmp 6) rfl rfl))
        | (go_at_call 34; go_loud (have hx := rocheck_calls (w := w40) HB.out.1 H40.out.2.2; rw [HER.out] at hx; refine hx.mono ?_; clear hx; rintro e w41 ⟨rfl, hb41⟩; have H41 := Aside0.mk (H40.out.1.below hb41); clear hb41))
        | ((with_reducible refine gate_dst (N := 143) rfl ?_); refine Kd.event_run rfl (v := .agg rz) (w1 := w41) ?hr ?_; (case hr => exact exec_rbuild0 rfl))
        | ((with_reducible refine gate_store (ty := 63) (x := .tmp 2) (y := .tmp 143) rfl ?_); go_loud (refine wpList_store_row rfl 63 (.tmp 2) (.tmp 143) rfl w.heap.size rz rfl rfl 63 rz H41.out.z2 (rv_all rz_v).1 rfl (rv_all rz_v).2.2 ?_; refine wpName (fun w5 hw5 => ?_); have H5 := Aside0.mk (show w5.heap[w.heap.size]? = some (.cells rz 63 (0, 0)) ∧ Below w.heap.size w w5 from ⟨by rw [hw5]; exact setRow_heap _ _ _ _ _ _ H41.out.z2, by rw [hw5]; exact below_setRow H41.out.bl (Nat.le_refl _) _⟩); clear hw5)))
      refine bodyPost_ret (results_ct rfl _ _ w.heap.size 63 rz (0, 0) _ rfl H5.out.1 Tryd.underlying63 rfl (by kernel_rfl)) rfl ?_
      exact ⟨rz, none, none, 0, 0, by rw [HG2.out]; rfl, by rw [HG2.out]; exact rz_v, by rw [HG2.out]; exact inR_zero _, H5.out.2⟩
    have HG2 := Aside0.mk (show getO b = (⟨1, Q.2, 0, [], [], ByteArray.empty⟩, 0) by rw [HS.out.1]; unfold finM; rw [if_neg (show ¬ true = false by decide), if_neg (by simpa using hend), if_neg (show ¬ errC _ ≠ 0 by rw [her]; decide)])
    have HER := Aside0.mk her
    clear hend her
    go_wp2_with (first
      | ((with_reducible refine gate_dst (N := 134) rfl ?_); refine Kd.event_run rfl (v := stV Q.1) (w1 := wr) ?hr ?_; (case hr => exact H9.out.loadR (.tmp 4) rfl rfl))
      | (go_at_call 57; go_loud (refine (ref_end (w := wr) (R := Q.1)).mono ?_; rintro e w40 ⟨rfl, hb40⟩; have H40 := Aside0.mk (show RG w w40 w.heap.size gr gn _ _ _ _ ∧ RBx w40 gn ⟨1, Q.2, 0, [], [], ByteArray.empty⟩ Y2 E2 yc2 ec2 ∧ InR w40 ⟨1, Q.2, 0, [], [], ByteArray.empty⟩ Y2 E2 from ⟨H9.out.below hb40, HB.out.2.1.below hb40, HB.out.2.2.below hb40⟩); clear hb40))
      | ((with_reducible refine gate_dst (N := 140) rfl ?_); refine Kd.event_run rfl (v := .agg cs2) (w1 := w40) ?hr ?_; (case hr => exact H40.out.2.1.load HB.out.1 (.tmp 6) rfl rfl))
      | (go_at_call 34; go_loud (have hx := rocheck_calls (w := w40) HB.out.1 H40.out.2.2; rw [HER.out] at hx; refine hx.mono ?_; clear hx; rintro e w41 ⟨rfl, hb41⟩; have H41 := Aside0.mk (show RG w w41 w.heap.size gr gn _ _ _ _ ∧ RBx w41 gn ⟨1, Q.2, 0, [], [], ByteArray.empty⟩ Y2 E2 yc2 ec2 from ⟨H40.out.1.below hb41, H40.out.2.1.below hb41⟩); clear hb41))
      | ((with_reducible refine gate_dst (N := 144) rfl ?_); refine Kd.event_run rfl (v := .agg cs2) (w1 := w41) ?hr ?_; (case hr => exact H41.out.2.load HB.out.1 (.tmp 6) rfl rfl))
      | ((with_reducible refine gate_store (ty := 63) (x := .tmp 2) (y := .tmp 144) rfl ?_); go_loud (refine wpList_store_row rfl 63 (.tmp 2) (.tmp 144) rfl w.heap.size cs2 rfl rfl 63 rz H41.out.1.z2 (rv_all HB.out.1).1 (rv_all HB.out.1).2.1 (rv_all HB.out.1).2.2 ?_; refine wpName (fun w5 hw5 => ?_); have hk5 : Kept w41 w5 (fun k => k = w.heap.size) := (by rw [hw5]; exact ⟨by simp, fun i _ hn => setRow_other _ _ _ _ hn⟩); have h1 := H41.out.1.h1; have h2 := H41.out.1.h2; have rY := Kd.R_kept H41.out.1.rY hk5 (fun k hk e => by have : k = w.heap.size := e; omega); have rE := Kd.R_kept H41.out.1.rE hk5 (fun k hk e => by have : k = w.heap.size := e; omega); have H5 := Aside0.mk (And.intro (show w5.heap[w.heap.size]? = some (.cells cs2 63 (0, 0)) by rw [hw5]; exact setRow_heap _ _ _ _ _ _ H41.out.1.z2) (And.intro (show Below w.heap.size w w5 by rw [hw5]; exact below_setRow H41.out.1.bl (Nat.le_refl _) _) (And.intro rY rE))); clear hw5 hk5 rY rE h1 h2)))
    refine bodyPost_ret (results_ct rfl _ _ w.heap.size 63 cs2 (0, 0) _ rfl H5.out.1 Tryd.underlying63 rfl (rv_all HB.out.1).1) rfl ?_
    obtain ⟨Y6, yc6, e6, _, hY6⟩ := Kd.R_reads H5.out.2.2.1
    obtain ⟨E6, ec6, e7, _, hE6⟩ := Kd.R_reads H5.out.2.2.2
    have hcs := HB.out.1
    have hob := HB.out.2.1
    have hob2 := H9.out.ob
    have e8 := Option.some.inj (hob.cells.2.2.2.1.symm.trans hob2.cells.2.2.2.1)
    have e9 := Option.some.inj (hob.cells.2.2.2.2.1.symm.trans hob2.cells.2.2.2.2.1)
    rw [e6] at e8
    rw [e7] at e9
    injection e8 with e8a _ _
    injection e9 with e9a _ _
    have hr := HB.out.2.2
    exact ⟨cs2, Y2, E2, yc2, ec2, by rw [HG2.out]; rfl, by rw [HG2.out]; exact hcs, by rw [HG2.out]; exact ⟨by rw [e8a]; exact hY6, by rw [e9a]; exact hE6, hr.bb, hr.bi, hr.be, hr.k, hr.n, hr.bl, hr.yl, hr.el⟩, H5.out.2.1⟩
set_option maxRecDepth 100000 in
set_option maxHeartbeats 8000000 in
theorem rgt_2 {b : List Int} (hy : Byt b) (he : (⟨b, 0⟩ : RM).uint.1.e = 0) (hk : (⟨b, 0⟩ : RM).uint.2 = 2) : Calls Tryd.prog 37 #[.string (S b)] w (GotR w b) := by
  obtain ⟨R0, hR0⟩ : ∃ R, R = (⟨b, 0⟩ : RM).uint.1 := ⟨_, rfl⟩
  obtain ⟨k, hk0⟩ : ∃ k, k = (⟨b, 0⟩ : RM).uint.2 := ⟨_, rfl⟩
  have hg : getO b = if R0.e ≠ 0 then (zeroO, R0.e) else finM (swM k (IntKind.u8.wrap k) R0) := by unfold getO; rw [hR0, hk0]
  have hby : Byt R0.b := by rw [hR0]; exact RM.uint_byt (R := ⟨b, 0⟩) hy
  have hkb : 0 ≤ k := by rw [hk0]; exact (RM.uint_bd (R := ⟨b, 0⟩) hy).1
  obtain ⟨s, hs⟩ : ∃ s, s = S b := ⟨_, rfl⟩
  have HU := Aside0.mk (And.intro hy (And.intro hR0 (And.intro hk0 hs)))
  rw [← hR0] at he
  rw [← hk0] at hk
  subst hk
  rw [← hs]
  have hsw := swM_ok 2 2 (R := R0) hby
  have HG := Aside0.mk (And.intro (show getO b = finM (swM 2 2 R0) by rw [hg, if_neg (by simpa using he)]; rfl) (And.intro hby hsw))
  have d1 : (R0.e != 0) = false := by rw [he]; rfl
  have hwk : IntKind.u8.wrap (2 : Int) = 2 := rfl
  clear hg hby hy hR0 hk0 hs he hkb hsw
  go_enter Tryd.func37, Tryd.ntmps37
  go_upto_region 2 with (first
    |((with_reducible refine gate_dst (N := 2) rfl ?_); refine Kd.event_run rfl (v := .pointer (some ⟨w.heap.size, 0, none⟩)) (w1 := w.alloc (.cells rz 63)) ?hr ?_; (case hr => first | kernel_rfl | (go_simp; done) | (go_simp; rfl)); go_loud (refine wpName (fun w1 hw1 => ?_); have H1 := Aside0.mk (show w1.heap[w.heap.size]? = some (.cells rz 63 (0, 0)) ∧ Below w.heap.size w w1 from ⟨by rw [hw1]; exact blk_new w _, by rw [hw1]; exact below_alloc (Below.refl _ _) _⟩); clear hw1))
    | (go_at_call 55; go_loud (have hx := ref_uint (w := w1) (R := ⟨b, 0⟩) HU.out.1; rw [← HU.out.2.1, ← HU.out.2.2.1] at hx; rw [HU.out.2.2.2]; refine hx.mono ?_; clear hx; rintro e w2 ⟨rfl, hb2⟩; have H2 := Aside0.mk (show w2.heap[w.heap.size]? = some (.cells rz 63 (0, 0)) ∧ Below w.heap.size w w2 from ⟨(hb2.block _ (blk_lt H1.out.1)).trans H1.out.1, below_step H1.out.2 hb2⟩); clear hb2))
    | ((with_reducible refine gate_dst (N := 4) rfl ?_); refine Kd.event_run rfl (v := .pointer (some ⟨w2.heap.size, 0, none⟩)) (w1 := w2.alloc (.cells #[.string ByteArray.empty, .int .i64 0] 99)) ?hr ?_; (case hr => first | kernel_rfl | (go_simp; done) | (go_simp; rfl)); go_loud (refine wpName (fun w3 hw3 => ?_); obtain ⟨gr, hgr⟩ : ∃ gr, gr = w2.heap.size := ⟨_, rfl⟩; have H3 := Aside0.mk (show w3.heap[gr]? = some (.cells #[.string ByteArray.empty, .int .i64 0] 99 (0, 0)) ∧ Below w2.heap.size w2 w3 ∧ gr = w2.heap.size from ⟨by rw [hw3, hgr]; exact blk_new w2 _, by rw [hw3]; exact below_alloc (Below.refl _ _) _, hgr⟩); rw [← hgr]; clear hw3 hgr))
    | ((with_reducible refine gate_store (ty := 99) (x := .tmp 4) (y := .tmp 16) rfl ?_); go_loud (refine store_event rfl (t := 99) (p := 4) (v := .tmp 16) rfl rfl (w1 := w3.setRow gr #[.string (S R0.b), .int .i64 R0.e]) ?hr ?_; (case hr => exact exec_store_row w3 99 (.tmp 4) (.tmp 16) rfl gr _ rfl rfl 99 _ H3.out.1 (by kernel_rfl) rfl (by simp [Value.oneCell'])); intro w4 hw4; have H4 := Aside0.mk (show w4.heap[gr]? = some (.cells #[.string (S R0.b), .int .i64 R0.e] 99 (0, 0)) ∧ w4.heap[w.heap.size]? = some (.cells rz 63 (0, 0)) ∧ Below w.heap.size w w4 ∧ w.heap.size < gr from ⟨by rw [hw4]; exact setRow_heap _ _ _ _ _ _ H3.out.1, by rw [hw4, setRow_other _ _ _ _ (by rw [H3.out.2.2]; have := blk_lt H2.out.1; omega)]; exact (H3.out.2.1.block _ (blk_lt H2.out.1)).trans H2.out.1, by rw [hw4]; exact below_setRow (below_step H2.out.2 H3.out.2.1) (by rw [H3.out.2.2]; exact H2.out.2.size) _, by rw [H3.out.2.2]; exact blk_lt H2.out.1⟩); clear hw4)))
  have cE : w4.cell? ⟨gr, 1, none⟩ = some (.int .i64 R0.e) := (blk_cell H4.out.1 1).trans rfl
  go_upto_region 7 with (first
    | ((with_reducible refine gate_dst (N := 33) rfl ?_); refine Kd.event_run rfl (v := .agg (ocells 2 0 (.string ByteArray.empty) (.slice none 0 0) (.slice none 0 0) ByteArray.empty).toArray) (w1 := w4) ?hr ?_; (case hr => exact exec_rbuildk (.tmp 32) rfl rfl))
    | ((with_reducible refine gate_dst (N := 6) rfl ?_); refine Kd.event_run rfl (v := .pointer (some ⟨w4.heap.size, 0, none⟩)) (w1 := w4.alloc (.cells rz 63)) ?hr ?_; (case hr => first | kernel_rfl | (go_simp; done) | (go_simp; rfl)); go_loud (refine wpName (fun w5 hw5 => ?_); obtain ⟨gn, hgn⟩ : ∃ z, z = w4.heap.size := ⟨_, rfl⟩; have H5 := Aside0.mk (show w5.heap[gn]? = some (.cells rz 63 (0, 0)) ∧ Below w4.heap.size w4 w5 ∧ gn = w4.heap.size from ⟨by rw [hw5, hgn]; exact blk_new w4 _, by rw [hw5]; exact below_alloc (Below.refl _ _) _, hgn⟩); rw [← hgn]; clear hw5 hgn))
    | ((with_reducible refine gate_store (ty := 63) (x := .tmp 6) (y := .tmp 33) rfl ?_); go_loud (refine wpList_store_row rfl 63 (.tmp 6) (.tmp 33) rfl gn _ rfl rfl 63 rz H5.out.1 rz_info rfl (rcells_all 2 0 ByteArray.empty none none 0 0 0 0 ByteArray.empty) ?_; refine wpName (fun w6 hw6 => ?_); have hb6 : Below w4.heap.size w4 w6 := (by rw [hw6]; exact below_setRow H5.out.2.1 (by rw [H5.out.2.2]; exact Nat.le_refl _) _); have H6 := Aside0.mk (show RG w w6 w.heap.size gr gn R0 ⟨2, [], 0, [], [], ByteArray.empty⟩ (.slice none 0 0) (.slice none 0 0) from ⟨below_step H4.out.2.2.1 hb6, Nat.le_refl _, (hb6.block _ (blk_lt H4.out.2.1)).trans H4.out.2.1, (hb6.block _ (blk_lt H4.out.1)).trans H4.out.1, by rw [hw6]; exact setRow_heap _ _ _ _ _ _ H5.out.1, H4.out.2.2.2, by rw [H5.out.2.2]; exact blk_lt H4.out.1, HG.out.2.1, Kd.R_nil _ _ _ _ _, Kd.R_nil _ _ _ _ _⟩); clear hw6 hb6)))
  clear H1 H2 H3 H4 H5 cE
  obtain ⟨Q1, hQ1⟩ : ∃ Q, Q = R0.uint := ⟨_, rfl⟩
  have hy1 : Byt Q1.1.b := by rw [hQ1]; exact RM.uint_byt HG.out.2.1
  obtain ⟨Q2, hQ2⟩ : ∃ Q, Q = Q1.1.uint := ⟨_, rfl⟩
  have hy2 : Byt Q2.1.b := by rw [hQ2]; exact RM.uint_byt hy1
  have hu2 : 0 ≤ Q2.2 ∧ Q2.2 ≤ 18446744073709551615 := by rw [hQ2]; exact RM.uint_bd hy1
  have hsw : swM 2 2 R0 = if 1000 < Q2.2 then (Q2.1, ⟨2, [], Q1.2, [], [], ByteArray.empty⟩, false) else ((idsGo Q2.2.toNat Q2.1 []).1, ⟨2, [], Q1.2, (idsGo Q2.2.toNat Q2.1 []).2, [], ByteArray.empty⟩, true) := by
    rw [swM_2, ← hQ1]
    unfold idsM
    rw [← hQ2]
    split <;> rfl
  have HQ := Aside0.mk (And.intro hQ1 (And.intro hQ2 (And.intro hy1 hy2)))
  clear hQ1 hQ2 hy1 hy2
  by_cases hbig : 1000 < Q2.2
  · have d2 : decide (Q2.2 > 1000) = true := decide_eq_true hbig
    have HG2 := Aside0.mk (show getO b = (zeroO, 11) by rw [HG.out.1, hsw, if_pos hbig]; rfl)
    clear hsw hbig hu2
    go_wp2_with (first
      | ((with_reducible refine gate_dst (N := 49) rfl ?_); refine Kd.event_run rfl (v := stV R0) (w1 := w6) ?hr ?_; (case hr => exact H6.out.loadR (.tmp 4) rfl rfl))
      | ((with_reducible refine gate_dst (N := 61) rfl ?_); refine Kd.event_run rfl (v := stV Q1.1) (w1 := w9) ?hr ?_; (case hr => exact H9.out.loadR (.tmp 4) rfl rfl))
      | (go_at_call 55; have _t := H9; go_loud (clear _t; have hx := (show Calls Tryd.prog 55 #[stV Q1.1] w9 fun e w' => e = .returned (.tuple #[stV Q2.1, .int .u64 Q2.2]) ∧ Below w9.heap.size w9 w' by rw [HQ.out.2.1]; exact ref_uint HQ.out.2.2.1); refine hx.mono ?_; clear hx; rintro e w10 ⟨rfl, hb10⟩; have H10 := Aside0.mk (H9.out.below hb10); clear hb10))
      | (go_at_call 55; go_loud (have hx := (show Calls Tryd.prog 55 #[stV R0] w6 fun e w' => e = .returned (.tuple #[stV Q1.1, .int .u64 Q1.2]) ∧ Below w6.heap.size w6 w' by rw [HQ.out.1]; exact ref_uint HG.out.2.1); refine hx.mono ?_; clear hx; rintro e w7 ⟨rfl, hb7⟩; have H7 := Aside0.mk (H6.out.below hb7); clear hb7))
      | ((with_reducible refine gate_store (ty := 99) (x := .tmp 4) (y := .tmp 51) rfl ?_); go_loud (refine store_event rfl (t := 99) (p := 4) (v := .tmp 51) rfl rfl (w1 := w7.setRow gr #[.string (S Q1.1.b), .int .i64 Q1.1.e]) ?hr ?_; (case hr => exact H7.out.storeR (.tmp 4) (.tmp 51) rfl rfl rfl); intro w8 hw8; have H8 := Aside0.mk (H7.out.setR (R' := Q1.1) HQ.out.2.2.1); rw [← hw8] at H8; clear hw8))
      | ((with_reducible refine gate_store (ty := 53) (x := .tmp 53) (y := .tmp 52) rfl ?_); go_loud (refine store_event rfl (t := 53) (p := 53) (v := .tmp 52) rfl rfl (w1 := w8.setCell ⟨gn, 2, none⟩ (.int .u64 Q1.2)) ?hr ?_; (case hr => exact H8.out.put 53 2 (.int .u64 Q1.2) (.tmp 53) (.tmp 52) rfl rfl rfl rfl rfl (by kernel_rfl) (by decide)); intro w9 hw9; have H9 := Aside0.mk (H8.out.setN Q1.2); rw [← hw9] at H9; clear hw9))
      | ((with_reducible refine gate_store (ty := 99) (x := .tmp 4) (y := .tmp 63) rfl ?_); go_loud (refine store_event rfl (t := 99) (p := 4) (v := .tmp 63) rfl rfl (w1 := w10.setRow gr #[.string (S Q2.1.b), .int .i64 Q2.1.e]) ?hr ?_; (case hr => exact H10.out.storeR (.tmp 4) (.tmp 63) rfl rfl rfl); intro w11 hw11; have H11 := Aside0.mk (H10.out.setR (R' := Q2.1) HQ.out.2.2.2); rw [← hw11] at H11; clear hw11))
      | ((with_reducible refine gate_dst (N := 79) rfl ?_); refine Kd.event_run rfl (v := .agg rz) (w1 := w11) ?hr ?_; (case hr => exact exec_rbuild0 rfl))
      | ((with_reducible refine gate_store (ty := 63) (x := .tmp 2) (y := .tmp 79) rfl ?_); go_loud (refine wpList_store_row rfl 63 (.tmp 2) (.tmp 79) rfl w.heap.size rz rfl rfl 63 rz H11.out.z2 (rv_all rz_v).1 rfl (rv_all rz_v).2.2 ?_; refine wpName (fun w5 hw5 => ?_); have H5 := Aside0.mk (show w5.heap[w.heap.size]? = some (.cells rz 63 (0, 0)) ∧ Below w.heap.size w w5 from ⟨by rw [hw5]; exact setRow_heap _ _ _ _ _ _ H11.out.z2, by rw [hw5]; exact below_setRow H11.out.bl (Nat.le_refl _) _⟩); clear hw5)))
    refine bodyPost_ret (results_ct rfl _ _ w.heap.size 63 rz (0, 0) _ rfl H5.out.1 Tryd.underlying63 rfl (by kernel_rfl)) rfl ?_
    exact ⟨rz, none, none, 0, 0, by rw [HG2.out]; rfl, by rw [HG2.out]; exact rz_v, by rw [HG2.out]; exact inR_zero _, H5.out.2⟩
  · have d2 : decide (Q2.2 > 1000) = false := decide_eq_false hbig
    obtain ⟨m, hm⟩ : ∃ m : Nat, Q2.2 = m := ⟨Q2.2.toNat, by omega⟩
    rw [if_neg hbig, hm, Int.toNat_natCast] at hsw
    have hm1000 : m ≤ 1000 := by omega
    have HM := Aside0.mk (And.intro hsw hm)
    clear hsw hbig hu2 hm
    go_upto_region 17 with (first
      | ((with_reducible refine gate_dst (N := 49) rfl ?_); refine Kd.event_run rfl (v := stV R0) (w1 := w6) ?hr ?_; (case hr => exact H6.out.loadR (.tmp 4) rfl rfl))
      | ((with_reducible refine gate_dst (N := 61) rfl ?_); refine Kd.event_run rfl (v := stV Q1.1) (w1 := w9) ?hr ?_; (case hr => exact H9.out.loadR (.tmp 4) rfl rfl))
      | (go_at_call 55; have _t := H9; go_loud (clear _t; have hx := (show Calls Tryd.prog 55 #[stV Q1.1] w9 fun e w' => e = .returned (.tuple #[stV Q2.1, .int .u64 Q2.2]) ∧ Below w9.heap.size w9 w' by rw [HQ.out.2.1]; exact ref_uint HQ.out.2.2.1); refine hx.mono ?_; clear hx; rintro e w10 ⟨rfl, hb10⟩; have H10 := Aside0.mk (H9.out.below hb10); clear hb10))
      | (go_at_call 55; go_loud (have hx := (show Calls Tryd.prog 55 #[stV R0] w6 fun e w' => e = .returned (.tuple #[stV Q1.1, .int .u64 Q1.2]) ∧ Below w6.heap.size w6 w' by rw [HQ.out.1]; exact ref_uint HG.out.2.1); refine hx.mono ?_; clear hx; rintro e w7 ⟨rfl, hb7⟩; have H7 := Aside0.mk (H6.out.below hb7); clear hb7))
      | ((with_reducible refine gate_store (ty := 99) (x := .tmp 4) (y := .tmp 51) rfl ?_); go_loud (refine store_event rfl (t := 99) (p := 4) (v := .tmp 51) rfl rfl (w1 := w7.setRow gr #[.string (S Q1.1.b), .int .i64 Q1.1.e]) ?hr ?_; (case hr => exact H7.out.storeR (.tmp 4) (.tmp 51) rfl rfl rfl); intro w8 hw8; have H8 := Aside0.mk (H7.out.setR (R' := Q1.1) HQ.out.2.2.1); rw [← hw8] at H8; clear hw8))
      | ((with_reducible refine gate_store (ty := 53) (x := .tmp 53) (y := .tmp 52) rfl ?_); go_loud (refine store_event rfl (t := 53) (p := 53) (v := .tmp 52) rfl rfl (w1 := w8.setCell ⟨gn, 2, none⟩ (.int .u64 Q1.2)) ?hr ?_; (case hr => exact H8.out.put 53 2 (.int .u64 Q1.2) (.tmp 53) (.tmp 52) rfl rfl rfl rfl rfl (by kernel_rfl) (by decide)); intro w9 hw9; have H9 := Aside0.mk (H8.out.setN Q1.2); rw [← hw9] at H9; clear hw9))
      | ((with_reducible refine gate_store (ty := 99) (x := .tmp 4) (y := .tmp 63) rfl ?_); go_loud (refine store_event rfl (t := 99) (p := 4) (v := .tmp 63) rfl rfl (w1 := w10.setRow gr #[.string (S Q2.1.b), .int .i64 Q2.1.e]) ?hr ?_; (case hr => exact H10.out.storeR (.tmp 4) (.tmp 63) rfl rfl rfl); intro w11 hw11; have H11 := Aside0.mk (H10.out.setR (R' := Q2.1) HQ.out.2.2.2); rw [← hw11] at H11; clear hw11)))
    clear H6 H7 H8 H9 H10
    go_loopg [8, 9, 10] m (fun q v8 v9 v10 wr => ∃ (i : Nat) (R2 : RM) (o : List (List Int)) (vY : Value), v8 = .int .u64 i ∧ q + i = m ∧ Aside0 (RG w wr w.heap.size gr gn R2 ⟨2, [], Q1.2, o, [], ByteArray.empty⟩ vY (.slice none 0 0) ∧ idsGo m Q2.1 [] = idsGo q R2 o ∧ o.length = i))
    case atStart => exact ⟨0, Q2.1, [], _, rfl, rfl, ⟨H11.out, rfl, rfl⟩⟩
    case round =>
      clear H11
      obtain ⟨i, R2, o, vY, rfl, hq, hI⟩ := hrel
      by_cases hlt : i < m
      · have d3 : decide ((i : Int) < Q2.2) = true := decide_eq_true (by have := HM.out.2; omega)
        obtain ⟨q', rfl⟩ : ∃ q', gk = q' + 1 := ⟨gk - 1, by omega⟩
        have HL := Aside0.mk (show (o.length + 1) * 32 ≤ 140737488355328 from by have := hI.out.2.2; omega)
        obtain ⟨Q9, hQ9⟩ : ∃ Q, Q = R2.id := ⟨_, rfl⟩
        have HQ9 := Aside0.mk hQ9
        have HBY := Aside0.mk (show Byt Q9.1.b ∧ Q9.2.length = 32 by rw [hQ9]; exact ⟨(id_byt hI.out.1.by_).1, id_32 R2⟩)
        clear hQ9
        go_wp2_with (first
          | ((with_reducible refine gate_dst (N := 10) rfl ?_); go_loud (refine Kd.event_run rfl (v := .pointer (some ⟨wr.heap.size, 0, none⟩)) (w1 := wr.alloc (.cells zid 74)) ?hr ?_; (case hr => first | kernel_rfl | (go_simp; done) | (go_simp; rfl)); refine wpName (fun w20 hw20 => ?_); obtain ⟨g10, hg10⟩ : ∃ z, z = wr.heap.size := ⟨_, rfl⟩; have hb20 : Below wr.heap.size wr w20 := (by rw [hw20]; exact below_alloc (Below.refl _ _) _); have H20 := Aside0.mk (And.intro (hI.out.1.below hb20) (And.intro (show w20.heap[g10]? = some (.cells zid 74 (0, 0)) by rw [hw20, hg10]; exact blk_new wr _) (show gn < g10 ∧ (∀ k, some k = vY.ownBlock → k < g10) ∧ w.heap.size ≤ g10 from ⟨by rw [hg10]; exact hI.out.1.bound.1, by rw [hg10]; exact hI.out.1.bound.2.1, by rw [hg10]; exact hI.out.1.bl.size⟩))); rw [← hg10]; clear hw20 hg10 hb20))
          | ((with_reducible refine gate_dst (N := 116) rfl ?_); refine Kd.event_run rfl (v := stV R2) (w1 := w20) ?hr ?_; (case hr => exact H20.out.1.loadR (.tmp 4) rfl rfl))
          | (go_at_call 71; go_loud (have hx := ref_id (w := w20) H20.out.1.by_; rw [← HQ9.out] at hx; refine hx.mono ?_; clear hx; rintro e w21 ⟨rfl, hb21⟩; have H21 := Aside0.mk (And.intro (H20.out.1.below hb21) ((hb21.block _ (blk_lt H20.out.2.1)).trans H20.out.2.1)); clear hb21))
          | ((with_reducible refine gate_store (ty := 99) (x := .tmp 4) (y := .tmp 118) rfl ?_); go_loud (refine store_event rfl (t := 99) (p := 4) (v := .tmp 118) rfl rfl (w1 := w21.setRow gr #[.string (S Q9.1.b), .int .i64 Q9.1.e]) ?hr ?_; (case hr => exact H21.out.1.storeR (.tmp 4) (.tmp 118) rfl rfl rfl); intro w22 hw22; have H22 := Aside0.mk (And.intro (H21.out.1.setR (R' := Q9.1) HBY.out.1) (show (w21.setRow gr #[.string (S Q9.1.b), .int .i64 Q9.1.e]).heap[g10]? = some (.cells zid 74 (0, 0)) by rw [setRow_other _ _ _ _ (by have h1 := H20.out.2.2.1; have h2 := H21.out.1.h2; omega)]; exact H21.out.2)); rw [← hw22] at H22; clear hw22))
          | ((with_reducible refine gate_store (ty := 74) (x := .tmp 10) (y := .tmp 119) rfl ?_); go_loud (refine wpList_store_row rfl 74 (.tmp 10) (.tmp 119) rfl g10 (nums .u8 Q9.2).toArray rfl rfl 74 zid H22.out.2 (id_fit HBY.out.2).1 (id_fit HBY.out.2).2.1 (id_fit HBY.out.2).2.2 ?_; refine wpName (fun w23 hw23 => ?_); have hk23 : Kept w22 w23 (fun k => k = g10) := (by rw [hw23]; exact ⟨by simp, fun i _ hn => setRow_other _ _ _ _ hn⟩); have hb23 : Below w.heap.size w w23 := (by rw [hw23]; exact below_setRow H22.out.1.bl H20.out.2.2.2.2 _); have H23 := Aside0.mk (And.intro (H22.out.1.keepG hb23 hk23 H20.out.2.2.1 H20.out.2.2.2.1 (fun k e => by cases e)) (show w23.heap[g10]? = some (.cells (nums .u8 Q9.2).toArray 74 (0, 0)) by rw [hw23]; exact setRow_heap _ _ _ _ _ _ H22.out.2)); have a3 := H23.out.1.ob.cells.2.2.2.1; clear hw23 hk23 hb23))
          | ((with_reducible refine gate_dst (N := 122) rfl ?_); refine Kd.event_run rfl (v := .agg (nums .u8 Q9.2).toArray) (w1 := w23) ?hr ?_; (case hr => exact exec_load_row w23 74 (.tmp 10) rfl g10 rfl 74 _ (0, 0) _ H23.out.2 Tryd.underlying74 rfl (id_fit HBY.out.2).1))
          | ((with_reducible refine gate_dst (N := 123) rfl ?_); refine Kd.event_run rfl (v := .slice (some ⟨w23.heap.size, 0, none⟩) 1 1) (w1 := w23.alloc (.cells (nums .u8 Q9.2).toArray 74)) ?hr ?_; (case hr => exact exec_buildS (.tmp 122) HBY.out.2 rfl rfl))
          | ((with_reducible refine gate_builtin (b := .append) (xs := #[.tmp 121, .tmp 123]) rfl ?_); at_builtin; go_loud ( refine Kd.R_append kId (w0 := w) (W := w23) w.heap.size ?q1 (.tmp 121) (.tmp 123) 54 74 (.agg zid) 32 ?q2 Tryd.underlying54 ?q3 ?q4 (by decide) (by decide) vY o Q9.2 (nums .u8 Q9.2) (fun k => gn < k) (fun _ => False) ?q5 ?q6 ?aM (fun _ hk => hk.elim) ?aF ?aH ?aB ?aS ?aL ?_; (case q1 => rfl); (case q2 => rfl); (case q3 => exact info_kid); (case q4 => rfl); (case q5 => rfl); (case q6 => rfl); (case aH => exact H23.out.1.rY); (case aM => exact (show Kd.M kId _ _ _ Q9.2 (nums .u8 Q9.2) from ⟨rfl, by rw [nums_length]; exact HBY.out.2⟩)); (case aF => exact fun k hk => Nat.lt_of_lt_of_le H23.out.1.bound.1 hk); (case aB => exact H23.out.1.bl); (case aS => exact H23.out.1.bl.size); (case aL => exact HL.out); intro v6 w24 ho6 hb6 hg6 _; obtain ⟨A6, n6, c6, rfl⟩ : ∃ A6 n6 c6, v6 = .slice A6 n6 c6 := (by obtain ⟨A6, c6, e6, _, _⟩ := Kd.R_reads ho6; exact ⟨_, _, _, e6⟩); have H24 := Aside0.mk (H23.out.1.growY rfl hb6 hg6 ho6); clear ho6 hb6 hg6))
          | ((with_reducible refine gate_store (ty := 54) (x := .tmp 125) (y := .tmp 124) rfl ?_); go_loud (refine store_event rfl (t := 54) (p := 125) (v := .tmp 124) rfl rfl (w1 := w24.setCell ⟨gn, 3, none⟩ (.slice A6 n6 c6)) ?hr ?_; (case hr => exact exec_store1 w24 54 (.tmp 125) (.tmp 124) rfl gn 3 _ rfl rfl rfl 63 _ H24.out.1 (by kernel_rfl) (by show 3 < 6; omega) rfl); intro w25 hw25; have H25 := Aside0.mk H24.out.2; rw [← hw25] at H25; clear hw25)))
        go_roundg q'
        case measure => omega
        case rel => exact ⟨i + 1, Q9.1, o ++ [Q9.2], _, by go_num, by omega, ⟨H25.out, by rw [hI.out.2.1, HQ9.out]; rfl, by rw [List.length_append, hI.out.2.2]; rfl⟩⟩
      · have d3 : decide ((i : Int) < Q2.2) = false := decide_eq_false (by have := HM.out.2; omega)
        obtain rfl : gk = 0 := by omega
        have hend : idsGo m Q2.1 [] = (R2, o) := hI.out.2.1
        have HS := Aside0.mk (show getO b = finM (R2, ⟨2, [], Q1.2, o, [], ByteArray.empty⟩, true) ∧ SwO (R2, (⟨2, [], Q1.2, o, [], ByteArray.empty⟩ : OM), true) ∧ (0 ≤ (2 : Int) ∧ (2 : Int) ≤ 255) ∧ ([] : List Int).length ≤ 9223372036854775807 from ⟨by rw [HG.out.1, HM.out.1, hend], by have h := HG.out.2.2.1; rw [HM.out.1, hend] at h; exact h, by decide, by decide⟩)
        clear hend
        go_upto_region 30 with (fail)
        by_cases hend : R2.end_ = 0
        rotate_left
        · have HG2 := Aside0.mk (show getO b = (zeroO, R2.end_) by rw [HS.out.1]; unfold finM; rw [if_neg (show ¬ true = false by decide), if_pos hend])
          have d2 : (R2.end_ != 0) = true := bne_iff_ne.2 hend
          clear hend
          go_wp2_with (first
            | ((with_reducible refine gate_dst (N := 134) rfl ?_); refine Kd.event_run rfl (v := stV R2) (w1 := wr) ?hr ?_; (case hr => exact hI.out.1.loadR (.tmp 4) rfl rfl))
            | (go_at_call 57; go_loud (refine (ref_end (w := wr) (R := R2)).mono ?_; rintro e w40 ⟨rfl, hb40⟩; have H40 := Aside0.mk (hI.out.1.below hb40); clear hb40))
            | ((with_reducible refine gate_dst (N := 138) rfl ?_); refine Kd.event_run rfl (v := .agg rz) (w1 := w40) ?hr ?_; (case hr => exact exec_rbuild0 rfl))
            | ((with_reducible refine gate_store (ty := 63) (x := .tmp 2) (y := .tmp 138) rfl ?_); go_loud (refine wpList_store_row rfl 63 (.tmp 2) (.tmp 138) rfl w.heap.size rz rfl rfl 63 rz H40.out.z2 (rv_all rz_v).1 rfl (rv_all rz_v).2.2 ?_; refine wpName (fun w5 hw5 => ?_); have H5 := Aside0.mk (show w5.heap[w.heap.size]? = some (.cells rz 63 (0, 0)) ∧ Below w.heap.size w w5 from ⟨by rw [hw5]; exact setRow_heap _ _ _ _ _ _ H40.out.z2, by rw [hw5]; exact below_setRow H40.out.bl (Nat.le_refl _) _⟩); clear hw5)))
          refine bodyPost_ret (results_ct rfl _ _ w.heap.size 63 rz (0, 0) _ rfl H5.out.1 Tryd.underlying63 rfl (by kernel_rfl)) rfl ?_
          exact ⟨rz, none, none, 0, 0, by rw [HG2.out]; rfl, by rw [HG2.out]; exact rz_v, by rw [HG2.out]; exact inR_zero _, H5.out.2⟩
        have d2 : (R2.end_ != 0) = false := by rw [hend]; rfl
        obtain ⟨cs2, Y2, E2, yc2, ec2, hvY, hvE, hrv, hrb, hir⟩ := hI.out.1.fin HS.out.2.1 HS.out.2.2.1 HS.out.2.2.2
        have HB := Aside0.mk (show RV cs2 ⟨2, [], Q1.2, o, [], ByteArray.empty⟩ Y2 E2 yc2 ec2 ∧ RBx wr gn ⟨2, [], Q1.2, o, [], ByteArray.empty⟩ Y2 E2 yc2 ec2 ∧ InR wr ⟨2, [], Q1.2, o, [], ByteArray.empty⟩ Y2 E2 from ⟨hrv, hrb, hir⟩)
        clear hvY hvE hrv hrb hir
        rcases err_or ⟨2, [], Q1.2, o, [], ByteArray.empty⟩ with her | her
        rotate_left
        · have HG2 := Aside0.mk (show getO b = (zeroO, 11) by rw [HS.out.1]; unfold finM; rw [if_neg (show ¬ true = false by decide), if_neg (by simpa using hend), if_pos (show errC _ ≠ 0 by rw [her]; decide)])
          have HER := Aside0.mk her
          clear hend her
          go_wp2_with (first
            | ((with_reducible refine gate_dst (N := 134) rfl ?_); refine Kd.event_run rfl (v := stV R2) (w1 := wr) ?hr ?_; (case hr => exact hI.out.1.loadR (.tmp 4) rfl rfl))
            | (go_at_call 57; go_loud (refine (ref_end (w := wr) (R := R2)).mono ?_; rintro e w40 ⟨rfl, hb40⟩; have H40 := Aside0.mk (show RG w w40 w.heap.size gr gn _ _ _ _ ∧ RBx w40 gn ⟨2, [], Q1.2, o, [], ByteArray.empty⟩ Y2 E2 yc2 ec2 ∧ InR w40 ⟨2, [], Q1.2, o, [], ByteArray.empty⟩ Y2 E2 from ⟨hI.out.1.below hb40, HB.out.2.1.below hb40, HB.out.2.2.below hb40⟩); clear hb40))
            | ((with_reducible refine gate_dst (N := 140) rfl ?_); refine Kd.event_run rfl (v := .agg cs2) (w1 := w40) ?hr ?_; (case hr => exact H40.out.2.1.load HB.out.1 (.tmp 6) rfl rfl))
            | (go_at_call 34; go_loud (have hx := rocheck_calls (w := w40) HB.out.1 H40.out.2.2; rw [HER.out] at hx; refine hx.mono ?_; clear hx; rintro e w41 ⟨rfl, hb41⟩; have H41 := Aside0.mk (H40.out.1.below hb41); clear hb41))
            | ((with_reducible refine gate_dst (N := 143) rfl ?_); refine Kd.event_run rfl (v := .agg rz) (w1 := w41) ?hr ?_; (case hr => exact exec_rbuild0 rfl))
            | ((with_reducible refine gate_store (ty := 63) (x := .tmp 2) (y := .tmp 143) rfl ?_); go_loud (refine wpList_store_row rfl 63 (.tmp 2) (.tmp 143) rfl w.heap.size rz rfl rfl 63 rz H41.out.z2 (rv_all rz_v).1 rfl (rv_all rz_v).2.2 ?_; refine wpName (fun w5 hw5 => ?_); have H5 := Aside0.mk (show w5.heap[w.heap.size]? = some (.cells rz 63 (0, 0)) ∧ Below w.heap.size w w5 from ⟨by rw [hw5]; exact setRow_heap _ _ _ _ _ _ H41.out.z2, by rw [hw5]; exact below_setRow H41.out.bl (Nat.le_refl _) _⟩); clear hw5)))
          refine bodyPost_ret (results_ct rfl _ _ w.heap.size 63 rz (0, 0) _ rfl H5.out.1 Tryd.underlying63 rfl (by kernel_rfl)) rfl ?_
          exact ⟨rz, none, none, 0, 0, by rw [HG2.out]; rfl, by rw [HG2.out]; exact rz_v, by rw [HG2.out]; exact inR_zero _, H5.out.2⟩
        have HG2 := Aside0.mk (show getO b = (⟨2, [], Q1.2, o, [], ByteArray.empty⟩, 0) by rw [HS.out.1]; unfold finM; rw [if_neg (show ¬ true = false by decide), if_neg (by simpa using hend), if_neg (show ¬ errC _ ≠ 0 by rw [her]; decide)])
        have HER := Aside0.mk her
        clear hend her
        go_wp2_with (first
          | ((with_reducible refine gate_dst (N := 134) rfl ?_); refine Kd.event_run rfl (v := stV R2) (w1 := wr) ?hr ?_; (case hr => exact hI.out.1.loadR (.tmp 4) rfl rfl))
          | (go_at_call 57; go_loud (refine (ref_end (w := wr) (R := R2)).mono ?_; rintro e w40 ⟨rfl, hb40⟩; have H40 := Aside0.mk (show RG w w40 w.heap.size gr gn _ _ _ _ ∧ RBx w40 gn ⟨2, [], Q1.2, o, [], ByteArray.empty⟩ Y2 E2 yc2 ec2 ∧ InR w40 ⟨2, [], Q1.2, o, [], ByteArray.empty⟩ Y2 E2 from ⟨hI.out.1.below hb40, HB.out.2.1.below hb40, HB.out.2.2.below hb40⟩); clear hb40))
          | ((with_reducible refine gate_dst (N := 140) rfl ?_); refine Kd.event_run rfl (v := .agg cs2) (w1 := w40) ?hr ?_; (case hr => exact H40.out.2.1.load HB.out.1 (.tmp 6) rfl rfl))
          | (go_at_call 34; go_loud (have hx := rocheck_calls (w := w40) HB.out.1 H40.out.2.2; rw [HER.out] at hx; refine hx.mono ?_; clear hx; rintro e w41 ⟨rfl, hb41⟩; have H41 := Aside0.mk (show RG w w41 w.heap.size gr gn _ _ _ _ ∧ RBx w41 gn ⟨2, [], Q1.2, o, [], ByteArray.empty⟩ Y2 E2 yc2 ec2 from ⟨H40.out.1.below hb41, H40.out.2.1.below hb41⟩); clear hb41))
          | ((with_reducible refine gate_dst (N := 144) rfl ?_); refine Kd.event_run rfl (v := .agg cs2) (w1 := w41) ?hr ?_; (case hr => exact H41.out.2.load HB.out.1 (.tmp 6) rfl rfl))
          | ((with_reducible refine gate_store (ty := 63) (x := .tmp 2) (y := .tmp 144) rfl ?_); go_loud (refine wpList_store_row rfl 63 (.tmp 2) (.tmp 144) rfl w.heap.size cs2 rfl rfl 63 rz H41.out.1.z2 (rv_all HB.out.1).1 (rv_all HB.out.1).2.1 (rv_all HB.out.1).2.2 ?_; refine wpName (fun w5 hw5 => ?_); have hk5 : Kept w41 w5 (fun k => k = w.heap.size) := (by rw [hw5]; exact ⟨by simp, fun i _ hn => setRow_other _ _ _ _ hn⟩); have h1 := H41.out.1.h1; have h2 := H41.out.1.h2; have rY := Kd.R_kept H41.out.1.rY hk5 (fun k hk e => by have : k = w.heap.size := e; omega); have rE := Kd.R_kept H41.out.1.rE hk5 (fun k hk e => by have : k = w.heap.size := e; omega); have H5 := Aside0.mk (And.intro (show w5.heap[w.heap.size]? = some (.cells cs2 63 (0, 0)) by rw [hw5]; exact setRow_heap _ _ _ _ _ _ H41.out.1.z2) (And.intro (show Below w.heap.size w w5 by rw [hw5]; exact below_setRow H41.out.1.bl (Nat.le_refl _) _) (And.intro rY rE))); clear hw5 hk5 rY rE h1 h2)))
        refine bodyPost_ret (results_ct rfl _ _ w.heap.size 63 cs2 (0, 0) _ rfl H5.out.1 Tryd.underlying63 rfl (rv_all HB.out.1).1) rfl ?_
        obtain ⟨Y6, yc6, e6, _, hY6⟩ := Kd.R_reads H5.out.2.2.1
        obtain ⟨E6, ec6, e7, _, hE6⟩ := Kd.R_reads H5.out.2.2.2
        have hcs := HB.out.1
        have hob := HB.out.2.1
        have hob2 := hI.out.1.ob
        have e8 := Option.some.inj (hob.cells.2.2.2.1.symm.trans hob2.cells.2.2.2.1)
        have e9 := Option.some.inj (hob.cells.2.2.2.2.1.symm.trans hob2.cells.2.2.2.2.1)
        rw [e6] at e8
        rw [e7] at e9
        injection e8 with e8a _ _
        injection e9 with e9a _ _
        have hr := HB.out.2.2
        exact ⟨cs2, Y2, E2, yc2, ec2, by rw [HG2.out]; rfl, by rw [HG2.out]; exact hcs, by rw [HG2.out]; exact ⟨by rw [e8a]; exact hY6, by rw [e9a]; exact hE6, hr.bb, hr.bi, hr.be, hr.k, hr.n, hr.bl, hr.yl, hr.el⟩, H5.out.2.1⟩
set_option maxRecDepth 100000 in
set_option maxHeartbeats 8000000 in
theorem rgt_3 {b : List Int} (hy : Byt b) (he : (⟨b, 0⟩ : RM).uint.1.e = 0) (hk : (⟨b, 0⟩ : RM).uint.2 = 3) : Calls Tryd.prog 37 #[.string (S b)] w (GotR w b) := by
  obtain ⟨R0, hR0⟩ : ∃ R, R = (⟨b, 0⟩ : RM).uint.1 := ⟨_, rfl⟩
  obtain ⟨k, hk0⟩ : ∃ k, k = (⟨b, 0⟩ : RM).uint.2 := ⟨_, rfl⟩
  have hg : getO b = if R0.e ≠ 0 then (zeroO, R0.e) else finM (swM k (IntKind.u8.wrap k) R0) := by unfold getO; rw [hR0, hk0]
  have hby : Byt R0.b := by rw [hR0]; exact RM.uint_byt (R := ⟨b, 0⟩) hy
  have hkb : 0 ≤ k := by rw [hk0]; exact (RM.uint_bd (R := ⟨b, 0⟩) hy).1
  obtain ⟨s, hs⟩ : ∃ s, s = S b := ⟨_, rfl⟩
  have HU := Aside0.mk (And.intro hy (And.intro hR0 (And.intro hk0 hs)))
  rw [← hR0] at he
  rw [← hk0] at hk
  subst hk
  rw [← hs]
  have hsw := swM_ok 3 3 (R := R0) hby
  have HG := Aside0.mk (And.intro (show getO b = finM (swM 3 3 R0) by rw [hg, if_neg (by simpa using he)]; rfl) (And.intro hby hsw))
  have d1 : (R0.e != 0) = false := by rw [he]; rfl
  have hwk : IntKind.u8.wrap (3 : Int) = 3 := rfl
  clear hg hby hy hR0 hk0 hs he hkb hsw
  go_enter Tryd.func37, Tryd.ntmps37
  go_upto_region 2 with (first
    |((with_reducible refine gate_dst (N := 2) rfl ?_); refine Kd.event_run rfl (v := .pointer (some ⟨w.heap.size, 0, none⟩)) (w1 := w.alloc (.cells rz 63)) ?hr ?_; (case hr => first | kernel_rfl | (go_simp; done) | (go_simp; rfl)); go_loud (refine wpName (fun w1 hw1 => ?_); have H1 := Aside0.mk (show w1.heap[w.heap.size]? = some (.cells rz 63 (0, 0)) ∧ Below w.heap.size w w1 from ⟨by rw [hw1]; exact blk_new w _, by rw [hw1]; exact below_alloc (Below.refl _ _) _⟩); clear hw1))
    | (go_at_call 55; go_loud (have hx := ref_uint (w := w1) (R := ⟨b, 0⟩) HU.out.1; rw [← HU.out.2.1, ← HU.out.2.2.1] at hx; rw [HU.out.2.2.2]; refine hx.mono ?_; clear hx; rintro e w2 ⟨rfl, hb2⟩; have H2 := Aside0.mk (show w2.heap[w.heap.size]? = some (.cells rz 63 (0, 0)) ∧ Below w.heap.size w w2 from ⟨(hb2.block _ (blk_lt H1.out.1)).trans H1.out.1, below_step H1.out.2 hb2⟩); clear hb2))
    | ((with_reducible refine gate_dst (N := 4) rfl ?_); refine Kd.event_run rfl (v := .pointer (some ⟨w2.heap.size, 0, none⟩)) (w1 := w2.alloc (.cells #[.string ByteArray.empty, .int .i64 0] 99)) ?hr ?_; (case hr => first | kernel_rfl | (go_simp; done) | (go_simp; rfl)); go_loud (refine wpName (fun w3 hw3 => ?_); obtain ⟨gr, hgr⟩ : ∃ gr, gr = w2.heap.size := ⟨_, rfl⟩; have H3 := Aside0.mk (show w3.heap[gr]? = some (.cells #[.string ByteArray.empty, .int .i64 0] 99 (0, 0)) ∧ Below w2.heap.size w2 w3 ∧ gr = w2.heap.size from ⟨by rw [hw3, hgr]; exact blk_new w2 _, by rw [hw3]; exact below_alloc (Below.refl _ _) _, hgr⟩); rw [← hgr]; clear hw3 hgr))
    | ((with_reducible refine gate_store (ty := 99) (x := .tmp 4) (y := .tmp 16) rfl ?_); go_loud (refine store_event rfl (t := 99) (p := 4) (v := .tmp 16) rfl rfl (w1 := w3.setRow gr #[.string (S R0.b), .int .i64 R0.e]) ?hr ?_; (case hr => exact exec_store_row w3 99 (.tmp 4) (.tmp 16) rfl gr _ rfl rfl 99 _ H3.out.1 (by kernel_rfl) rfl (by simp [Value.oneCell'])); intro w4 hw4; have H4 := Aside0.mk (show w4.heap[gr]? = some (.cells #[.string (S R0.b), .int .i64 R0.e] 99 (0, 0)) ∧ w4.heap[w.heap.size]? = some (.cells rz 63 (0, 0)) ∧ Below w.heap.size w w4 ∧ w.heap.size < gr from ⟨by rw [hw4]; exact setRow_heap _ _ _ _ _ _ H3.out.1, by rw [hw4, setRow_other _ _ _ _ (by rw [H3.out.2.2]; have := blk_lt H2.out.1; omega)]; exact (H3.out.2.1.block _ (blk_lt H2.out.1)).trans H2.out.1, by rw [hw4]; exact below_setRow (below_step H2.out.2 H3.out.2.1) (by rw [H3.out.2.2]; exact H2.out.2.size) _, by rw [H3.out.2.2]; exact blk_lt H2.out.1⟩); clear hw4)))
  have cE : w4.cell? ⟨gr, 1, none⟩ = some (.int .i64 R0.e) := (blk_cell H4.out.1 1).trans rfl
  go_upto_region 7 with (first
    | ((with_reducible refine gate_dst (N := 33) rfl ?_); refine Kd.event_run rfl (v := .agg (ocells 3 0 (.string ByteArray.empty) (.slice none 0 0) (.slice none 0 0) ByteArray.empty).toArray) (w1 := w4) ?hr ?_; (case hr => exact exec_rbuildk (.tmp 32) rfl rfl))
    | ((with_reducible refine gate_dst (N := 6) rfl ?_); refine Kd.event_run rfl (v := .pointer (some ⟨w4.heap.size, 0, none⟩)) (w1 := w4.alloc (.cells rz 63)) ?hr ?_; (case hr => first | kernel_rfl | (go_simp; done) | (go_simp; rfl)); go_loud (refine wpName (fun w5 hw5 => ?_); obtain ⟨gn, hgn⟩ : ∃ z, z = w4.heap.size := ⟨_, rfl⟩; have H5 := Aside0.mk (show w5.heap[gn]? = some (.cells rz 63 (0, 0)) ∧ Below w4.heap.size w4 w5 ∧ gn = w4.heap.size from ⟨by rw [hw5, hgn]; exact blk_new w4 _, by rw [hw5]; exact below_alloc (Below.refl _ _) _, hgn⟩); rw [← hgn]; clear hw5 hgn))
    | ((with_reducible refine gate_store (ty := 63) (x := .tmp 6) (y := .tmp 33) rfl ?_); go_loud (refine wpList_store_row rfl 63 (.tmp 6) (.tmp 33) rfl gn _ rfl rfl 63 rz H5.out.1 rz_info rfl (rcells_all 3 0 ByteArray.empty none none 0 0 0 0 ByteArray.empty) ?_; refine wpName (fun w6 hw6 => ?_); have hb6 : Below w4.heap.size w4 w6 := (by rw [hw6]; exact below_setRow H5.out.2.1 (by rw [H5.out.2.2]; exact Nat.le_refl _) _); have H6 := Aside0.mk (show RG w w6 w.heap.size gr gn R0 ⟨3, [], 0, [], [], ByteArray.empty⟩ (.slice none 0 0) (.slice none 0 0) from ⟨below_step H4.out.2.2.1 hb6, Nat.le_refl _, (hb6.block _ (blk_lt H4.out.2.1)).trans H4.out.2.1, (hb6.block _ (blk_lt H4.out.1)).trans H4.out.1, by rw [hw6]; exact setRow_heap _ _ _ _ _ _ H5.out.1, H4.out.2.2.2, by rw [H5.out.2.2]; exact blk_lt H4.out.1, HG.out.2.1, Kd.R_nil _ _ _ _ _, Kd.R_nil _ _ _ _ _⟩); clear hw6 hb6)))
  clear H1 H2 H3 H4 H5 cE
  obtain ⟨Q2, hQ2⟩ : ∃ Q, Q = R0.uint := ⟨_, rfl⟩
  have hy2 : Byt Q2.1.b := by rw [hQ2]; exact RM.uint_byt HG.out.2.1
  have hu2 : 0 ≤ Q2.2 ∧ Q2.2 ≤ 18446744073709551615 := by rw [hQ2]; exact RM.uint_bd HG.out.2.1
  have hsw : swM 3 3 R0 = if 500 < Q2.2 then (Q2.1, ⟨3, [], 0, [], [], ByteArray.empty⟩, false) else ((entGo Q2.2.toNat Q2.1 []).1, ⟨3, [], 0, [], (entGo Q2.2.toNat Q2.1 []).2, ByteArray.empty⟩, true) := by
    rw [swM_3]
    unfold entM
    rw [← hQ2]
    split <;> rfl
  have HQ := Aside0.mk (And.intro hQ2 hy2)
  clear hQ2 hy2
  by_cases hbig : 500 < Q2.2
  · have d2 : decide (Q2.2 > 500) = true := decide_eq_true hbig
    have HG2 := Aside0.mk (show getO b = (zeroO, 11) by rw [HG.out.1, hsw, if_pos hbig]; rfl)
    clear hsw hbig hu2
    go_wp2_with (first
      | ((with_reducible refine gate_dst (N := 61) rfl ?_); refine Kd.event_run rfl (v := stV R0) (w1 := w6) ?hr ?_; (case hr => exact H6.out.loadR (.tmp 4) rfl rfl))
      | (go_at_call 55; go_loud (have hx := (show Calls Tryd.prog 55 #[stV R0] w6 fun e w' => e = .returned (.tuple #[stV Q2.1, .int .u64 Q2.2]) ∧ Below w6.heap.size w6 w' by rw [HQ.out.1]; exact ref_uint HG.out.2.1); refine hx.mono ?_; clear hx; rintro e w10 ⟨rfl, hb10⟩; have H10 := Aside0.mk (H6.out.below hb10); clear hb10))
      | ((with_reducible refine gate_store (ty := 99) (x := .tmp 4) (y := .tmp 63) rfl ?_); go_loud (refine store_event rfl (t := 99) (p := 4) (v := .tmp 63) rfl rfl (w1 := w10.setRow gr #[.string (S Q2.1.b), .int .i64 Q2.1.e]) ?hr ?_; (case hr => exact H10.out.storeR (.tmp 4) (.tmp 63) rfl rfl rfl); intro w11 hw11; have H11 := Aside0.mk (H10.out.setR (R' := Q2.1) HQ.out.2); rw [← hw11] at H11; clear hw11))
      | ((with_reducible refine gate_dst (N := 79) rfl ?_); refine Kd.event_run rfl (v := .agg rz) (w1 := w11) ?hr ?_; (case hr => exact exec_rbuild0 rfl))
      | ((with_reducible refine gate_store (ty := 63) (x := .tmp 2) (y := .tmp 79) rfl ?_); go_loud (refine wpList_store_row rfl 63 (.tmp 2) (.tmp 79) rfl w.heap.size rz rfl rfl 63 rz H11.out.z2 (rv_all rz_v).1 rfl (rv_all rz_v).2.2 ?_; refine wpName (fun w5 hw5 => ?_); have H5 := Aside0.mk (show w5.heap[w.heap.size]? = some (.cells rz 63 (0, 0)) ∧ Below w.heap.size w w5 from ⟨by rw [hw5]; exact setRow_heap _ _ _ _ _ _ H11.out.z2, by rw [hw5]; exact below_setRow H11.out.bl (Nat.le_refl _) _⟩); clear hw5)))
    refine bodyPost_ret (results_ct rfl _ _ w.heap.size 63 rz (0, 0) _ rfl H5.out.1 Tryd.underlying63 rfl (by kernel_rfl)) rfl ?_
    exact ⟨rz, none, none, 0, 0, by rw [HG2.out]; rfl, by rw [HG2.out]; exact rz_v, by rw [HG2.out]; exact inR_zero _, H5.out.2⟩
  · have d2 : decide (Q2.2 > 500) = false := decide_eq_false hbig
    obtain ⟨m, hm⟩ : ∃ m : Nat, Q2.2 = m := ⟨Q2.2.toNat, by omega⟩
    rw [if_neg hbig, hm, Int.toNat_natCast] at hsw
    have hm500 : m ≤ 500 := by omega
    have HM := Aside0.mk (And.intro hsw hm)
    clear hsw hbig hu2 hm
    go_upto_region 17 with (first
      | ((with_reducible refine gate_dst (N := 61) rfl ?_); refine Kd.event_run rfl (v := stV R0) (w1 := w6) ?hr ?_; (case hr => exact H6.out.loadR (.tmp 4) rfl rfl))
      | (go_at_call 55; go_loud (have hx := (show Calls Tryd.prog 55 #[stV R0] w6 fun e w' => e = .returned (.tuple #[stV Q2.1, .int .u64 Q2.2]) ∧ Below w6.heap.size w6 w' by rw [HQ.out.1]; exact ref_uint HG.out.2.1); refine hx.mono ?_; clear hx; rintro e w10 ⟨rfl, hb10⟩; have H10 := Aside0.mk (H6.out.below hb10); clear hb10))
      | ((with_reducible refine gate_store (ty := 99) (x := .tmp 4) (y := .tmp 63) rfl ?_); go_loud (refine store_event rfl (t := 99) (p := 4) (v := .tmp 63) rfl rfl (w1 := w10.setRow gr #[.string (S Q2.1.b), .int .i64 Q2.1.e]) ?hr ?_; (case hr => exact H10.out.storeR (.tmp 4) (.tmp 63) rfl rfl rfl); intro w11 hw11; have H11 := Aside0.mk (H10.out.setR (R' := Q2.1) HQ.out.2); rw [← hw11] at H11; clear hw11)))
    clear H6 H10
    go_loopg [8, 9, 10] m (fun q v8 v9 v10 wr => ∃ (i : Nat) (R2 : RM) (o : List EM) (vE : Value), v8 = .int .u64 i ∧ q + i = m ∧ Aside0 (RG w wr w.heap.size gr gn R2 ⟨3, [], 0, [], o, ByteArray.empty⟩ (.slice none 0 0) vE ∧ entGo m Q2.1 [] = entGo q R2 o ∧ o.length = i))
    case atStart => exact ⟨0, Q2.1, [], _, rfl, rfl, ⟨H11.out, rfl, rfl⟩⟩
    case round =>
      clear H11
      obtain ⟨i, R2, o, vE, rfl, hq, hI⟩ := hrel
      by_cases hlt : i < m
      · have d3 : decide ((i : Int) < Q2.2) = true := decide_eq_true (by have := HM.out.2; omega)
        obtain ⟨q', rfl⟩ : ∃ q', gk = q' + 1 := ⟨gk - 1, by omega⟩
        have HL := Aside0.mk (show (o.length + 1) * 56 ≤ 140737488355328 from by have := hI.out.2.2; omega)
        obtain ⟨P1, hP1⟩ : ∃ Q, Q = R2.bytes 255 := ⟨_, rfl⟩
        have hp1 : Byt P1.1.b := by rw [hP1]; exact (RM.bytes_byt hI.out.1.by_ 255).1
        obtain ⟨P2, hP2⟩ : ∃ Q, Q = P1.1.bool := ⟨_, rfl⟩
        have hp2 : Byt P2.1.b := by rw [hP2]; exact bool_byt hp1
        obtain ⟨P3, hP3⟩ : ∃ Q, Q = P2.1.id := ⟨_, rfl⟩
        have hp3 : Byt P3.1.b ∧ P3.2.length = 32 := by rw [hP3]; exact ⟨(id_byt hp2).1, id_32 _⟩
        obtain ⟨nm, hnm⟩ : ∃ z, z = S P1.2 := ⟨_, rfl⟩
        have HP := Aside0.mk (And.intro (show stepE R2 = P3.1 ∧ oneE R2 = ⟨nm, P2.2, P3.2⟩ from ⟨by rw [hP3, hP2, hP1]; rfl, by rw [hnm, hP3, hP2, hP1]; rfl⟩) (And.intro hP1 (And.intro hP2 (And.intro hP3 hnm))))
        have HY := Aside0.mk (And.intro hp1 (And.intro hp2 hp3))
        clear hP1 hP2 hP3 hnm hp1 hp2 hp3
        go_wp2_with (first
          | ((with_reducible refine gate_dst (N := 9) rfl ?_); go_loud (refine Kd.event_run rfl (v := .pointer (some ⟨wr.heap.size, 0, none⟩)) (w1 := wr.alloc (.cells ez34 111)) ?hr ?_; (case hr => first | kernel_rfl | (go_simp; done) | (go_simp; rfl)); refine wpName (fun w20 hw20 => ?_); obtain ⟨g9, hg9⟩ : ∃ z, z = wr.heap.size := ⟨_, rfl⟩; have hb20 : Below wr.heap.size wr w20 := (by rw [hw20]; exact below_alloc (Below.refl _ _) _); have HG9 := Aside0.mk (show gn < g9 ∧ (∀ k, some k = vE.ownBlock → k < g9) ∧ w.heap.size ≤ g9 from ⟨by rw [hg9]; exact hI.out.1.bound.1, by rw [hg9]; exact hI.out.1.bound.2.2, by rw [hg9]; exact hI.out.1.bl.size⟩); have H20 := Aside0.mk (And.intro (hI.out.1.below hb20) (show w20.heap[g9]? = some (.cells (ecells ⟨ByteArray.empty, false, List.replicate 32 0⟩).toArray 111 (0, 0)) by rw [hw20, hg9]; exact blk_new wr _)); rw [← hg9]; clear hw20 hg9 hb20))
          | ((with_reducible refine gate_dst (N := 92) rfl ?_); refine Kd.event_run rfl (v := stV R2) (w1 := w20) ?hr ?_; (case hr => exact H20.out.1.loadR (.tmp 4) rfl rfl))
          | ((with_reducible refine gate_dst (N := 98) rfl ?_); refine Kd.event_run rfl (v := stV P1.1) (w1 := w23) ?hr ?_; (case hr => exact H23.out.1.loadR (.tmp 4) rfl rfl))
          | ((with_reducible refine gate_dst (N := 104) rfl ?_); refine Kd.event_run rfl (v := stV P2.1) (w1 := w26) ?hr ?_; (case hr => exact H26.out.1.loadR (.tmp 4) rfl rfl))
          | (go_at_call 56; go_loud (have hx := (show Calls Tryd.prog 56 #[stV R2, .int .i64 255] w20 fun e w' => e = .returned (.tuple #[stV P1.1, .string nm]) ∧ Below w20.heap.size w20 w' by rw [HP.out.2.2.2.2, HP.out.2.1]; exact ref_bytes H20.out.1.by_ 255 (by decide)); refine hx.mono ?_; clear hx; rintro e w21 ⟨rfl, hb21⟩; have H21 := Aside0.mk (And.intro (H20.out.1.below hb21) ((hb21.block _ (blk_lt H20.out.2)).trans H20.out.2)); clear hb21))
          | (go_at_call 70; go_loud (have hx := (show Calls Tryd.prog 70 #[stV P1.1] w23 fun e w' => e = .returned (.tuple #[stV P2.1, .bool P2.2]) ∧ Below w23.heap.size w23 w' by rw [HP.out.2.2.1, ← rbool_eq]; exact ref_bool HY.out.1); refine hx.mono ?_; clear hx; rintro e w24 ⟨rfl, hb24⟩; have H24 := Aside0.mk (And.intro (H23.out.1.below hb24) ((hb24.block _ (blk_lt H23.out.2)).trans H23.out.2)); clear hb24))
          | (go_at_call 71; go_loud (have hx := (show Calls Tryd.prog 71 #[stV P2.1] w26 fun e w' => e = .returned (.tuple #[stV P3.1, .agg (nums .u8 P3.2).toArray]) ∧ Below w26.heap.size w26 w' by rw [HP.out.2.2.2.1]; exact ref_id HY.out.2.1); refine hx.mono ?_; clear hx; rintro e w27 ⟨rfl, hb27⟩; have H27 := Aside0.mk (And.intro (H26.out.1.below hb27) ((hb27.block _ (blk_lt H26.out.2)).trans H26.out.2)); clear hb27))
          | ((with_reducible refine gate_store (ty := 99) (x := .tmp 4) (y := .tmp 94) rfl ?_); go_loud (refine store_event rfl (t := 99) (p := 4) (v := .tmp 94) rfl rfl (w1 := w21.setRow gr #[.string (S P1.1.b), .int .i64 P1.1.e]) ?hr ?_; (case hr => exact H21.out.1.storeR (.tmp 4) (.tmp 94) rfl rfl rfl); intro w22 hw22; have H22 := Aside0.mk (And.intro (H21.out.1.setR (R' := P1.1) HY.out.1) ((show (w21.setRow gr #[.string (S P1.1.b), .int .i64 P1.1.e]).heap[g9]? = w21.heap[g9]? by rw [setRow_other _ _ _ _ (by have h1 := HG9.out.1; have h2 := H21.out.1.h2; omega)]).trans H21.out.2)); rw [← hw22] at H22; clear hw22))
          | ((with_reducible refine gate_store (ty := 99) (x := .tmp 4) (y := .tmp 100) rfl ?_); go_loud (refine store_event rfl (t := 99) (p := 4) (v := .tmp 100) rfl rfl (w1 := w24.setRow gr #[.string (S P2.1.b), .int .i64 P2.1.e]) ?hr ?_; (case hr => exact H24.out.1.storeR (.tmp 4) (.tmp 100) rfl rfl rfl); intro w25 hw25; have H25 := Aside0.mk (And.intro (H24.out.1.setR (R' := P2.1) HY.out.2.1) ((show (w24.setRow gr #[.string (S P2.1.b), .int .i64 P2.1.e]).heap[g9]? = w24.heap[g9]? by rw [setRow_other _ _ _ _ (by have h1 := HG9.out.1; have h2 := H24.out.1.h2; omega)]).trans H24.out.2)); rw [← hw25] at H25; clear hw25))
          | ((with_reducible refine gate_store (ty := 99) (x := .tmp 4) (y := .tmp 106) rfl ?_); go_loud (refine store_event rfl (t := 99) (p := 4) (v := .tmp 106) rfl rfl (w1 := w27.setRow gr #[.string (S P3.1.b), .int .i64 P3.1.e]) ?hr ?_; (case hr => exact H27.out.1.storeR (.tmp 4) (.tmp 106) rfl rfl rfl); intro w28 hw28; have H28 := Aside0.mk (And.intro (H27.out.1.setR (R' := P3.1) HY.out.2.2.1) ((show (w27.setRow gr #[.string (S P3.1.b), .int .i64 P3.1.e]).heap[g9]? = w27.heap[g9]? by rw [setRow_other _ _ _ _ (by have h1 := HG9.out.1; have h2 := H27.out.1.h2; omega)]).trans H27.out.2)); rw [← hw28] at H28; clear hw28))
          | ((with_reducible refine gate_store (ty := 9) (x := .tmp 96) (y := .tmp 95) rfl ?_); go_loud (refine store_event rfl (t := 9) (p := 96) (v := .tmp 95) rfl rfl (w1 := w22.setCell ⟨g9, 0, none⟩ (.string nm)) ?hr ?_; (case hr => exact exec_store1 w22 9 (.tmp 96) (.tmp 95) rfl g9 0 _ rfl rfl rfl 111 _ H22.out.2 (by kernel_rfl) (by show 0 < 34; omega) rfl); intro w23 hw23; have hk23 : Kept w22 w23 (fun k => k = g9) := (by rw [hw23]; exact (Kept.refl w22 (fun k => k = g9)).setCell (p := ⟨g9, 0, none⟩) (.inl rfl) _); have hb23 : Below w.heap.size w w23 := (by rw [hw23]; exact below_set H22.out.1.bl HG9.out.2.2); have H23 := Aside0.mk (And.intro (H22.out.1.keepG hb23 hk23 HG9.out.1 (fun k e => by cases e) HG9.out.2.1) (show w23.heap[g9]? = some (.cells (ecells ⟨nm, false, List.replicate 32 0⟩).toArray 111 (0, 0)) by rw [hw23]; exact (blk_set H22.out.2 0 (.string nm)).trans rfl)); clear hw23 hk23 hb23))
          | ((with_reducible refine gate_store (ty := 4) (x := .tmp 102) (y := .tmp 101) rfl ?_); go_loud (refine store_event rfl (t := 4) (p := 102) (v := .tmp 101) rfl rfl (w1 := w25.setCell ⟨g9, 1, none⟩ (.bool P2.2)) ?hr ?_; (case hr => exact exec_store1 w25 4 (.tmp 102) (.tmp 101) rfl g9 1 _ rfl rfl rfl 111 _ H25.out.2 (by kernel_rfl) (by show 1 < 34; omega) rfl); intro w26 hw26; have hk26 : Kept w25 w26 (fun k => k = g9) := (by rw [hw26]; exact (Kept.refl w25 (fun k => k = g9)).setCell (p := ⟨g9, 1, none⟩) (.inl rfl) _); have hb26 : Below w.heap.size w w26 := (by rw [hw26]; exact below_set H25.out.1.bl HG9.out.2.2); have H26 := Aside0.mk (And.intro (H25.out.1.keepG hb26 hk26 HG9.out.1 (fun k e => by cases e) HG9.out.2.1) (show w26.heap[g9]? = some (.cells (ecells ⟨nm, P2.2, List.replicate 32 0⟩).toArray 111 (0, 0)) by rw [hw26]; exact (blk_set H25.out.2 1 (.bool P2.2)).trans rfl)); clear hw26 hk26 hb26))
          | ((with_reducible refine gate_store (ty := 74) (x := .tmp 108) (y := .tmp 107) rfl ?_); go_loud (refine store_event rfl (t := 74) (p := 108) (v := .tmp 107) rfl rfl (w1 := w28.setCells g9 2 (nums .u8 P3.2)) ?hr ?_; (case hr => exact exec_store_mid w28 74 (.tmp 108) (.tmp 107) rfl g9 2 (nums .u8 P3.2) rfl rfl 111 _ H28.out.2 (by rw [nums_length, HY.out.2.2.2]; kernel_rfl) (by rw [nums_length, HY.out.2.2.2]; show 34 ≤ 34; omega) (nums_one _)); intro w29 hw29; have hk29 : Kept w28 w29 (fun k => k = g9) := (by rw [hw29]; exact ⟨Nat.le_of_eq (sets_size _ _ _).symm, fun i _ hn => sets_other _ _ _ _ hn⟩); have hb29 : Below w.heap.size w w29 := (by rw [hw29]; exact below_sets HG9.out.2.2 _ _ _ H28.out.1.bl); have H29 := Aside0.mk (And.intro (H28.out.1.keepG hb29 hk29 HG9.out.1 (fun k e => by cases e) HG9.out.2.1) (show w29.heap[g9]? = some (.cells (ecells ⟨nm, P2.2, P3.2⟩).toArray 111 (0, 0)) by rw [hw29]; exact ent_sets H28.out.2 HY.out.2.2.2)); have a4 := H29.out.1.ob.cells.2.2.2.2.1; clear hw29 hk29 hb29))
          | ((with_reducible refine gate_dst (N := 111) rfl ?_); refine Kd.event_run rfl (v := .agg (ecells ⟨nm, P2.2, P3.2⟩).toArray) (w1 := w29) ?hr ?_; (case hr => exact exec_load_row w29 111 (.tmp 9) rfl g9 rfl 111 _ (0, 0) _ H29.out.2 Tryd.underlying111 rfl (by rw [List.size_toArray, ecells_len HY.out.2.2.2]; kernel_rfl)))
          | ((with_reducible refine gate_dst (N := 112) rfl ?_); refine Kd.event_run rfl (v := .slice (some ⟨w29.heap.size, 0, none⟩) 1 1) (w1 := w29.alloc (.cells (ecells ⟨nm, P2.2, P3.2⟩).toArray 111)) ?hr ?_; (case hr => exact exec_buildN (.tmp 111) HY.out.2.2.2 rfl rfl))
          | ((with_reducible refine gate_builtin (b := .append) (xs := #[.tmp 110, .tmp 112]) rfl ?_); at_builtin; go_loud ( refine Kd.R_append kE (w0 := w) (W := w29) w.heap.size ?q1 (.tmp 110) (.tmp 112) 61 111 (.agg ez34) 56 ?q2 Tryd.underlying61 ?q3 ?q4 (by decide) (by decide) vE o ⟨nm, P2.2, P3.2⟩ (ecells ⟨nm, P2.2, P3.2⟩) (fun k => gn < k) (fun _ => False) ?q5 ?q6 ?aM (fun _ hk => hk.elim) ?aF ?aH ?aB ?aS ?aL ?_; (case q1 => rfl); (case q2 => rfl); (case q3 => exact info_kn); (case q4 => rfl); (case q5 => rfl); (case q6 => rfl); (case aH => exact H29.out.1.rE); (case aM => exact (show Kd.M kE _ _ _ ⟨nm, P2.2, P3.2⟩ (ecells ⟨nm, P2.2, P3.2⟩) from ⟨rfl, ecells_len HY.out.2.2.2⟩)); (case aF => exact fun k hk => Nat.lt_of_lt_of_le H29.out.1.bound.1 hk); (case aB => exact H29.out.1.bl); (case aS => exact H29.out.1.bl.size); (case aL => exact HL.out); intro v6 w30 ho6 hb6 hg6 _; obtain ⟨A6, n6, c6, rfl⟩ : ∃ A6 n6 c6, v6 = .slice A6 n6 c6 := (by obtain ⟨A6, c6, e6, _, _⟩ := Kd.R_reads ho6; exact ⟨_, _, _, e6⟩); have H30 := Aside0.mk (H29.out.1.growE rfl hb6 hg6 ho6); clear ho6 hb6 hg6))
          | ((with_reducible refine gate_store (ty := 61) (x := .tmp 114) (y := .tmp 113) rfl ?_); go_loud (refine store_event rfl (t := 61) (p := 114) (v := .tmp 113) rfl rfl (w1 := w30.setCell ⟨gn, 4, none⟩ (.slice A6 n6 c6)) ?hr ?_; (case hr => exact exec_store1 w30 61 (.tmp 114) (.tmp 113) rfl gn 4 _ rfl rfl rfl 63 _ H30.out.1 (by kernel_rfl) (by show 4 < 6; omega) rfl); intro w31 hw31; have H31 := Aside0.mk H30.out.2; rw [← hw31] at H31; clear hw31)))
        go_roundg q'
        case measure => omega
        case rel => exact ⟨i + 1, P3.1, o ++ [⟨nm, P2.2, P3.2⟩], _, by go_num, by omega, ⟨H31.out, by rw [hI.out.2.1]; show entGo q' (stepE R2) (o ++ [oneE R2]) = _; rw [HP.out.1.1, HP.out.1.2], by rw [List.length_append, hI.out.2.2]; rfl⟩⟩
      · have d3 : decide ((i : Int) < Q2.2) = false := decide_eq_false (by have := HM.out.2; omega)
        obtain rfl : gk = 0 := by omega
        have hend : entGo m Q2.1 [] = (R2, o) := hI.out.2.1
        have HS := Aside0.mk (show getO b = finM (R2, ⟨3, [], 0, [], o, ByteArray.empty⟩, true) ∧ SwO (R2, (⟨3, [], 0, [], o, ByteArray.empty⟩ : OM), true) ∧ (0 ≤ (3 : Int) ∧ (3 : Int) ≤ 255) ∧ ([] : List Int).length ≤ 9223372036854775807 from ⟨by rw [HG.out.1, HM.out.1, hend], by have h := HG.out.2.2.1; rw [HM.out.1, hend] at h; exact h, by decide, by decide⟩)
        clear hend
        go_upto_region 30 with (fail)
        by_cases hend : R2.end_ = 0
        rotate_left
        · have HG2 := Aside0.mk (show getO b = (zeroO, R2.end_) by rw [HS.out.1]; unfold finM; rw [if_neg (show ¬ true = false by decide), if_pos hend])
          have d2 : (R2.end_ != 0) = true := bne_iff_ne.2 hend
          clear hend
          go_wp2_with (first
            | ((with_reducible refine gate_dst (N := 134) rfl ?_); refine Kd.event_run rfl (v := stV R2) (w1 := wr) ?hr ?_; (case hr => exact hI.out.1.loadR (.tmp 4) rfl rfl))
            | (go_at_call 57; go_loud (refine (ref_end (w := wr) (R := R2)).mono ?_; rintro e w40 ⟨rfl, hb40⟩; have H40 := Aside0.mk (hI.out.1.below hb40); clear hb40))
            | ((with_reducible refine gate_dst (N := 138) rfl ?_); refine Kd.event_run rfl (v := .agg rz) (w1 := w40) ?hr ?_; (case hr => exact exec_rbuild0 rfl))
            | ((with_reducible refine gate_store (ty := 63) (x := .tmp 2) (y := .tmp 138) rfl ?_); go_loud (refine wpList_store_row rfl 63 (.tmp 2) (.tmp 138) rfl w.heap.size rz rfl rfl 63 rz H40.out.z2 (rv_all rz_v).1 rfl (rv_all rz_v).2.2 ?_; refine wpName (fun w5 hw5 => ?_); have H5 := Aside0.mk (show w5.heap[w.heap.size]? = some (.cells rz 63 (0, 0)) ∧ Below w.heap.size w w5 from ⟨by rw [hw5]; exact setRow_heap _ _ _ _ _ _ H40.out.z2, by rw [hw5]; exact below_setRow H40.out.bl (Nat.le_refl _) _⟩); clear hw5)))
          refine bodyPost_ret (results_ct rfl _ _ w.heap.size 63 rz (0, 0) _ rfl H5.out.1 Tryd.underlying63 rfl (by kernel_rfl)) rfl ?_
          exact ⟨rz, none, none, 0, 0, by rw [HG2.out]; rfl, by rw [HG2.out]; exact rz_v, by rw [HG2.out]; exact inR_zero _, H5.out.2⟩
        have d2 : (R2.end_ != 0) = false := by rw [hend]; rfl
        obtain ⟨cs2, Y2, E2, yc2, ec2, hvY, hvE, hrv, hrb, hir⟩ := hI.out.1.fin HS.out.2.1 HS.out.2.2.1 HS.out.2.2.2
        have HB := Aside0.mk (show RV cs2 ⟨3, [], 0, [], o, ByteArray.empty⟩ Y2 E2 yc2 ec2 ∧ RBx wr gn ⟨3, [], 0, [], o, ByteArray.empty⟩ Y2 E2 yc2 ec2 ∧ InR wr ⟨3, [], 0, [], o, ByteArray.empty⟩ Y2 E2 from ⟨hrv, hrb, hir⟩)
        clear hvY hvE hrv hrb hir
        rcases err_or ⟨3, [], 0, [], o, ByteArray.empty⟩ with her | her
        rotate_left
        · have HG2 := Aside0.mk (show getO b = (zeroO, 11) by rw [HS.out.1]; unfold finM; rw [if_neg (show ¬ true = false by decide), if_neg (by simpa using hend), if_pos (show errC _ ≠ 0 by rw [her]; decide)])
          have HER := Aside0.mk her
          clear hend her
          go_wp2_with (first
            | ((with_reducible refine gate_dst (N := 134) rfl ?_); refine Kd.event_run rfl (v := stV R2) (w1 := wr) ?hr ?_; (case hr => exact hI.out.1.loadR (.tmp 4) rfl rfl))
            | (go_at_call 57; go_loud (refine (ref_end (w := wr) (R := R2)).mono ?_; rintro e w40 ⟨rfl, hb40⟩; have H40 := Aside0.mk (show RG w w40 w.heap.size gr gn _ _ _ _ ∧ RBx w40 gn ⟨3, [], 0, [], o, ByteArray.empty⟩ Y2 E2 yc2 ec2 ∧ InR w40 ⟨3, [], 0, [], o, ByteArray.empty⟩ Y2 E2 from ⟨hI.out.1.below hb40, HB.out.2.1.below hb40, HB.out.2.2.below hb40⟩); clear hb40))
            | ((with_reducible refine gate_dst (N := 140) rfl ?_); refine Kd.event_run rfl (v := .agg cs2) (w1 := w40) ?hr ?_; (case hr => exact H40.out.2.1.load HB.out.1 (.tmp 6) rfl rfl))
            | (go_at_call 34; go_loud (have hx := rocheck_calls (w := w40) HB.out.1 H40.out.2.2; rw [HER.out] at hx; refine hx.mono ?_; clear hx; rintro e w41 ⟨rfl, hb41⟩; have H41 := Aside0.mk (H40.out.1.below hb41); clear hb41))
            | ((with_reducible refine gate_dst (N := 143) rfl ?_); refine Kd.event_run rfl (v := .agg rz) (w1 := w41) ?hr ?_; (case hr => exact exec_rbuild0 rfl))
            | ((with_reducible refine gate_store (ty := 63) (x := .tmp 2) (y := .tmp 143) rfl ?_); go_loud (refine wpList_store_row rfl 63 (.tmp 2) (.tmp 143) rfl w.heap.size rz rfl rfl 63 rz H41.out.z2 (rv_all rz_v).1 rfl (rv_all rz_v).2.2 ?_; refine wpName (fun w5 hw5 => ?_); have H5 := Aside0.mk (show w5.heap[w.heap.size]? = some (.cells rz 63 (0, 0)) ∧ Below w.heap.size w w5 from ⟨by rw [hw5]; exact setRow_heap _ _ _ _ _ _ H41.out.z2, by rw [hw5]; exact below_setRow H41.out.bl (Nat.le_refl _) _⟩); clear hw5)))
          refine bodyPost_ret (results_ct rfl _ _ w.heap.size 63 rz (0, 0) _ rfl H5.out.1 Tryd.underlying63 rfl (by kernel_rfl)) rfl ?_
          exact ⟨rz, none, none, 0, 0, by rw [HG2.out]; rfl, by rw [HG2.out]; exact rz_v, by rw [HG2.out]; exact inR_zero _, H5.out.2⟩
        have HG2 := Aside0.mk (show getO b = (⟨3, [], 0, [], o, ByteArray.empty⟩, 0) by rw [HS.out.1]; unfold finM; rw [if_neg (show ¬ true = false by decide), if_neg (by simpa using hend), if_neg (show ¬ errC _ ≠ 0 by rw [her]; decide)])
        have HER := Aside0.mk her
        clear hend her
        go_wp2_with (first
          | ((with_reducible refine gate_dst (N := 134) rfl ?_); refine Kd.event_run rfl (v := stV R2) (w1 := wr) ?hr ?_; (case hr => exact hI.out.1.loadR (.tmp 4) rfl rfl))
          | (go_at_call 57; go_loud (refine (ref_end (w := wr) (R := R2)).mono ?_; rintro e w40 ⟨rfl, hb40⟩; have H40 := Aside0.mk (show RG w w40 w.heap.size gr gn _ _ _ _ ∧ RBx w40 gn ⟨3, [], 0, [], o, ByteArray.empty⟩ Y2 E2 yc2 ec2 ∧ InR w40 ⟨3, [], 0, [], o, ByteArray.empty⟩ Y2 E2 from ⟨hI.out.1.below hb40, HB.out.2.1.below hb40, HB.out.2.2.below hb40⟩); clear hb40))
          | ((with_reducible refine gate_dst (N := 140) rfl ?_); refine Kd.event_run rfl (v := .agg cs2) (w1 := w40) ?hr ?_; (case hr => exact H40.out.2.1.load HB.out.1 (.tmp 6) rfl rfl))
          | (go_at_call 34; go_loud (have hx := rocheck_calls (w := w40) HB.out.1 H40.out.2.2; rw [HER.out] at hx; refine hx.mono ?_; clear hx; rintro e w41 ⟨rfl, hb41⟩; have H41 := Aside0.mk (show RG w w41 w.heap.size gr gn _ _ _ _ ∧ RBx w41 gn ⟨3, [], 0, [], o, ByteArray.empty⟩ Y2 E2 yc2 ec2 from ⟨H40.out.1.below hb41, H40.out.2.1.below hb41⟩); clear hb41))
          | ((with_reducible refine gate_dst (N := 144) rfl ?_); refine Kd.event_run rfl (v := .agg cs2) (w1 := w41) ?hr ?_; (case hr => exact H41.out.2.load HB.out.1 (.tmp 6) rfl rfl))
          | ((with_reducible refine gate_store (ty := 63) (x := .tmp 2) (y := .tmp 144) rfl ?_); go_loud (refine wpList_store_row rfl 63 (.tmp 2) (.tmp 144) rfl w.heap.size cs2 rfl rfl 63 rz H41.out.1.z2 (rv_all HB.out.1).1 (rv_all HB.out.1).2.1 (rv_all HB.out.1).2.2 ?_; refine wpName (fun w5 hw5 => ?_); have hk5 : Kept w41 w5 (fun k => k = w.heap.size) := (by rw [hw5]; exact ⟨by simp, fun i _ hn => setRow_other _ _ _ _ hn⟩); have h1 := H41.out.1.h1; have h2 := H41.out.1.h2; have rY := Kd.R_kept H41.out.1.rY hk5 (fun k hk e => by have : k = w.heap.size := e; omega); have rE := Kd.R_kept H41.out.1.rE hk5 (fun k hk e => by have : k = w.heap.size := e; omega); have H5 := Aside0.mk (And.intro (show w5.heap[w.heap.size]? = some (.cells cs2 63 (0, 0)) by rw [hw5]; exact setRow_heap _ _ _ _ _ _ H41.out.1.z2) (And.intro (show Below w.heap.size w w5 by rw [hw5]; exact below_setRow H41.out.1.bl (Nat.le_refl _) _) (And.intro rY rE))); clear hw5 hk5 rY rE h1 h2)))
        refine bodyPost_ret (results_ct rfl _ _ w.heap.size 63 cs2 (0, 0) _ rfl H5.out.1 Tryd.underlying63 rfl (rv_all HB.out.1).1) rfl ?_
        obtain ⟨Y6, yc6, e6, _, hY6⟩ := Kd.R_reads H5.out.2.2.1
        obtain ⟨E6, ec6, e7, _, hE6⟩ := Kd.R_reads H5.out.2.2.2
        have hcs := HB.out.1
        have hob := HB.out.2.1
        have hob2 := hI.out.1.ob
        have e8 := Option.some.inj (hob.cells.2.2.2.1.symm.trans hob2.cells.2.2.2.1)
        have e9 := Option.some.inj (hob.cells.2.2.2.2.1.symm.trans hob2.cells.2.2.2.2.1)
        rw [e6] at e8
        rw [e7] at e9
        injection e8 with e8a _ _
        injection e9 with e9a _ _
        have hr := HB.out.2.2
        exact ⟨cs2, Y2, E2, yc2, ec2, by rw [HG2.out]; rfl, by rw [HG2.out]; exact hcs, by rw [HG2.out]; exact ⟨by rw [e8a]; exact hY6, by rw [e9a]; exact hE6, hr.bb, hr.bi, hr.be, hr.k, hr.n, hr.bl, hr.yl, hr.el⟩, H5.out.2.1⟩
set_option maxRecDepth 100000 in
set_option maxHeartbeats 8000000 in
theorem rgt_4 {b : List Int} (hy : Byt b) (he : (⟨b, 0⟩ : RM).uint.1.e = 0) (hk : (⟨b, 0⟩ : RM).uint.2 = 4) : Calls Tryd.prog 37 #[.string (S b)] w (GotR w b) := by
  obtain ⟨R0, hR0⟩ : ∃ R, R = (⟨b, 0⟩ : RM).uint.1 := ⟨_, rfl⟩
  obtain ⟨k, hk0⟩ : ∃ k, k = (⟨b, 0⟩ : RM).uint.2 := ⟨_, rfl⟩
  have hg : getO b = if R0.e ≠ 0 then (zeroO, R0.e) else finM (swM k (IntKind.u8.wrap k) R0) := by unfold getO; rw [hR0, hk0]
  have hby : Byt R0.b := by rw [hR0]; exact RM.uint_byt (R := ⟨b, 0⟩) hy
  have hkb : 0 ≤ k := by rw [hk0]; exact (RM.uint_bd (R := ⟨b, 0⟩) hy).1
  obtain ⟨s, hs⟩ : ∃ s, s = S b := ⟨_, rfl⟩
  have HU := Aside0.mk (And.intro hy (And.intro hR0 (And.intro hk0 hs)))
  rw [← hR0] at he
  rw [← hk0] at hk
  subst hk
  rw [← hs]
  have hsw := swM_ok 4 4 (R := R0) hby
  have HG := Aside0.mk (And.intro (show getO b = finM (swM 4 4 R0) by rw [hg, if_neg (by simpa using he)]; rfl) (And.intro hby hsw))
  have d1 : (R0.e != 0) = false := by rw [he]; rfl
  have hwk : IntKind.u8.wrap (4 : Int) = 4 := rfl
  clear hg hby hy hR0 hk0 hs he hkb hsw
  go_enter Tryd.func37, Tryd.ntmps37
  go_upto_region 2 with (first
    |((with_reducible refine gate_dst (N := 2) rfl ?_); refine Kd.event_run rfl (v := .pointer (some ⟨w.heap.size, 0, none⟩)) (w1 := w.alloc (.cells rz 63)) ?hr ?_; (case hr => first | kernel_rfl | (go_simp; done) | (go_simp; rfl)); go_loud (refine wpName (fun w1 hw1 => ?_); have H1 := Aside0.mk (show w1.heap[w.heap.size]? = some (.cells rz 63 (0, 0)) ∧ Below w.heap.size w w1 from ⟨by rw [hw1]; exact blk_new w _, by rw [hw1]; exact below_alloc (Below.refl _ _) _⟩); clear hw1))
    | (go_at_call 55; go_loud (have hx := ref_uint (w := w1) (R := ⟨b, 0⟩) HU.out.1; rw [← HU.out.2.1, ← HU.out.2.2.1] at hx; rw [HU.out.2.2.2]; refine hx.mono ?_; clear hx; rintro e w2 ⟨rfl, hb2⟩; have H2 := Aside0.mk (show w2.heap[w.heap.size]? = some (.cells rz 63 (0, 0)) ∧ Below w.heap.size w w2 from ⟨(hb2.block _ (blk_lt H1.out.1)).trans H1.out.1, below_step H1.out.2 hb2⟩); clear hb2))
    | ((with_reducible refine gate_dst (N := 4) rfl ?_); refine Kd.event_run rfl (v := .pointer (some ⟨w2.heap.size, 0, none⟩)) (w1 := w2.alloc (.cells #[.string ByteArray.empty, .int .i64 0] 99)) ?hr ?_; (case hr => first | kernel_rfl | (go_simp; done) | (go_simp; rfl)); go_loud (refine wpName (fun w3 hw3 => ?_); obtain ⟨gr, hgr⟩ : ∃ gr, gr = w2.heap.size := ⟨_, rfl⟩; have H3 := Aside0.mk (show w3.heap[gr]? = some (.cells #[.string ByteArray.empty, .int .i64 0] 99 (0, 0)) ∧ Below w2.heap.size w2 w3 ∧ gr = w2.heap.size from ⟨by rw [hw3, hgr]; exact blk_new w2 _, by rw [hw3]; exact below_alloc (Below.refl _ _) _, hgr⟩); rw [← hgr]; clear hw3 hgr))
    | ((with_reducible refine gate_store (ty := 99) (x := .tmp 4) (y := .tmp 16) rfl ?_); go_loud (refine store_event rfl (t := 99) (p := 4) (v := .tmp 16) rfl rfl (w1 := w3.setRow gr #[.string (S R0.b), .int .i64 R0.e]) ?hr ?_; (case hr => exact exec_store_row w3 99 (.tmp 4) (.tmp 16) rfl gr _ rfl rfl 99 _ H3.out.1 (by kernel_rfl) rfl (by simp [Value.oneCell'])); intro w4 hw4; have H4 := Aside0.mk (show w4.heap[gr]? = some (.cells #[.string (S R0.b), .int .i64 R0.e] 99 (0, 0)) ∧ w4.heap[w.heap.size]? = some (.cells rz 63 (0, 0)) ∧ Below w.heap.size w w4 ∧ w.heap.size < gr from ⟨by rw [hw4]; exact setRow_heap _ _ _ _ _ _ H3.out.1, by rw [hw4, setRow_other _ _ _ _ (by rw [H3.out.2.2]; have := blk_lt H2.out.1; omega)]; exact (H3.out.2.1.block _ (blk_lt H2.out.1)).trans H2.out.1, by rw [hw4]; exact below_setRow (below_step H2.out.2 H3.out.2.1) (by rw [H3.out.2.2]; exact H2.out.2.size) _, by rw [H3.out.2.2]; exact blk_lt H2.out.1⟩); clear hw4)))
  have cE : w4.cell? ⟨gr, 1, none⟩ = some (.int .i64 R0.e) := (blk_cell H4.out.1 1).trans rfl
  go_upto_region 7 with (first
    | ((with_reducible refine gate_dst (N := 33) rfl ?_); refine Kd.event_run rfl (v := .agg (ocells 4 0 (.string ByteArray.empty) (.slice none 0 0) (.slice none 0 0) ByteArray.empty).toArray) (w1 := w4) ?hr ?_; (case hr => exact exec_rbuildk (.tmp 32) rfl rfl))
    | ((with_reducible refine gate_dst (N := 6) rfl ?_); refine Kd.event_run rfl (v := .pointer (some ⟨w4.heap.size, 0, none⟩)) (w1 := w4.alloc (.cells rz 63)) ?hr ?_; (case hr => first | kernel_rfl | (go_simp; done) | (go_simp; rfl)); go_loud (refine wpName (fun w5 hw5 => ?_); obtain ⟨gn, hgn⟩ : ∃ z, z = w4.heap.size := ⟨_, rfl⟩; have H5 := Aside0.mk (show w5.heap[gn]? = some (.cells rz 63 (0, 0)) ∧ Below w4.heap.size w4 w5 ∧ gn = w4.heap.size from ⟨by rw [hw5, hgn]; exact blk_new w4 _, by rw [hw5]; exact below_alloc (Below.refl _ _) _, hgn⟩); rw [← hgn]; clear hw5 hgn))
    | ((with_reducible refine gate_store (ty := 63) (x := .tmp 6) (y := .tmp 33) rfl ?_); go_loud (refine wpList_store_row rfl 63 (.tmp 6) (.tmp 33) rfl gn _ rfl rfl 63 rz H5.out.1 rz_info rfl (rcells_all 4 0 ByteArray.empty none none 0 0 0 0 ByteArray.empty) ?_; refine wpName (fun w6 hw6 => ?_); have hb6 : Below w4.heap.size w4 w6 := (by rw [hw6]; exact below_setRow H5.out.2.1 (by rw [H5.out.2.2]; exact Nat.le_refl _) _); have H6 := Aside0.mk (show RG w w6 w.heap.size gr gn R0 ⟨4, [], 0, [], [], ByteArray.empty⟩ (.slice none 0 0) (.slice none 0 0) from ⟨below_step H4.out.2.2.1 hb6, Nat.le_refl _, (hb6.block _ (blk_lt H4.out.2.1)).trans H4.out.2.1, (hb6.block _ (blk_lt H4.out.1)).trans H4.out.1, by rw [hw6]; exact setRow_heap _ _ _ _ _ _ H5.out.1, H4.out.2.2.2, by rw [H5.out.2.2]; exact blk_lt H4.out.1, HG.out.2.1, Kd.R_nil _ _ _ _ _, Kd.R_nil _ _ _ _ _⟩); clear hw6 hb6)))
  clear H1 H2 H3 H4 H5 cE
  obtain ⟨Q1, hQ1⟩ : ∃ Q, Q = R0.uint := ⟨_, rfl⟩
  have hy1 : Byt Q1.1.b := by rw [hQ1]; exact RM.uint_byt HG.out.2.1
  have hsw : swM 4 4 R0 = (((idsGo 1 Q1.1 []).1.bytes 255).1, ⟨4, [], Q1.2, (idsGo 1 Q1.1 []).2, [], S ((idsGo 1 Q1.1 []).1.bytes 255).2⟩, true) := by rw [swM_4, ← hQ1]; rfl
  have HQ := Aside0.mk (And.intro hQ1 (And.intro hsw (And.intro hy1 hy1)))
  clear hQ1 hy1 hsw
  go_upto_region 17 with (first
    | ((with_reducible refine gate_dst (N := 49) rfl ?_); refine Kd.event_run rfl (v := stV R0) (w1 := w6) ?hr ?_; (case hr => exact H6.out.loadR (.tmp 4) rfl rfl))
    | (go_at_call 55; go_loud (have hx := (show Calls Tryd.prog 55 #[stV R0] w6 fun e w' => e = .returned (.tuple #[stV Q1.1, .int .u64 Q1.2]) ∧ Below w6.heap.size w6 w' by rw [HQ.out.1]; exact ref_uint HG.out.2.1); refine hx.mono ?_; clear hx; rintro e w7 ⟨rfl, hb7⟩; have H7 := Aside0.mk (H6.out.below hb7); clear hb7))
    | ((with_reducible refine gate_store (ty := 99) (x := .tmp 4) (y := .tmp 51) rfl ?_); go_loud (refine store_event rfl (t := 99) (p := 4) (v := .tmp 51) rfl rfl (w1 := w7.setRow gr #[.string (S Q1.1.b), .int .i64 Q1.1.e]) ?hr ?_; (case hr => exact H7.out.storeR (.tmp 4) (.tmp 51) rfl rfl rfl); intro w8 hw8; have H8 := Aside0.mk (H7.out.setR (R' := Q1.1) HQ.out.2.2.1); rw [← hw8] at H8; clear hw8))
    | ((with_reducible refine gate_store (ty := 53) (x := .tmp 53) (y := .tmp 52) rfl ?_); go_loud (refine store_event rfl (t := 53) (p := 53) (v := .tmp 52) rfl rfl (w1 := w8.setCell ⟨gn, 2, none⟩ (.int .u64 Q1.2)) ?hr ?_; (case hr => exact H8.out.put 53 2 (.int .u64 Q1.2) (.tmp 53) (.tmp 52) rfl rfl rfl rfl rfl (by kernel_rfl) (by decide)); intro w9 hw9; have H9 := Aside0.mk (H8.out.setN Q1.2); rw [← hw9] at H9; clear hw9)))
  clear H6 H7 H8
  go_loopg [8, 9, 10] 1 (fun q v8 v9 v10 wr => ∃ (i : Nat) (R2 : RM) (o : List (List Int)) (vY : Value), v8 = .int .u64 i ∧ q + i = 1 ∧ Aside0 (RG w wr w.heap.size gr gn R2 ⟨4, [], Q1.2, o, [], ByteArray.empty⟩ vY (.slice none 0 0) ∧ idsGo 1 Q1.1 [] = idsGo q R2 o ∧ o.length = i))
  case atStart => exact ⟨0, Q1.1, [], _, rfl, rfl, ⟨H9.out, rfl, rfl⟩⟩
  case round =>
    clear H9
    obtain ⟨i, R2, o, vY, rfl, hq, hI⟩ := hrel
    by_cases hlt : i < 1
    · have d3 : decide ((i : Int) < 1) = true := decide_eq_true (by omega)
      obtain ⟨q', rfl⟩ : ∃ q', gk = q' + 1 := ⟨gk - 1, by omega⟩
      have HL := Aside0.mk (show (o.length + 1) * 32 ≤ 140737488355328 from by have := hI.out.2.2; omega)
      obtain ⟨Q9, hQ9⟩ : ∃ Q, Q = R2.id := ⟨_, rfl⟩
      have HQ9 := Aside0.mk hQ9
      have HBY := Aside0.mk (show Byt Q9.1.b ∧ Q9.2.length = 32 by rw [hQ9]; exact ⟨(id_byt hI.out.1.by_).1, id_32 R2⟩)
      clear hQ9
      go_wp2_with (first
        | ((with_reducible refine gate_dst (N := 10) rfl ?_); go_loud (refine Kd.event_run rfl (v := .pointer (some ⟨wr.heap.size, 0, none⟩)) (w1 := wr.alloc (.cells zid 74)) ?hr ?_; (case hr => first | kernel_rfl | (go_simp; done) | (go_simp; rfl)); refine wpName (fun w20 hw20 => ?_); obtain ⟨g10, hg10⟩ : ∃ z, z = wr.heap.size := ⟨_, rfl⟩; have hb20 : Below wr.heap.size wr w20 := (by rw [hw20]; exact below_alloc (Below.refl _ _) _); have H20 := Aside0.mk (And.intro (hI.out.1.below hb20) (And.intro (show w20.heap[g10]? = some (.cells zid 74 (0, 0)) by rw [hw20, hg10]; exact blk_new wr _) (show gn < g10 ∧ (∀ k, some k = vY.ownBlock → k < g10) ∧ w.heap.size ≤ g10 from ⟨by rw [hg10]; exact hI.out.1.bound.1, by rw [hg10]; exact hI.out.1.bound.2.1, by rw [hg10]; exact hI.out.1.bl.size⟩))); rw [← hg10]; clear hw20 hg10 hb20))
        | ((with_reducible refine gate_dst (N := 116) rfl ?_); refine Kd.event_run rfl (v := stV R2) (w1 := w20) ?hr ?_; (case hr => exact H20.out.1.loadR (.tmp 4) rfl rfl))
        | (go_at_call 71; go_loud (have hx := ref_id (w := w20) H20.out.1.by_; rw [← HQ9.out] at hx; refine hx.mono ?_; clear hx; rintro e w21 ⟨rfl, hb21⟩; have H21 := Aside0.mk (And.intro (H20.out.1.below hb21) ((hb21.block _ (blk_lt H20.out.2.1)).trans H20.out.2.1)); clear hb21))
        | ((with_reducible refine gate_store (ty := 99) (x := .tmp 4) (y := .tmp 118) rfl ?_); go_loud (refine store_event rfl (t := 99) (p := 4) (v := .tmp 118) rfl rfl (w1 := w21.setRow gr #[.string (S Q9.1.b), .int .i64 Q9.1.e]) ?hr ?_; (case hr => exact H21.out.1.storeR (.tmp 4) (.tmp 118) rfl rfl rfl); intro w22 hw22; have H22 := Aside0.mk (And.intro (H21.out.1.setR (R' := Q9.1) HBY.out.1) (show (w21.setRow gr #[.string (S Q9.1.b), .int .i64 Q9.1.e]).heap[g10]? = some (.cells zid 74 (0, 0)) by rw [setRow_other _ _ _ _ (by have h1 := H20.out.2.2.1; have h2 := H21.out.1.h2; omega)]; exact H21.out.2)); rw [← hw22] at H22; clear hw22))
        | ((with_reducible refine gate_store (ty := 74) (x := .tmp 10) (y := .tmp 119) rfl ?_); go_loud (refine wpList_store_row rfl 74 (.tmp 10) (.tmp 119) rfl g10 (nums .u8 Q9.2).toArray rfl rfl 74 zid H22.out.2 (id_fit HBY.out.2).1 (id_fit HBY.out.2).2.1 (id_fit HBY.out.2).2.2 ?_; refine wpName (fun w23 hw23 => ?_); have hk23 : Kept w22 w23 (fun k => k = g10) := (by rw [hw23]; exact ⟨by simp, fun i _ hn => setRow_other _ _ _ _ hn⟩); have hb23 : Below w.heap.size w w23 := (by rw [hw23]; exact below_setRow H22.out.1.bl H20.out.2.2.2.2 _); have H23 := Aside0.mk (And.intro (H22.out.1.keepG hb23 hk23 H20.out.2.2.1 H20.out.2.2.2.1 (fun k e => by cases e)) (show w23.heap[g10]? = some (.cells (nums .u8 Q9.2).toArray 74 (0, 0)) by rw [hw23]; exact setRow_heap _ _ _ _ _ _ H22.out.2)); have a3 := H23.out.1.ob.cells.2.2.2.1; clear hw23 hk23 hb23))
        | ((with_reducible refine gate_dst (N := 122) rfl ?_); refine Kd.event_run rfl (v := .agg (nums .u8 Q9.2).toArray) (w1 := w23) ?hr ?_; (case hr => exact exec_load_row w23 74 (.tmp 10) rfl g10 rfl 74 _ (0, 0) _ H23.out.2 Tryd.underlying74 rfl (id_fit HBY.out.2).1))
        | ((with_reducible refine gate_dst (N := 123) rfl ?_); refine Kd.event_run rfl (v := .slice (some ⟨w23.heap.size, 0, none⟩) 1 1) (w1 := w23.alloc (.cells (nums .u8 Q9.2).toArray 74)) ?hr ?_; (case hr => exact exec_buildS (.tmp 122) HBY.out.2 rfl rfl))
        | ((with_reducible refine gate_builtin (b := .append) (xs := #[.tmp 121, .tmp 123]) rfl ?_); at_builtin; go_loud ( refine Kd.R_append kId (w0 := w) (W := w23) w.heap.size ?q1 (.tmp 121) (.tmp 123) 54 74 (.agg zid) 32 ?q2 Tryd.underlying54 ?q3 ?q4 (by decide) (by decide) vY o Q9.2 (nums .u8 Q9.2) (fun k => gn < k) (fun _ => False) ?q5 ?q6 ?aM (fun _ hk => hk.elim) ?aF ?aH ?aB ?aS ?aL ?_; (case q1 => rfl); (case q2 => rfl); (case q3 => exact info_kid); (case q4 => rfl); (case q5 => rfl); (case q6 => rfl); (case aH => exact H23.out.1.rY); (case aM => exact (show Kd.M kId _ _ _ Q9.2 (nums .u8 Q9.2) from ⟨rfl, by rw [nums_length]; exact HBY.out.2⟩)); (case aF => exact fun k hk => Nat.lt_of_lt_of_le H23.out.1.bound.1 hk); (case aB => exact H23.out.1.bl); (case aS => exact H23.out.1.bl.size); (case aL => exact HL.out); intro v6 w24 ho6 hb6 hg6 _; obtain ⟨A6, n6, c6, rfl⟩ : ∃ A6 n6 c6, v6 = .slice A6 n6 c6 := (by obtain ⟨A6, c6, e6, _, _⟩ := Kd.R_reads ho6; exact ⟨_, _, _, e6⟩); have H24 := Aside0.mk (H23.out.1.growY rfl hb6 hg6 ho6); clear ho6 hb6 hg6))
        | ((with_reducible refine gate_store (ty := 54) (x := .tmp 125) (y := .tmp 124) rfl ?_); go_loud (refine store_event rfl (t := 54) (p := 125) (v := .tmp 124) rfl rfl (w1 := w24.setCell ⟨gn, 3, none⟩ (.slice A6 n6 c6)) ?hr ?_; (case hr => exact exec_store1 w24 54 (.tmp 125) (.tmp 124) rfl gn 3 _ rfl rfl rfl 63 _ H24.out.1 (by kernel_rfl) (by show 3 < 6; omega) rfl); intro w25 hw25; have H25 := Aside0.mk H24.out.2; rw [← hw25] at H25; clear hw25)))
      go_roundg q'
      case measure => omega
      case rel => exact ⟨i + 1, Q9.1, o ++ [Q9.2], _, by go_num, by omega, ⟨H25.out, by rw [hI.out.2.1, HQ9.out]; rfl, by rw [List.length_append, hI.out.2.2]; rfl⟩⟩
    · have d3 : decide ((i : Int) < 1) = false := decide_eq_false (by omega)
      obtain rfl : gk = 0 := by omega
      have hend : idsGo 1 Q1.1 [] = (R2, o) := hI.out.2.1
      obtain ⟨Q3, hQ3⟩ : ∃ Q, Q = R2.bytes 255 := ⟨_, rfl⟩
      have HQ3 := Aside0.mk (And.intro hQ3 (show Byt Q3.1.b by rw [hQ3]; exact (RM.bytes_byt hI.out.1.by_ 255).1))
      have HS := Aside0.mk (show getO b = finM (Q3.1, ⟨4, [], Q1.2, o, [], S Q3.2⟩, true) ∧ SwO (Q3.1, (⟨4, [], Q1.2, o, [], S Q3.2⟩ : OM), true) ∧ (0 ≤ (4 : Int) ∧ (4 : Int) ≤ 255) ∧ ([] : List Int).length ≤ 9223372036854775807 from ⟨by rw [HG.out.1, HQ.out.2.1, hend, hQ3], by have h := HG.out.2.2.1; rw [HQ.out.2.1, hend, ← hQ3] at h; exact h, by decide, by decide⟩)
      have H26 := Aside0.mk hI.out.1
      clear hend hQ3 hI
      go_upto_region 30 with (first
        | ((with_reducible refine gate_dst (N := 129) rfl ?_); refine Kd.event_run rfl (v := stV R2) (w1 := wr) ?hr ?_; (case hr => exact H26.out.loadR (.tmp 4) rfl rfl))
        | (go_at_call 56; go_loud (have hx := (show Calls Tryd.prog 56 #[stV R2, .int .i64 255] wr fun e w' => e = .returned (.tuple #[stV Q3.1, .string (S Q3.2)]) ∧ Below wr.heap.size wr w' by rw [HQ3.out.1]; exact ref_bytes H26.out.by_ 255 (by decide)); refine hx.mono ?_; clear hx; rintro e w27 ⟨rfl, hb27⟩; have H27 := Aside0.mk (H26.out.below hb27); clear hb27))
        | ((with_reducible refine gate_store (ty := 99) (x := .tmp 4) (y := .tmp 131) rfl ?_); go_loud (refine store_event rfl (t := 99) (p := 4) (v := .tmp 131) rfl rfl (w1 := w27.setRow gr #[.string (S Q3.1.b), .int .i64 Q3.1.e]) ?hr ?_; (case hr => exact H27.out.storeR (.tmp 4) (.tmp 131) rfl rfl rfl); intro w28 hw28; have H28 := Aside0.mk (H27.out.setR (R' := Q3.1) HQ3.out.2); rw [← hw28] at H28; clear hw28))
        | ((with_reducible refine gate_store (ty := 9) (x := .tmp 133) (y := .tmp 132) rfl ?_); go_loud (refine store_event rfl (t := 9) (p := 133) (v := .tmp 132) rfl rfl (w1 := w28.setCell ⟨gn, 5, none⟩ (.string (S Q3.2))) ?hr ?_; (case hr => exact H28.out.put 9 5 (.string (S Q3.2)) (.tmp 133) (.tmp 132) rfl rfl rfl rfl rfl (by kernel_rfl) (by decide)); intro w29 hw29; have H29 := Aside0.mk (H28.out.setS (S Q3.2)); rw [← hw29] at H29; clear hw29)))
      by_cases hend : Q3.1.end_ = 0
      rotate_left
      · have HG2 := Aside0.mk (show getO b = (zeroO, Q3.1.end_) by rw [HS.out.1]; unfold finM; rw [if_neg (show ¬ true = false by decide), if_pos hend])
        have d2 : (Q3.1.end_ != 0) = true := bne_iff_ne.2 hend
        clear hend
        go_wp2_with (first
          | ((with_reducible refine gate_dst (N := 134) rfl ?_); refine Kd.event_run rfl (v := stV Q3.1) (w1 := w29) ?hr ?_; (case hr => exact H29.out.loadR (.tmp 4) rfl rfl))
          | (go_at_call 57; go_loud (refine (ref_end (w := w29) (R := Q3.1)).mono ?_; rintro e w40 ⟨rfl, hb40⟩; have H40 := Aside0.mk (H29.out.below hb40); clear hb40))
          | ((with_reducible refine gate_dst (N := 138) rfl ?_); refine Kd.event_run rfl (v := .agg rz) (w1 := w40) ?hr ?_; (case hr => exact exec_rbuild0 rfl))
          | ((with_reducible refine gate_store (ty := 63) (x := .tmp 2) (y := .tmp 138) rfl ?_); go_loud (refine wpList_store_row rfl 63 (.tmp 2) (.tmp 138) rfl w.heap.size rz rfl rfl 63 rz H40.out.z2 (rv_all rz_v).1 rfl (rv_all rz_v).2.2 ?_; refine wpName (fun w5 hw5 => ?_); have H5 := Aside0.mk (show w5.heap[w.heap.size]? = some (.cells rz 63 (0, 0)) ∧ Below w.heap.size w w5 from ⟨by rw [hw5]; exact setRow_heap _ _ _ _ _ _ H40.out.z2, by rw [hw5]; exact below_setRow H40.out.bl (Nat.le_refl _) _⟩); clear hw5)))
        refine bodyPost_ret (results_ct rfl _ _ w.heap.size 63 rz (0, 0) _ rfl H5.out.1 Tryd.underlying63 rfl (by kernel_rfl)) rfl ?_
        exact ⟨rz, none, none, 0, 0, by rw [HG2.out]; rfl, by rw [HG2.out]; exact rz_v, by rw [HG2.out]; exact inR_zero _, H5.out.2⟩
      have d2 : (Q3.1.end_ != 0) = false := by rw [hend]; rfl
      obtain ⟨cs2, Y2, E2, yc2, ec2, hvY, hvE, hrv, hrb, hir⟩ := H29.out.fin HS.out.2.1 HS.out.2.2.1 HS.out.2.2.2
      have HB := Aside0.mk (show RV cs2 ⟨4, [], Q1.2, o, [], S Q3.2⟩ Y2 E2 yc2 ec2 ∧ RBx w29 gn ⟨4, [], Q1.2, o, [], S Q3.2⟩ Y2 E2 yc2 ec2 ∧ InR w29 ⟨4, [], Q1.2, o, [], S Q3.2⟩ Y2 E2 from ⟨hrv, hrb, hir⟩)
      clear hvY hvE hrv hrb hir
      rcases err_or ⟨4, [], Q1.2, o, [], S Q3.2⟩ with her | her
      rotate_left
      · have HG2 := Aside0.mk (show getO b = (zeroO, 11) by rw [HS.out.1]; unfold finM; rw [if_neg (show ¬ true = false by decide), if_neg (by simpa using hend), if_pos (show errC _ ≠ 0 by rw [her]; decide)])
        have HER := Aside0.mk her
        clear hend her
        go_wp2_with (first
          | ((with_reducible refine gate_dst (N := 134) rfl ?_); refine Kd.event_run rfl (v := stV Q3.1) (w1 := w29) ?hr ?_; (case hr => exact H29.out.loadR (.tmp 4) rfl rfl))
          | (go_at_call 57; go_loud (refine (ref_end (w := w29) (R := Q3.1)).mono ?_; rintro e w40 ⟨rfl, hb40⟩; have H40 := Aside0.mk (show RG w w40 w.heap.size gr gn _ _ _ _ ∧ RBx w40 gn ⟨4, [], Q1.2, o, [], S Q3.2⟩ Y2 E2 yc2 ec2 ∧ InR w40 ⟨4, [], Q1.2, o, [], S Q3.2⟩ Y2 E2 from ⟨H29.out.below hb40, HB.out.2.1.below hb40, HB.out.2.2.below hb40⟩); clear hb40))
          | ((with_reducible refine gate_dst (N := 140) rfl ?_); refine Kd.event_run rfl (v := .agg cs2) (w1 := w40) ?hr ?_; (case hr => exact H40.out.2.1.load HB.out.1 (.tmp 6) rfl rfl))
          | (go_at_call 34; go_loud (have hx := rocheck_calls (w := w40) HB.out.1 H40.out.2.2; rw [HER.out] at hx; refine hx.mono ?_; clear hx; rintro e w41 ⟨rfl, hb41⟩; have H41 := Aside0.mk (H40.out.1.below hb41); clear hb41))
          | ((with_reducible refine gate_dst (N := 143) rfl ?_); refine Kd.event_run rfl (v := .agg rz) (w1 := w41) ?hr ?_; (case hr => exact exec_rbuild0 rfl))
          | ((with_reducible refine gate_store (ty := 63) (x := .tmp 2) (y := .tmp 143) rfl ?_); go_loud (refine wpList_store_row rfl 63 (.tmp 2) (.tmp 143) rfl w.heap.size rz rfl rfl 63 rz H41.out.z2 (rv_all rz_v).1 rfl (rv_all rz_v).2.2 ?_; refine wpName (fun w5 hw5 => ?_); have H5 := Aside0.mk (show w5.heap[w.heap.size]? = some (.cells rz 63 (0, 0)) ∧ Below w.heap.size w w5 from ⟨by rw [hw5]; exact setRow_heap _ _ _ _ _ _ H41.out.z2, by rw [hw5]; exact below_setRow H41.out.bl (Nat.le_refl _) _⟩); clear hw5)))
        refine bodyPost_ret (results_ct rfl _ _ w.heap.size 63 rz (0, 0) _ rfl H5.out.1 Tryd.underlying63 rfl (by kernel_rfl)) rfl ?_
        exact ⟨rz, none, none, 0, 0, by rw [HG2.out]; rfl, by rw [HG2.out]; exact rz_v, by rw [HG2.out]; exact inR_zero _, H5.out.2⟩
      have HG2 := Aside0.mk (show getO b = (⟨4, [], Q1.2, o, [], S Q3.2⟩, 0) by rw [HS.out.1]; unfold finM; rw [if_neg (show ¬ true = false by decide), if_neg (by simpa using hend), if_neg (show ¬ errC _ ≠ 0 by rw [her]; decide)])
      have HER := Aside0.mk her
      clear hend her
      go_wp2_with (first
        | ((with_reducible refine gate_dst (N := 134) rfl ?_); refine Kd.event_run rfl (v := stV Q3.1) (w1 := w29) ?hr ?_; (case hr => exact H29.out.loadR (.tmp 4) rfl rfl))
        | (go_at_call 57; go_loud (refine (ref_end (w := w29) (R := Q3.1)).mono ?_; rintro e w40 ⟨rfl, hb40⟩; have H40 := Aside0.mk (show RG w w40 w.heap.size gr gn _ _ _ _ ∧ RBx w40 gn ⟨4, [], Q1.2, o, [], S Q3.2⟩ Y2 E2 yc2 ec2 ∧ InR w40 ⟨4, [], Q1.2, o, [], S Q3.2⟩ Y2 E2 from ⟨H29.out.below hb40, HB.out.2.1.below hb40, HB.out.2.2.below hb40⟩); clear hb40))
        | ((with_reducible refine gate_dst (N := 140) rfl ?_); refine Kd.event_run rfl (v := .agg cs2) (w1 := w40) ?hr ?_; (case hr => exact H40.out.2.1.load HB.out.1 (.tmp 6) rfl rfl))
        | (go_at_call 34; go_loud (have hx := rocheck_calls (w := w40) HB.out.1 H40.out.2.2; rw [HER.out] at hx; refine hx.mono ?_; clear hx; rintro e w41 ⟨rfl, hb41⟩; have H41 := Aside0.mk (show RG w w41 w.heap.size gr gn _ _ _ _ ∧ RBx w41 gn ⟨4, [], Q1.2, o, [], S Q3.2⟩ Y2 E2 yc2 ec2 from ⟨H40.out.1.below hb41, H40.out.2.1.below hb41⟩); clear hb41))
        | ((with_reducible refine gate_dst (N := 144) rfl ?_); refine Kd.event_run rfl (v := .agg cs2) (w1 := w41) ?hr ?_; (case hr => exact H41.out.2.load HB.out.1 (.tmp 6) rfl rfl))
        | ((with_reducible refine gate_store (ty := 63) (x := .tmp 2) (y := .tmp 144) rfl ?_); go_loud (refine wpList_store_row rfl 63 (.tmp 2) (.tmp 144) rfl w.heap.size cs2 rfl rfl 63 rz H41.out.1.z2 (rv_all HB.out.1).1 (rv_all HB.out.1).2.1 (rv_all HB.out.1).2.2 ?_; refine wpName (fun w5 hw5 => ?_); have hk5 : Kept w41 w5 (fun k => k = w.heap.size) := (by rw [hw5]; exact ⟨by simp, fun i _ hn => setRow_other _ _ _ _ hn⟩); have h1 := H41.out.1.h1; have h2 := H41.out.1.h2; have rY := Kd.R_kept H41.out.1.rY hk5 (fun k hk e => by have : k = w.heap.size := e; omega); have rE := Kd.R_kept H41.out.1.rE hk5 (fun k hk e => by have : k = w.heap.size := e; omega); have H5 := Aside0.mk (And.intro (show w5.heap[w.heap.size]? = some (.cells cs2 63 (0, 0)) by rw [hw5]; exact setRow_heap _ _ _ _ _ _ H41.out.1.z2) (And.intro (show Below w.heap.size w w5 by rw [hw5]; exact below_setRow H41.out.1.bl (Nat.le_refl _) _) (And.intro rY rE))); clear hw5 hk5 rY rE h1 h2)))
      refine bodyPost_ret (results_ct rfl _ _ w.heap.size 63 cs2 (0, 0) _ rfl H5.out.1 Tryd.underlying63 rfl (rv_all HB.out.1).1) rfl ?_
      obtain ⟨Y6, yc6, e6, _, hY6⟩ := Kd.R_reads H5.out.2.2.1
      obtain ⟨E6, ec6, e7, _, hE6⟩ := Kd.R_reads H5.out.2.2.2
      have hcs := HB.out.1
      have hob := HB.out.2.1
      have hob2 := H29.out.ob
      have e8 := Option.some.inj (hob.cells.2.2.2.1.symm.trans hob2.cells.2.2.2.1)
      have e9 := Option.some.inj (hob.cells.2.2.2.2.1.symm.trans hob2.cells.2.2.2.2.1)
      rw [e6] at e8
      rw [e7] at e9
      injection e8 with e8a _ _
      injection e9 with e9a _ _
      have hr := HB.out.2.2
      exact ⟨cs2, Y2, E2, yc2, ec2, by rw [HG2.out]; rfl, by rw [HG2.out]; exact hcs, by rw [HG2.out]; exact ⟨by rw [e8a]; exact hY6, by rw [e9a]; exact hE6, hr.bb, hr.bi, hr.be, hr.k, hr.n, hr.bl, hr.yl, hr.el⟩, H5.out.2.1⟩
theorem roget_calls {b : List Int} (hy : Byt b) : Calls Tryd.prog 37 #[.string (S b)] w (GotR w b) := by
  by_cases he : (⟨b, 0⟩ : RM).uint.1.e = 0
  · by_cases k1 : (⟨b, 0⟩ : RM).uint.2 = 1
    · exact rgt_1 hy he k1
    by_cases k2 : (⟨b, 0⟩ : RM).uint.2 = 2
    · exact rgt_2 hy he k2
    by_cases k3 : (⟨b, 0⟩ : RM).uint.2 = 3
    · exact rgt_3 hy he k3
    by_cases k4 : (⟨b, 0⟩ : RM).uint.2 = 4
    · exact rgt_4 hy he k4
    · exact rgt_no hy he (by omega)
  · exact rgt_err hy he
end
end Go.Proofs.YtgjdcdhfijkoiaaDoor.Obj
end
section
namespace Go.Proofs.YtgjdcdhfijkoiaaDoor.Obj
open Go.RowKit Go.Proofs.YtgjdcdhfijkoiaaDoorW.PrintWords Go.Proofs.YtgjdcdhfijkoiaaDoorW.PrintLast Go.Proofs.YtgjdcdhfijkoiaaDoorW.PrintMore Go.Proofs.YtgjdcdhfijkoiaaDoor.Mem Go.Proofs.YtgjdcdhfijkoiaaDoor.Cod Go.Proofs.YtgjdcdhfijkoiaaDoor.PCod Go.Proofs.YtgjdcdhfijkoiaaDoor.Str Go.Proofs.YtgjdcdhfijkoiaaDoor.Open
set_option linter.unusedVariables false
set_option linter.unusedSimpArgs false
theorem es_few {x : OM} (h : errC x = 0) : x.es.length ≤ 500 := by
  have h1 := err_0 h
  unfold checkO at h1
  by_cases k1 : x.k = 1
  · rw [shape_1 h k1]; exact Nat.zero_le _
  by_cases k2 : x.k = 2
  · rw [shape_2 h k2]; exact Nat.zero_le _
  by_cases k3 : x.k = 3
  · exact (ok_3 h k3).1
  by_cases k4 : x.k = 4
  · rw [shape_4 h k4]; exact Nat.zero_le _
  · rw [if_neg k1, if_neg k2, if_neg k3, if_neg k4] at h1
    cases h1
theorem fin_bad (z : RM × OM × Bool) (h : (finM z).2 ≠ 0) : (finM z).1 = zeroO := by
  unfold finM at h ⊢
  by_cases h1 : z.2.2 = false
  · rw [if_pos h1]
  rw [if_neg h1] at h ⊢
  by_cases h2 : z.1.end_ ≠ 0
  · rw [if_pos h2]
  rw [if_neg h2] at h ⊢
  by_cases h3 : errC z.2.1 ≠ 0
  · rw [if_pos h3]
  · rw [if_neg h3] at h; exact absurd rfl h
theorem getO_few {b : List Int} (hy : Byt b) : (getO b).1.es.length ≤ 500 := by
  by_cases h : (getO b).2 = 0
  · exact es_few (put_get_o hy h).1
  · have hz : (getO b).1 = zeroO := by
      unfold getO at h ⊢
      by_cases h1 : (⟨b, 0⟩ : RM).uint.1.e ≠ 0
      · rw [if_pos h1]
      · rw [if_neg h1] at h ⊢
        exact fin_bad _ h
    rw [hz]
    exact Nat.zero_le _
section
variable {w : World}
set_option maxRecDepth 100000 in
set_option maxHeartbeats 8000000 in
theorem gts_law {b : List Int} {A : Option Addr} {c : Nat} (hr : Kd.C (Kd.int .u8) w A b.length b) (hc : b.length ≤ c) (hl : b.length < 140737488355328) (hy : Byt b) :
    Calls Tryd.prog 10 #[.slice A b.length c] w fun e w' => e = .returned (.bool true) ∧ Below w.heap.size w w' := by
  obtain ⟨n, hn⟩ : ∃ n, n = b.length := ⟨_, rfl⟩
  obtain ⟨s, hs⟩ : ∃ s, s = S b := ⟨_, rfl⟩
  have HB := Aside0.mk (And.intro hr (And.intro hc (And.intro hl (And.intro hy (And.intro hn hs)))))
  have HCV : Aside0 (∀ W, Below w.heap.size w W → (convert 27 9 (.slice A n c)).run Tryd.prog W = .ok (.string s) W) := ⟨fun W hb => by rw [hs]; exact conv_row hn (Kd.C_below hr hb) (Below.refl _ _)⟩
  have HGo : Aside0 (∀ W, Below w.heap.size w W → Calls Tryd.prog 35 #[.slice A n c] W (GotO W b)) := ⟨fun W hb => by rw [hn]; exact oget_calls (Kd.C_below hr hb) hc hl hy⟩
  have HRG : Aside0 (∀ W, Calls Tryd.prog 37 #[.string s] W (GotR W b)) := ⟨fun W => by rw [hs]; exact roget_calls hy⟩
  obtain ⟨x, hx⟩ : ∃ x, x = (getO b).1 := ⟨_, rfl⟩
  obtain ⟨er, her⟩ : ∃ er, er = (getO b).2 := ⟨_, rfl⟩
  have hfew : x.es.length ≤ 500 := by rw [hx]; exact getO_few hy
  have hpg : er = 0 → errC x = 0 ∧ putO x = b := fun h => by rw [hx]; exact put_get_o hy (by rw [← her]; exact h)
  have HX := Aside0.mk (And.intro hx (And.intro her (And.intro hfew hpg)))
  rw [← hn]
  clear hr hc hl hy hn hs hx her hfew hpg
  by_cases hbig : 1000 < n
  · have d1 : decide ((n : Int) > 1000) = true := decide_eq_true (by omega)
    clear hbig
    go_enter Tryd.func10, Tryd.ntmps10
    go_wp2_with (go_at_call 28; go_loud (refine (awake12_calls w).mono ?_; rintro e w2 ⟨rfl, hb2⟩; have H2 := Aside0.mk hb2; clear hb2))
    go_ret
    exact ⟨rfl, H2.out⟩
  have d1 : decide ((n : Int) > 1000) = false := decide_eq_false (by omega)
  clear hbig
  go_enter Tryd.func10, Tryd.ntmps10
  go_upto_region 8 with (first
    | (go_at_call 28; go_loud (refine (awake12_calls w).mono ?_; rintro e w2 ⟨rfl, hb2⟩; have H2 := Aside0.mk hb2; clear hb2))
    | (go_at_call 35; go_loud (refine (HGo.out w2 H2.out).mono ?_; rintro e w3 ⟨csA, AA, YA, EA, bA, yA, eA, rfl, hov, hin, hb3⟩; rw [← HX.out.1] at hov hin; rw [← HX.out.2.1]; have H3 := Aside0.mk (show OV csA x AA YA EA bA yA eA ∧ InO w3 x AA YA EA ∧ Below w.heap.size w w3 from ⟨hov, hin, below_step H2.out hb3⟩); clear hov hin hb3))
    | ((with_reducible refine gate_dst (N := 4) rfl ?_); go_loud (refine Kd.event_run rfl (v := .pointer (some ⟨w3.heap.size, 0, none⟩)) (w1 := w3.alloc (.cells oz 57)) ?hr ?_; (case hr => first | kernel_rfl | (go_simp; done) | (go_simp; rfl)); refine wpName (fun w4 hw4 => ?_); obtain ⟨g4, hg4⟩ : ∃ g, g = w3.heap.size := ⟨_, rfl⟩; have H4 := Aside0.mk (show w4.heap[g4]? = some (.cells oz 57 (0, 0)) ∧ Below w3.heap.size w3 w4 ∧ g4 = w3.heap.size from ⟨by rw [hw4, hg4]; exact blk_new w3 _, by rw [hw4]; exact below_alloc (Below.refl _ _) _, hg4⟩); rw [← hg4]; clear hw4 hg4))
    | ((with_reducible refine gate_store (ty := 57) (x := .tmp 4) (y := .tmp 19) rfl ?_); go_loud (refine wpList_store_row rfl 57 (.tmp 4) (.tmp 19) rfl g4 csA rfl rfl 57 oz H4.out.1 (ov_all H3.out.1).1 (ov_all H3.out.1).2.1 (ov_all H3.out.1).2.2 ?_; refine wpName (fun w5 hw5 => ?_); have hb5 : Below w3.heap.size w3 w5 := (by rw [hw5]; exact below_setRow H4.out.2.1 (by rw [H4.out.2.2]; exact Nat.le_refl _) _); have H5 := Aside0.mk (show OB w5 g4 x AA YA EA bA yA eA ∧ InO w5 x AA YA EA ∧ Below w.heap.size w w5 from ⟨OB.of H3.out.1 (by rw [hw5]; exact setRow_heap _ _ _ _ _ _ H4.out.1), H3.out.2.1.below hb5, below_step H3.out.2.2 hb5⟩); have hcv := HCV.out w5 H5.out.2.2; clear hw5 hb5))
    | (go_at_call 37; go_loud (refine (HRG.out w5).mono ?_; rintro e w6 ⟨csR, YR, ER, yR, eR, rfl, hrv, hir, hb6⟩; rw [← HX.out.1] at hrv hir; rw [← HX.out.2.1]; have H6 := Aside0.mk (show RV csR x YR ER yR eR ∧ InR w6 x YR ER ∧ OB w6 g4 x AA YA EA bA yA eA ∧ InO w6 x AA YA EA ∧ Below w.heap.size w w6 from ⟨hrv, hir, H5.out.1.below hb6, H5.out.2.1.below hb6, below_step H5.out.2.2 hb6⟩); clear hrv hir hb6))
    | ((with_reducible refine gate_dst (N := 6) rfl ?_); go_loud (refine Kd.event_run rfl (v := .pointer (some ⟨w6.heap.size, 0, none⟩)) (w1 := w6.alloc (.cells rz 63)) ?hr ?_; (case hr => first | kernel_rfl | (go_simp; done) | (go_simp; rfl)); refine wpName (fun w7 hw7 => ?_); obtain ⟨g6, hg6⟩ : ∃ g, g = w6.heap.size := ⟨_, rfl⟩; have H7 := Aside0.mk (show w7.heap[g6]? = some (.cells rz 63 (0, 0)) ∧ Below w6.heap.size w6 w7 ∧ g6 = w6.heap.size from ⟨by rw [hw7, hg6]; exact blk_new w6 _, by rw [hw7]; exact below_alloc (Below.refl _ _) _, hg6⟩); rw [← hg6]; clear hw7 hg6))
    | ((with_reducible refine gate_store (ty := 63) (x := .tmp 6) (y := .tmp 25) rfl ?_); go_loud (refine wpList_store_row rfl 63 (.tmp 6) (.tmp 25) rfl g6 csR rfl rfl 63 rz H7.out.1 (rv_all H6.out.1).1 (rv_all H6.out.1).2.1 (rv_all H6.out.1).2.2 ?_; refine wpName (fun w8 hw8 => ?_); have hb8 : Below w6.heap.size w6 w8 := (by rw [hw8]; exact below_setRow H7.out.2.1 (by rw [H7.out.2.2]; exact Nat.le_refl _) _); have H8 := Aside0.mk (show RBx w8 g6 x YR ER yR eR ∧ InR w8 x YR ER ∧ OB w8 g4 x AA YA EA bA yA eA ∧ InO w8 x AA YA EA ∧ Below w.heap.size w w8 from ⟨RBx.of H6.out.1 (by rw [hw8]; exact setRow_heap _ _ _ _ _ _ H7.out.1), H6.out.2.1.below hb8, H6.out.2.2.1.below hb8, H6.out.2.2.2.1.below hb8, below_step H6.out.2.2.2.2 hb8⟩); clear hw8 hb8)))
  clear hcv H2 H4 H5 H7
  obtain ⟨wd, hwd⟩ : ∃ wd, wd = w8.drew := ⟨_, rfl⟩
  have hbd : Below w8.heap.size w8 wd := by rw [hwd]; exact below_drew1 (Below.refl _ _)
  have HD := Aside0.mk (show RBx wd g6 x YR ER yR eR ∧ InR wd x YR ER ∧ OB wd g4 x AA YA EA bA yA eA ∧ InO wd x AA YA EA ∧ Below w.heap.size w wd from ⟨H8.out.1.below hbd, H8.out.2.1.below hbd, H8.out.2.2.1.below hbd, H8.out.2.2.2.1.below hbd, below_step H8.out.2.2.2.2 hbd⟩)
  clear hbd H8
  refine start_ (n := 10) (S := fun w' => OB w' g4 x AA YA EA bA yA eA ∧ RBx w' g6 x YR ER yR eR) (ds := []) #[false, false, false, false, false, false, false, false, false, false] (by kernel_rfl) rfl (by kernel_rfl) (by rw [← hwd]; exact ⟨HD.out.2.2.1, HD.out.1⟩) (fun hHeld => ?_)
  rw [← hwd] at hHeld ⊢
  clear hwd
  refine pure_ (i := 0) (N := some 27) (v := ?_) (a' := ?_) #[true, false, false, false, false, false, false, false, false, false] rfl rfl (by kernel_rfl) (fun _ _ _ h => h) (Or.inl ⟨by rfl, ?_⟩) ?_ ?_
  rotate_left
  · intro w'
    go_simp
    with_reducible rfl
  rotate_left
  · simp only [Act.put, List.setIfInBounds_toArray, List.set_cons_zero, List.set_cons_succ, i64_w, i32_w]
    rfl
  refine pure_ (i := 1) (N := some 28) (v := ?_) (a' := ?_) #[true, true, false, false, false, false, false, false, false, false] rfl rfl (by kernel_rfl) (fun _ _ _ h => h) (Or.inl ⟨by rfl, ?_⟩) ?_ ?_
  rotate_left
  · intro w'
    go_simp
    with_reducible rfl
  rotate_left
  · simp only [Act.put, List.setIfInBounds_toArray, List.set_cons_zero, List.set_cons_succ, i64_w, i32_w]
    rfl
  refine pure_ (i := 2) (N := some 29) (v := ?_) (a' := ?_) #[true, true, true, false, false, false, false, false, false, false] rfl rfl (by kernel_rfl) (fun _ _ _ h => h) (Or.inl ⟨by rfl, ?_⟩) ?_ ?_
  rotate_left
  · intro w'
    go_simp
    with_reducible rfl
  rotate_left
  · simp only [Act.put, List.setIfInBounds_toArray, List.set_cons_zero, List.set_cons_succ, i64_w, i32_w]
    rfl
  refine pure_ (i := 3) (N := some 30) (v := ?_) (a' := ?_) #[true, true, true, true, false, false, false, false, false, false] rfl rfl (by kernel_rfl) (fun _ _ _ h => h) (Or.inl ⟨by rfl, ?_⟩) ?_ ?_
  rotate_left
  · intro w'
    go_simp
    with_reducible rfl
  rotate_left
  · simp only [Act.put, List.setIfInBounds_toArray, List.set_cons_zero, List.set_cons_succ, i64_w, i32_w]
    rfl
  refine take_ (i := 4) (N := some 31) (v := .agg csA) (a' := ?_) #[true, true, true, true, true, false, false, false, false, false] rfl rfl (by kernel_rfl) (fun _ _ _ h => h) (Or.inl ⟨by rfl, fun w' s0 => ?ld⟩) hHeld ?_ ?_
  case ld => exact s0.1.load H3.out.1 (.tmp 4) rfl rfl
  rotate_left
  · simp only [Act.put, List.setIfInBounds_toArray, List.set_cons_zero, List.set_cons_succ, i64_w, i32_w]
    rfl
  refine take_ (i := 6) (N := some 33) (v := .agg csR) (a' := ?_) #[true, true, true, true, true, false, true, false, false, false] rfl rfl (by kernel_rfl) (fun _ _ _ h => h) (Or.inl ⟨by rfl, fun w' s0 => ?ld⟩) hHeld ?_ ?_
  case ld => exact s0.2.load H6.out.1 (.tmp 6) rfl rfl
  rotate_left
  · simp only [Act.put, List.setIfInBounds_toArray, List.set_cons_zero, List.set_cons_succ, i64_w, i32_w]
    rfl
  refine one_ (i := 5) (N := some 32) #[true, true, true, true, true, true, true, false, false, false] rfl rfl (by kernel_rfl) (by decide) (fun K hK => ?_)
  refine goes_ Tryd.func32 (by kernel_rfl) rfl #[.agg csA] (by rfl) rfl rfl (by (try simp only [List.map_toArray, List.map_cons, List.map_nil]); first | rfl | (go_simp; done)) ?_
  refine (modelOf_calls H3.out.1 HD.out.2.2.2.1 (by have := HX.out.2.2.1; omega)).mono ?_
  rintro e wE ⟨rE, YE, EE, ycE, ecE, rfl, hrv, hir, hbE⟩
  refine ⟨_, rfl, ?_⟩
  have HF1 := Aside0.mk (show RV rE x YE EE ycE ecE ∧ InR wE x YE EE ∧ InR wE x YR ER ∧ Below wd.heap.size wd wE from ⟨hrv, hir, HD.out.2.1.below hbE, hbE⟩)
  clear hbE hrv hir
  refine hK.out _ _ (⟨HD.out.2.2.1.below HF1.out.2.2.2, HD.out.1.below HF1.out.2.2.2⟩) (fun hHeld => ?_)
  clear hK K
  refine norm_ (a' := ?_) ?_ ?_
  rotate_left
  · show Act.put _ (some 32) _ = _
    simp only [Act.put, List.setIfInBounds_toArray, List.set_cons_zero, List.set_cons_succ, i64_w, i32_w]
    rfl
  refine one_ (i := 7) (N := some 34) #[true, true, true, true, true, true, true, true, false, false] rfl rfl (by kernel_rfl) (by decide) (fun K hK => ?_)
  refine goes_ Tryd.func36 (by kernel_rfl) rfl #[.agg rE, .agg csR] (by rfl) rfl rfl (by (try simp only [List.map_toArray, List.map_cons, List.map_nil]); first | rfl | (go_simp; done)) ?_
  refine (rosame_calls HF1.out.1 HF1.out.2.1 H6.out.1 HF1.out.2.2.1).mono ?_
  rintro e wG ⟨rfl, hbG⟩
  refine ⟨_, rfl, ?_⟩
  have HF2 := Aside0.mk (below_step HF1.out.2.2.2 hbG)
  clear hbG
  refine hK.out _ _ (⟨HD.out.2.2.1.below HF2.out, HD.out.1.below HF2.out⟩) (fun hHeld => ?_)
  clear hK K
  refine norm_ (a' := ?_) ?_ ?_
  rotate_left
  · show Act.put _ (some 34) _ = _
    simp only [Act.put, List.setIfInBounds_toArray, List.set_cons_zero, List.set_cons_succ, i64_w, i32_w]
    rfl
  refine pure_ (i := 8) (N := some 35) (v := ?_) (a' := ?_) #[true, true, true, true, true, true, true, true, true, false] rfl rfl (by kernel_rfl) (fun _ _ _ h => h) (Or.inl ⟨by rfl, ?_⟩) ?_ ?_
  rotate_left
  · intro w'
    go_simp
    with_reducible rfl
  rotate_left
  · simp only [Act.put, List.setIfInBounds_toArray, List.set_cons_zero, List.set_cons_succ, i64_w, i32_w]
    rfl
  refine pure_ (i := 9) (N := some 36) (v := ?_) (a' := ?_) #[true, true, true, true, true, true, true, true, true, true] rfl rfl (by kernel_rfl) (fun _ _ _ h => h) (Or.inl ⟨by rfl, ?_⟩) ?_ ?_
  rotate_left
  · intro w'
    go_simp
    with_reducible rfl
  rotate_left
  · simp only [Act.put, List.setIfInBounds_toArray, List.set_cons_zero, List.set_cons_succ, i64_w, i32_w]
    rfl
  refine done_ (by kernel_rfl) ?_
  clear hHeld
  have HZ := Aside0.mk (show OB wG g4 x AA YA EA bA yA eA ∧ InO wG x AA YA EA ∧ Below w.heap.size w wG from ⟨HD.out.2.2.1.below HF2.out, HD.out.2.2.2.1.below HF2.out, below_step HD.out.2.2.2.2 HF2.out⟩)
  by_cases hz : er = 0
  rotate_left
  · have d5 : (er != 0) = true := bne_iff_ne.2 hz
    clear hz
    go_wp2
    go_ret
    exact ⟨rfl, HZ.out.2.2⟩
  · subst hz
    have HPG := Aside0.mk (HX.out.2.2.2 rfl)
    go_wp2_with (first
      | ((with_reducible refine gate_dst (N := 40) rfl ?_); refine Kd.event_run rfl (v := .agg csA) (w1 := wG) ?hr ?_; (case hr => exact HZ.out.1.load H3.out.1 (.tmp 4) rfl rfl))
      | (go_at_call 30; go_loud (have hx := oput_calls (w := wG) H3.out.1 HZ.out.2.1; rw [HPG.out.1, if_pos rfl, HPG.out.2] at hx; refine hx.mono ?_; clear hx; rintro e wH ⟨v8, rfl, hv8, hbH⟩; obtain ⟨A8, c8, e8, hc8, hC8⟩ := Kd.R_reads hv8; subst e8; have hcv8 : (convert 27 9 (.slice A8 b.length c8)).run Tryd.prog wH = .ok (.string s) wH := (by rw [HB.out.2.2.2.2.2]; exact conv_row rfl hC8 (Below.refl _ _)); have hcv9 := HCV.out wH (below_step HZ.out.2.2 hbH); have HH := Aside0.mk (below_step HZ.out.2.2 hbH); clear hv8 hbH hc8 hC8)))
    go_ret
    exact ⟨rfl, HH.out⟩
theorem gts_row {a : Option Addr} {len cap : Nat} {zs : List Int} (h : InRow w a len cap zs) (hl : len * 1 ≤ 140737488351232) :
    Calls Tryd.prog 10 #[.slice a len cap] w fun e w' => e = .returned (.bool true) ∧ Below w.heap.size w w' := by
  obtain ⟨xs, rfl, hC, hc, hl2, hy⟩ := row_bytes h hl
  exact gts_law hC hc hl2 hy
end
end Go.Proofs.YtgjdcdhfijkoiaaDoor.Obj
end
