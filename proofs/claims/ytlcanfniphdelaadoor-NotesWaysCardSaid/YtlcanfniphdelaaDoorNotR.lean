/- The document's Get: the note under way. -/
import Derived.Test.YtlcanfniphdelaaDoorNotG
namespace Go.Proofs.YtlcanfniphdelaaDoor.Not
open Go.RowKit Go.Maps Go.Proofs.YtlcanfniphdelaaDoorW.PrintWords Go.Proofs.YtlcanfniphdelaaDoorW.PrintLast Go.Proofs.YtlcanfniphdelaaDoorW.PrintMore Go.Proofs.YtlcanfniphdelaaDoor.Mem Go.Proofs.YtlcanfniphdelaaDoor.Cod Go.Proofs.YtlcanfniphdelaaDoor.Ins Go.Proofs.YtlcanfniphdelaaDoor.Open Go.Proofs.YtlcanfniphdelaaDoor.PCod
set_option linter.unusedVariables false
set_option linter.unusedSimpArgs false
/-- Both together. -/
theorem get_calls {w : World} {xs : List Int} (A : Option Addr) (c : Nat) (hr : Kd.C (Kd.int .u8) w A xs.length xs) (hc : xs.length ≤ c) (hl : xs.length < 140737488355328) (hy : Byt xs) (hF : FAt w) :
    Calls Tryd.prog 13 #[.slice A xs.length c] w fun e w' => ∃ cs, e = .returned (.tuple #[.agg cs, .int .i64 (getM xs).1]) ∧ NoteR w' cs (getM xs).2 ∧ Below w.heap.size w w' := by
  by_cases he : (⟨xs, 0⟩ : RM).uint.1.e = 0
  · cases hk : kindOf (⟨xs, 0⟩ : RM).uint.2
    · refine (get_no2 A c hr hc hl hy he hk).mono ?_
      rintro e w' ⟨rfl, hb⟩
      have hM : getM xs = (11, GM.none) := by unfold getM; rw [if_neg (by rw [he]; simp), if_pos hk]
      rw [hM]
      exact ⟨_, rfl, noteR_none _, hb⟩
    · exact get_go A c hr hc hl hy hF he hk
  · refine (get_no1 A c hr hc hl hy he).mono ?_
    rintro e w' ⟨rfl, hb⟩
    have hM : getM xs = ((⟨xs, 0⟩ : RM).uint.1.e, GM.none) := by unfold getM; rw [if_pos he]
    rw [hM]
    exact ⟨_, rfl, noteR_none _, hb⟩
def rz28 : List Value := ncells 0 0 0 (List.replicate 32 0) (.string ByteArray.empty) (.slice none 0 0)
theorem build_r0 (W : World) : (Instr.build 36 #[]).run Tryd.prog W = .ok (.agg rz28.toArray) W := by kernel_rfl
theorem build_r1 (W : World) (k : Int) : (Instr.build 36 #[(0, .int .i64 k)]).run Tryd.prog W = .ok (.agg (ncells k 0 0 (List.replicate 32 0) (.string ByteArray.empty) (.slice none 0 0)).toArray) W := by kernel_rfl
theorem rz28_one : rz28.toArray.all (·.oneCell') = true := by kernel_rfl
def RNoteR (w' : World) (cs : Array Value) (g : GM) : Prop := ∃ Y yc, cs = (ncells g.k g.n g.o g.p (.string (S g.b)) (.slice Y g.ids.length yc)).toArray ∧ IdsAt w' Y g.ids
theorem S_nil : S [] = ByteArray.empty := rfl
theorem rnoteR_none (w' : World) : RNoteR w' rz28.toArray GM.none := ⟨none, 0, rfl, fun i hi => by cases hi⟩
structure RI (w wc : World) (gr gn : Nat) (R : RM) (k n o : Int) (p b : List Int) (ids : List (List Int)) (vY vW : Value) : Prop where
  w0 : Below w.heap.size w wc
  res : wc.heap[w.heap.size]? = some (.cells rz28.toArray 36 (0, 0))
  lo : w.heap.size < gr ∧ w.heap.size < gn
  rd : wc.heap[gr]? = some (.cells #[.string (S R.b), .int .i64 R.e] 68 (0, 0))
  by_ : Byt R.b
  nt : wc.heap[gn]? = some (.cells (ncells k n o p (.string (S b)) vY).toArray 36 (0, 0))
  wy : WayR wc w.heap.size vW ids
  pl : p.length = 32
theorem blk_ne {w : World} {x y : Nat} {a b : Array Value} {s t : TypeId} {f f' : Nat × Nat} (h : w.heap[x]? = some (.cells a s f)) (h' : w.heap[y]? = some (.cells b t f')) (hn : s ≠ t) : x ≠ y := by
  intro e
  rw [e, h'] at h
  injection h with h
  injection h with h1 h2 h3
  exact hn h2.symm
section
variable {w wc w9 : World} {gr gn : Nat} {R R' : RM} {k n o : Int} {p b : List Int} {ids : List (List Int)} {vY vW : Value}
theorem RI.ne (h : RI w wc gr gn R k n o p b ids vY vW) : gr ≠ gn := blk_ne h.rd h.nt (by decide)
theorem RI.below (h : RI w wc gr gn R k n o p b ids vY vW) (hb : Below wc.heap.size wc w9) : RI w w9 gr gn R k n o p b ids vY vW :=
  ⟨below_step h.w0 hb, (hb.block _ (blk_lt h.res)).trans h.res, h.lo, (hb.block _ (blk_lt h.rd)).trans h.rd, h.by_, (hb.block _ (blk_lt h.nt)).trans h.nt, own_kept h.wy (Kept.of_below hb (fun _ => False)) (fun _ _ e => e), h.pl⟩
theorem RI.setR (h : RI w wc gr gn R k n o p b ids vY vW) (hy : Byt R'.b) : RI w (wc.setRow gr #[.string (S R'.b), .int .i64 R'.e]) gr gn R' k n o p b ids vY vW := by
  have hk : Kept wc (wc.setRow gr #[.string (S R'.b), .int .i64 R'.e]) (fun x => x = gr) := ⟨by simp, fun i _ hn => setRow_other _ _ _ _ hn⟩
  exact ⟨below_setRow h.w0 (Nat.le_of_lt h.lo.1) _, blk_kept h.res hk (fun e => by have := h.lo.1; omega), h.lo, setRow_heap _ _ _ _ _ _ h.rd, hy, blk_kept h.nt hk (fun e => h.ne e.symm), own_kept h.wy hk (fun x hx e => own_ne h.wy h.rd (by decide) (by rw [hx, e])), h.pl⟩
theorem RI.write {k' n' o' : Int} {p' b' : List Int} {ids' : List (List Int)} {vY' vW' : Value} (h : RI w wc gr gn R k n o p b ids vY vW) (hk : Kept wc w9 (fun x => x = gn)) (hb : Below w.heap.size w w9) (hn : w9.heap[gn]? = some (.cells (ncells k' n' o' p' (.string (S b')) vY').toArray 36 (0, 0))) (hp : p'.length = 32) (hwy : WayR wc w.heap.size vW' ids') : RI w w9 gr gn R k' n' o' p' b' ids' vY' vW' :=
  ⟨hb, blk_kept h.res hk (fun e => by have := h.lo.2; omega), h.lo, blk_kept h.rd hk (fun e => h.ne e), h.by_, hn, own_kept hwy hk (fun x hx e => own_ne hwy h.nt (by decide) (by rw [hx, e])), hp⟩
theorem RI.cellN (h : RI w wc gr gn R k n o p b ids vY vW) (v : Int) : RI w (wc.setCell ⟨gn, 33, none⟩ (.int .u64 v)) gr gn R k v o p b ids vY vW := by
  refine h.write ((Kept.refl wc (fun x => x = gn)).setCell (p := ⟨gn, 33, none⟩) (.inl rfl) _) (below_set h.w0 (Nat.le_of_lt h.lo.2)) ?_ h.pl h.wy
  have e := blk_set h.nt 33 (.int .u64 v)
  rw [ncells_set k n o h.pl _ vY _ 0 (by omega)] at e
  exact e
theorem RI.cellO (h : RI w wc gr gn R k n o p b ids vY vW) (v : Int) : RI w (wc.setCell ⟨gn, 34, none⟩ (.int .u64 v)) gr gn R k n v p b ids vY vW := by
  refine h.write ((Kept.refl wc (fun x => x = gn)).setCell (p := ⟨gn, 34, none⟩) (.inl rfl) _) (below_set h.w0 (Nat.le_of_lt h.lo.2)) ?_ h.pl h.wy
  have e := blk_set h.nt 34 (.int .u64 v)
  rw [ncells_set k n o h.pl _ vY _ 1 (by omega)] at e
  exact e
theorem RI.cellB (h : RI w wc gr gn R k n o p b ids vY vW) (b' : List Int) : RI w (wc.setCell ⟨gn, 35, none⟩ (.string (S b'))) gr gn R k n o p b' ids vY vW := by
  refine h.write ((Kept.refl wc (fun x => x = gn)).setCell (p := ⟨gn, 35, none⟩) (.inl rfl) _) (below_set h.w0 (Nat.le_of_lt h.lo.2)) ?_ h.pl h.wy
  have e := blk_set h.nt 35 (.string (S b'))
  rw [ncells_set k n o h.pl _ vY _ 2 (by omega)] at e
  exact e
theorem RI.cellY (h : RI w wc gr gn R k n o p b ids vY vW) (v : Value) : RI w (wc.setCell ⟨gn, 36, none⟩ v) gr gn R k n o p b ids v vW := by
  refine h.write ((Kept.refl wc (fun x => x = gn)).setCell (p := ⟨gn, 36, none⟩) (.inl rfl) _) (below_set h.w0 (Nat.le_of_lt h.lo.2)) ?_ h.pl h.wy
  have e := blk_set h.nt 36 v
  rw [ncells_set k n o h.pl _ vY _ 3 (by omega)] at e
  exact e
theorem RI.cellP {q : List Int} (h : RI w wc gr gn R k n o p b ids vY vW) (hq : q.length = 32) : RI w (wc.setCells gn 1 (nums .u8 q)) gr gn R k n o q b ids vY vW := by
  refine h.write ⟨by rw [sets_size]; omega, fun i hi hn => sets_other _ _ _ i hn⟩ (below_sets (Nat.le_of_lt h.lo.2) _ _ _ h.w0) ?_ hq h.wy
  have e := blk_sets (nums .u8 q) _ 1 wc h.nt (by rw [nums_length, hq]; show 1 + 32 ≤ (Value.int .i64 k :: (nums .u8 p ++ _)).length; rw [List.length_cons, List.length_append, nums_length, h.pl]; simp)
  rw [e]
  congr 3
  rw [nums_length, hq]
  show [Value.int .i64 k] ++ nums .u8 q ++ List.drop 32 (nums .u8 p ++ _) = _
  rw [List.drop_append_of_le_length (by rw [nums_length, h.pl]; omega), List.drop_of_length_le (by rw [nums_length, h.pl]; omega)]
  rfl
theorem RI.grow {v1 : Value} {id : List Int} (h : RI w wc gr gn R k n o p b ids vY vW) (hw : w9.ownsRow w.heap.size 23 32 v1 (ids.length + 1) (nums .u8 ids.flatten ++ nums .u8 id)) (hb : Below w.heap.size w w9) (hg : wc.grownBy w9 vW.ownBlock) : RI w w9 gr gn R k n o p b (ids ++ [id]) vY v1 := by
  have hk : Kept wc w9 (fun x => vW.ownBlock = some x) := Kept.of_grown hg (Kept.refl wc _) (fun k e => .inl e)
  refine ⟨hb, blk_kept h.res hk (fun e => own_ne h.wy h.res (by decide) e.symm), h.lo, blk_kept h.rd hk (fun e => own_ne h.wy h.rd (by decide) e.symm), h.by_, blk_kept h.nt hk (fun e => own_ne h.wy h.nt (by decide) e.symm), ?_, h.pl⟩
  unfold WayR
  rw [List.length_append, List.flatten_append, nums_append]
  simpa using hw
theorem RI.cell (h : RI w wc gr gn R k n o p b ids vY vW) (j : Nat) : wc.cell? ⟨gn, j, none⟩ = (ncells k n o p (.string (S b)) vY)[j]? := by rw [blk_cell h.nt j]; simp
theorem RI.cells (h : RI w wc gr gn R k n o p b ids vY vW) : wc.cell? ⟨gn, 33, none⟩ = some (.int .u64 n) ∧ wc.cell? ⟨gn, 34, none⟩ = some (.int .u64 o) ∧ wc.cell? ⟨gn, 35, none⟩ = some (.string (S b)) ∧ wc.cell? ⟨gn, 36, none⟩ = some vY := by
  have hn : (nums .u8 p).length = 32 := by rw [nums_length, h.pl]
  have ht : ∀ j, 32 ≤ j → (ncells k n o p (.string (S b)) vY)[j + 1]? = [Value.int .u64 n, .int .u64 o, .string (S b), vY][j - 32]? := fun j hj => by
    show (nums .u8 p ++ _)[j]? = _
    rw [List.getElem?_append_right (by omega), hn]
  exact ⟨by rw [h.cell, ht 32 (by omega)]; rfl, by rw [h.cell, ht 33 (by omega)]; rfl, by rw [h.cell, ht 34 (by omega)]; rfl, by rw [h.cell, ht 35 (by omega)]; rfl⟩
section
variable {o' : Oper} {ev : Operand → Value}
theorem RI.putP {q : List Int} (h : RI w wc gr gn R k n o p b ids vY vW) (x y : Operand) (ho : o'.op = .store 23 x y) (hx : ev x = .pointer (some ⟨gn, 1, none⟩)) (hy : ev y = .agg (nums .u8 q).toArray) (hq : q.length = 32) :
    (execOp ev o').run Tryd.prog wc = .ok .skip (wc.setCells gn 1 (nums .u8 q)) :=
  exec_store_mid wc 23 x y ho gn 1 _ hx hy 36 _ h.nt (by rw [nums_length, hq]; kernel_rfl) (by rw [ncells_len _ _ _ h.pl, nums_length, hq]; omega) (nums_one q)
theorem RI.putY {A : Option Addr} {q c : Nat} (h : RI w wc gr gn R k n o p b ids vY vW) (x y : Operand) (ho : o'.op = .store 26 x y) (hx : ev x = .pointer (some ⟨gn, 36, none⟩)) (hy : ev y = .slice A q c) :
    (execOp ev o').run Tryd.prog wc = .ok .skip (wc.setCell ⟨gn, 36, none⟩ (.slice A q c)) := by
  have hc := h.cells.2.2.2
  have hf : wc.frozen? ⟨gn, 36, none⟩ = false := blk_frozen h.nt 36
  unfold execOp
  simp only [ho, hx, hy]
  go_simp
theorem RI.putN {v : Int} (h : RI w wc gr gn R k n o p b ids vY vW) (x y : Operand) (ho : o'.op = .store 24 x y) (hx : ev x = .pointer (some ⟨gn, 33, none⟩)) (hy : ev y = .int .u64 v) :
    (execOp ev o').run Tryd.prog wc = .ok .skip (wc.setCell ⟨gn, 33, none⟩ (.int .u64 v)) := by
  have hc := h.cells.1
  have hf : wc.frozen? ⟨gn, 33, none⟩ = false := blk_frozen h.nt 33
  unfold execOp
  simp only [ho, hx, hy]
  go_simp
theorem RI.putO {v : Int} (h : RI w wc gr gn R k n o p b ids vY vW) (x y : Operand) (ho : o'.op = .store 24 x y) (hx : ev x = .pointer (some ⟨gn, 34, none⟩)) (hy : ev y = .int .u64 v) :
    (execOp ev o').run Tryd.prog wc = .ok .skip (wc.setCell ⟨gn, 34, none⟩ (.int .u64 v)) := by
  have hc := h.cells.2.1
  have hf : wc.frozen? ⟨gn, 34, none⟩ = false := blk_frozen h.nt 34
  unfold execOp
  simp only [ho, hx, hy]
  go_simp
theorem RI.putB {s : ByteArray} (h : RI w wc gr gn R k n o p b ids vY vW) (x y : Operand) (ho : o'.op = .store 9 x y) (hx : ev x = .pointer (some ⟨gn, 35, none⟩)) (hy : ev y = .string s) :
    (execOp ev o').run Tryd.prog wc = .ok .skip (wc.setCell ⟨gn, 35, none⟩ (.string s)) := by
  have hc := h.cells.2.2.1
  have hf : wc.frozen? ⟨gn, 35, none⟩ = false := blk_frozen h.nt 35
  unfold execOp
  simp only [ho, hx, hy]
  go_simp
theorem RI.loadR (h : RI w wc gr gn R k n o p b ids vY vW) (x : Operand) (ho : o'.op = .load 68 x) (hx : ev x = .pointer (some ⟨gr, 0, none⟩)) : (execOp ev o').run Tryd.prog wc = .ok (.value (stV R)) wc :=
  exec_load_row wc 68 x ho gr hx 68 _ (0, 0) _ h.rd Tryd.underlying68 rfl (by kernel_rfl)
theorem RI.storeR (h : RI w wc gr gn R k n o p b ids vY vW) (x y : Operand) (ho : o'.op = .store 68 x y) (hx : ev x = .pointer (some ⟨gr, 0, none⟩)) (hy : ev y = stV R') : (execOp ev o').run Tryd.prog wc = .ok .skip (wc.setRow gr #[.string (S R'.b), .int .i64 R'.e]) :=
  exec_store_row wc 68 x y ho gr _ hx hy 68 _ h.rd (by kernel_rfl) rfl (by simp [Value.oneCell'])
end
theorem RI.other {gi : Nat} (h : RI w wc gr gn R k n o p b ids vY vW) (hk : Kept wc w9 (fun x => x = gi)) (hb : Below w.heap.size w w9) (h1 : w.heap.size ≠ gi) (h2 : gr ≠ gi) (h3 : gn ≠ gi) (h4 : ∀ x, vW.ownBlock = some x → x ≠ gi) : RI w w9 gr gn R k n o p b ids vY vW :=
  ⟨hb, blk_kept h.res hk h1, h.lo, blk_kept h.rd hk h2, h.by_, blk_kept h.nt hk h3, own_kept h.wy hk h4, h.pl⟩
theorem own_hi {w : World} {N0 e size n : Nat} {vW : Value} {xs : List Value} (h : w.ownsRow N0 e size vW n xs) : ∀ x, vW.ownBlock = some x → x < w.heap.size := by
  intro x hx
  rcases h.2 with ⟨rfl, _⟩ | ⟨b, cap, cur, rfl, hb, hh, _⟩
  · cases hx
  · cases hx; exact blk_lt hh
theorem RI.out (h : RI w wc gr gn R k n o p b ids vW vW) (hk : Kept wc w9 (fun x => x = w.heap.size)) (hl : ∀ x ∈ ids, x.length = 32 ∧ Byt x) : RNoteR w9 (ncells k n o p (.string (S b)) vW).toArray ⟨k, p, n, o, b, ids⟩ := by
  have hw9 : WayR w9 w.heap.size vW ids := own_kept h.wy hk (fun x hx e => own_ne h.wy h.res (by decide) (by rw [hx, e]))
  obtain ⟨Y, yc, rfl, hY⟩ := hw9.ids (getD_all hl)
  exact ⟨Y, yc, rfl, hY⟩
end
theorem ri_start {w w4 w5 : World} {gr gn kk : Nat} {R0 : RM} (h1 : w4.heap[gr]? = some (.cells #[.string (S R0.b), .int .i64 R0.e] 68 (0, 0))) (h2 : w4.heap[w.heap.size]? = some (.cells rz28.toArray 36 (0, 0))) (h3 : Below w.heap.size w w4) (l2 : w.heap.size < gr) (h5 : w5.heap[gn]? = some (.cells rz28.toArray 36 (0, 0))) (b5 : Below w4.heap.size w4 w5) (hgn : gn = w4.heap.size) (hy : Byt R0.b) :
    RI w (w5.setRow gn (ncells kk 0 0 (List.replicate 32 0) (.string ByteArray.empty) (.slice none 0 0)).toArray) gr gn R0 kk 0 0 zero32 [] [] (.slice none 0 0) (.slice none 0 0) := by
  obtain ⟨w6, hw6⟩ : ∃ w6, w6 = w5.setRow gn (ncells kk 0 0 (List.replicate 32 0) (.string ByteArray.empty) (.slice none 0 0)).toArray := ⟨_, rfl⟩
  rw [← hw6]
  have l1 := blk_lt h1
  have hk6 : Kept w5 w6 (fun x => x = gn) := by rw [hw6]; exact ⟨by simp, fun i _ hn => setRow_other _ _ _ _ hn⟩
  refine ⟨?_, blk_kept ((b5.block _ (blk_lt h2)).trans h2) hk6 (fun e => by omega), ⟨l2, by omega⟩, blk_kept ((b5.block _ l1).trans h1) hk6 (fun e => by omega), hy, ?_, World.ownsRow_nil _ _ _ _, rfl⟩
  · rw [hw6]; exact below_setRow (below_step h3 b5) (by omega) _
  · rw [hw6]; exact setRow_heap _ _ _ _ _ _ h5
end Go.Proofs.YtlcanfniphdelaaDoor.Not

/- The walk of the document's Get. -/
namespace Go.Proofs.YtlcanfniphdelaaDoor.Not
open Go.RowKit Go.Maps Go.Proofs.YtlcanfniphdelaaDoorW.PrintWords Go.Proofs.YtlcanfniphdelaaDoorW.PrintLast Go.Proofs.YtlcanfniphdelaaDoorW.PrintMore Go.Proofs.YtlcanfniphdelaaDoor.Mem Go.Proofs.YtlcanfniphdelaaDoor.Cod Go.Proofs.YtlcanfniphdelaaDoor.Ins Go.Proofs.YtlcanfniphdelaaDoor.Open Go.Proofs.YtlcanfniphdelaaDoor.PCod
set_option linter.unusedVariables false
set_option linter.unusedSimpArgs false
set_option maxRecDepth 8000
set_option maxHeartbeats 8000000
section
variable {w : World}
theorem rget_go {xs : List Int} (hy : Byt xs) (he : (⟨xs, 0⟩ : RM).uint.1.e = 0) (hk : kindOf (⟨xs, 0⟩ : RM).uint.2 = true) :
    Calls Tryd.prog 15 #[.string (S xs)] w fun e w' => ∃ cs, e = .returned (.tuple #[.agg cs, .int .i64 (getM xs).1]) ∧ RNoteR w' cs (getM xs).2 ∧ Below w.heap.size w w' := by
  obtain ⟨M, hM⟩ : ∃ M, M = getM xs := ⟨_, rfl⟩
  rw [← hM]
  unfold getM at hM
  rw [if_neg (by rw [he]; simp), if_neg (by rw [hk]; decide)] at hM
  obtain ⟨U, hU⟩ : ∃ U, U = (⟨xs, 0⟩ : RM).uint := ⟨_, rfl⟩
  have hby : Byt U.1.b := by rw [hU]; exact RM.uint_byt (R := ⟨xs, 0⟩) hy
  rw [← hU] at he hk hM
  obtain ⟨R0, k⟩ := U
  dsimp only at he hk hM hby
  have d1 : (R0.e != 0) = false := by rw [he]; rfl
  have hkr : 1 ≤ k ∧ k ≤ 14 := by unfold kindOf at hk; simpa using hk
  obtain ⟨kk, rfl⟩ : ∃ kk : Nat, k = kk := ⟨k.toNat, by omega⟩
  have hkk1 : 1 ≤ kk := by omega
  have hkk2 : kk ≤ 14 := by omega
  have hwi : wrap64 (kk : Int) = kk := IntWalk.wrap64_in _ ⟨by omega, by omega⟩
  have k1 : decide ((kk : Int) < 1) = false := decide_eq_false (by omega)
  have k14 : decide ((14 : Int) < (kk : Int)) = false := decide_eq_false (by omega)
  obtain ⟨fk, hfk⟩ : ∃ fk, fk = fld kk := ⟨_, rfl⟩
  unfold gR5 at hM
  rw [← hfk] at hM
  have HFK := Aside0.mk hfk
  have HM := Aside0.mk hM
  obtain ⟨s, hs⟩ : ∃ s, s = S xs := ⟨_, rfl⟩
  rw [← hs]
  have HU := Aside0.mk (And.intro hU (And.intro hy (And.intro hby hs)))
  clear hU hk hy hM hfk hkr hby he hs
  go_enter Tryd.func15, Tryd.ntmps15
  go_upto_region 2 with (first
    | ((with_reducible refine gate_dst (N := 2) rfl ?_); refine Kd.event_run rfl (v := .pointer (some ⟨w.heap.size, 0, none⟩)) (w1 := w.alloc (.cells rz28.toArray 36)) ?hr ?_; (case hr => first | kernel_rfl | (go_simp; done) | (go_simp; rfl)); go_loud (refine wpName (fun w1 hw1 => ?_); have H1 := Aside0.mk (And.intro (show w1.heap[w.heap.size]? = some (.cells rz28.toArray 36 (0, 0)) by rw [hw1]; exact blk_new w _) (show Below w.heap.size w w1 by rw [hw1]; exact below_alloc (Below.refl _ _) _)); clear hw1))
    | (go_at_call 38; go_loud (have hx := ref_uint (w := w1) (R := ⟨xs, 0⟩) HU.out.2.1; rw [← HU.out.1] at hx; rw [HU.out.2.2.2]; refine hx.mono ?_; clear hx; rintro e w2 ⟨rfl, hb2⟩; have H2 := Aside0.mk (And.intro ((hb2.block _ (blk_lt H1.out.1)).trans H1.out.1) (below_step H1.out.2 hb2)); clear hb2))
    | ((with_reducible refine gate_dst (N := 4) rfl ?_); refine Kd.event_run rfl (v := .pointer (some ⟨w2.heap.size, 0, none⟩)) (w1 := w2.alloc (.cells #[.string ByteArray.empty, .int .i64 0] 68)) ?hr ?_; (case hr => first | kernel_rfl | (go_simp; done) | (go_simp; rfl)); go_loud (refine wpName (fun w3 hw3 => ?_); obtain ⟨gr, hgr⟩ : ∃ gr, gr = w2.heap.size := ⟨_, rfl⟩; have H3 := Aside0.mk (And.intro (show w3.heap[gr]? = some (.cells #[.string ByteArray.empty, .int .i64 0] 68 (0, 0)) by rw [hw3, hgr]; exact blk_new w2 _) (And.intro (show Below w2.heap.size w2 w3 by rw [hw3]; exact below_alloc (Below.refl _ _) _) hgr)); rw [← hgr]; clear hw3 hgr))
    | ((with_reducible refine gate_store (ty := 68) (x := .tmp 4) (y := .tmp 16) rfl ?_); go_loud (refine store_event rfl (t := 68) (p := 4) (v := .tmp 16) rfl rfl (w1 := w3.setRow gr #[.string (S R0.b), .int .i64 R0.e]) ?hr ?_; (case hr => exact exec_store_row w3 68 (.tmp 4) (.tmp 16) rfl gr _ rfl rfl 68 _ H3.out.1 (by kernel_rfl) rfl (by simp [Value.oneCell'])); intro w4 hw4; have H4 := Aside0.mk (And.intro (show w4.heap[gr]? = some (.cells #[.string (S R0.b), .int .i64 R0.e] 68 (0, 0)) by rw [hw4]; exact setRow_heap _ _ _ _ _ _ H3.out.1) (And.intro (show w4.heap[w.heap.size]? = some (.cells rz28.toArray 36 (0, 0)) by rw [hw4, setRow_other _ _ _ _ (by rw [H3.out.2.2]; have := blk_lt H2.out.1; omega)]; exact (H3.out.2.1.block _ (blk_lt H2.out.1)).trans H2.out.1) (And.intro (show Below w.heap.size w w4 by rw [hw4]; exact below_setRow (below_step H2.out.2 H3.out.2.1) (by rw [H3.out.2.2]; exact H2.out.2.size) _) (show w.heap.size < gr by rw [H3.out.2.2]; exact blk_lt H2.out.1)))); clear hw4)))
  have cE : w4.cell? ⟨gr, 1, none⟩ = some (.int .i64 R0.e) := (blk_cell H4.out.1 1).trans rfl
  go_upto_if 36 with (first
    | ((with_reducible refine gate_dst (N := 34) rfl ?_); refine Kd.event_run rfl (v := .agg (ncells kk 0 0 (List.replicate 32 0) (.string ByteArray.empty) (.slice none 0 0)).toArray) (w1 := w4) ?hr ?_; (case hr => exact exec_build 36 (.tmp 33) (.int .i64 (kk : Int)) _ rfl (by first | rfl | (show Value.int .i64 (wrap64 (kk : Int)) = _; rw [hwi])) (build_r1 w4 kk)))
    | ((with_reducible refine gate_dst (N := 7) rfl ?_); refine Kd.event_run rfl (v := .pointer (some ⟨w4.heap.size, 0, none⟩)) (w1 := w4.alloc (.cells rz28.toArray 36)) ?hr ?_; (case hr => first | kernel_rfl | (go_simp; done) | (go_simp; rfl)); go_loud (refine wpName (fun w5 hw5 => ?_); obtain ⟨gn, hgn⟩ : ∃ gn, gn = w4.heap.size := ⟨_, rfl⟩; have H5 := Aside0.mk (And.intro (show w5.heap[gn]? = some (.cells rz28.toArray 36 (0, 0)) by rw [hw5, hgn]; exact blk_new w4 _) (And.intro (show Below w4.heap.size w4 w5 by rw [hw5]; exact below_alloc (Below.refl _ _) _) hgn)); rw [← hgn]; clear hw5 hgn))
    | ((with_reducible refine gate_store (ty := 36) (x := .tmp 7) (y := .tmp 34) rfl ?_); go_loud (refine store_event rfl (t := 36) (p := 7) (v := .tmp 34) rfl rfl (w1 := w5.setRow gn (ncells kk 0 0 (List.replicate 32 0) (.string ByteArray.empty) (.slice none 0 0)).toArray) ?hr ?_; (case hr => exact exec_store_row w5 36 (.tmp 7) (.tmp 34) rfl gn _ rfl rfl 36 _ H5.out.1 (by kernel_rfl) rfl (by kernel_rfl)); intro w6 hw6; have HP0 := Aside0.mk (show RI w w6 gr gn R0 kk 0 0 zero32 [] [] (.slice none 0 0) (.slice none 0 0) from (by rw [hw6]; exact ri_start H4.out.1 H4.out.2.1 H4.out.2.2.1 H4.out.2.2.2 H5.out.1 H5.out.2.1 H5.out.2.2 HU.out.2.2.1)); clear hw6))
    | (go_at_call 22; go_loud (have hx := r_pack (w := w6) hkk1 hkk2; rw [← HFK.out] at hx; refine hx.mono ?_; clear hx; rintro e w7 ⟨rfl, hb7⟩; have H7 := Aside0.mk (HP0.out.below hb7); clear hb7)))
  clear HP0
  go_cut [] (fun wc => Aside0 (RI w wc gr gn (g1 fk R0).1 kk 0 0 (g1 fk R0).2 [] [] (.slice none 0 0) (.slice none 0 0)))
  case first =>
    cases hd : fbit fk 1
    · go_wp2
      go_meet
      case rel => exact ⟨by rw [g1_off hd]; exact H7.out⟩
    · obtain ⟨Q, hQ⟩ : ∃ Q, Q = R0.id := ⟨_, rfl⟩
      have HQ := Aside0.mk hQ
      clear hQ
      go_wp2_with (first
        | ((with_reducible refine gate_dst (N := 38) rfl ?_); refine Kd.event_run rfl (v := stV R0) (w1 := w7) ?hr ?_; (case hr => exact H7.out.loadR (.tmp 4) rfl rfl))
        | (go_at_call 39; go_loud (have hx := ref_id (w := w7) H7.out.by_; rw [← HQ.out] at hx; refine hx.mono ?_; clear hx; rintro e w8 ⟨rfl, hb8⟩; have H8 := Aside0.mk (H7.out.below hb8); clear hb8))
        | ((with_reducible refine gate_store (ty := 68) (x := .tmp 4) (y := .tmp 40) rfl ?_); go_loud (refine store_event rfl (t := 68) (p := 4) (v := .tmp 40) rfl rfl (w1 := w8.setRow gr #[.string (S Q.1.b), .int .i64 Q.1.e]) ?hr ?_; (case hr => exact H8.out.storeR (.tmp 4) (.tmp 40) rfl rfl rfl); intro w9 hw9; have H9 := Aside0.mk (show RI w w9 gr gn Q.1 kk 0 0 zero32 [] [] (.slice none 0 0) (.slice none 0 0) from (by rw [hw9]; exact H8.out.setR (by rw [HQ.out]; exact (RM.id_byt H8.out.by_).1))); clear hw9))
        | ((with_reducible refine gate_store (ty := 23) (x := .tmp 42) (y := .tmp 41) rfl ?_); go_loud (refine store_event rfl (t := 23) (p := 42) (v := .tmp 41) rfl rfl (w1 := w9.setCells gn 1 (nums .u8 Q.2)) ?hr ?_; (case hr => exact H9.out.putP (.tmp 42) (.tmp 41) rfl rfl rfl (by rw [HQ.out]; exact RM.id_len R0)); intro w10 hw10; have H10 := Aside0.mk (show RI w w10 gr gn Q.1 kk 0 0 Q.2 [] [] (.slice none 0 0) (.slice none 0 0) from (by rw [hw10]; exact H9.out.cellP (by rw [HQ.out]; exact RM.id_len R0))); clear hw10)))
      go_meet
      case rel => exact ⟨by rw [g1_on hd, ← HQ.out]; exact H10.out⟩
  case rest =>
    have HP1 := hcut
    clear hcut H7
    obtain ⟨Q1, hQ1⟩ : ∃ Q1, Q1 = g1 fk R0 := ⟨_, rfl⟩
    rw [← hQ1] at HP1 HM
    have HQ1 := Aside0.mk hQ1
    clear hQ1
    go_upto_if 44 with (go_at_call 23; go_loud (have hx := r_number (w := wc) hkk1 hkk2; rw [← HFK.out] at hx; refine hx.mono ?_; clear hx; rintro e w7 ⟨rfl, hb7⟩; have H7 := Aside0.mk (HP1.out.below hb7); clear hb7))
    clear HP1
    go_cut [] (fun wc => Aside0 (RI w wc gr gn (g2 fk 2 Q1.1).1 kk (g2 fk 2 Q1.1).2 0 Q1.2 [] [] (.slice none 0 0) (.slice none 0 0)))
    case first =>
      cases hd : fbit fk 2
      · go_wp2
        go_meet
        case rel => exact ⟨by rw [g2_off hd]; exact H7.out⟩
      · obtain ⟨Q, hQ⟩ : ∃ Q, Q = Q1.1.uint := ⟨_, rfl⟩
        have HQ := Aside0.mk hQ
        clear hQ
        go_wp2_with (first
          | ((with_reducible refine gate_dst (N := 46) rfl ?_); refine Kd.event_run rfl (v := stV Q1.1) (w1 := w7) ?hr ?_; (case hr => exact H7.out.loadR (.tmp 4) rfl rfl))
          | (go_at_call 38; go_loud (have hx := ref_uint (w := w7) H7.out.by_; rw [← HQ.out] at hx; refine hx.mono ?_; clear hx; rintro e w8 ⟨rfl, hb8⟩; have H8 := Aside0.mk (H7.out.below hb8); clear hb8))
          | ((with_reducible refine gate_store (ty := 68) (x := .tmp 4) (y := .tmp 48) rfl ?_); go_loud (refine store_event rfl (t := 68) (p := 4) (v := .tmp 48) rfl rfl (w1 := w8.setRow gr #[.string (S Q.1.b), .int .i64 Q.1.e]) ?hr ?_; (case hr => exact H8.out.storeR (.tmp 4) (.tmp 48) rfl rfl rfl); intro w9 hw9; have H9 := Aside0.mk (show RI w w9 gr gn Q.1 kk 0 0 Q1.2 [] [] (.slice none 0 0) (.slice none 0 0) from (by rw [hw9]; exact H8.out.setR (by rw [HQ.out]; exact RM.uint_byt H8.out.by_))); clear hw9))
          | ((with_reducible refine gate_store (ty := 24) (x := .tmp 50) (y := .tmp 49) rfl ?_); go_loud (refine store_event rfl (t := 24) (p := 50) (v := .tmp 49) rfl rfl (w1 := w9.setCell ⟨gn, 33, none⟩ (.int .u64 Q.2)) ?hr ?_; (case hr => exact H9.out.putN (.tmp 50) (.tmp 49) rfl rfl rfl); intro w10 hw10; have H10 := Aside0.mk (show RI w w10 gr gn Q.1 kk Q.2 0 Q1.2 [] [] (.slice none 0 0) (.slice none 0 0) from (by rw [hw10]; exact H9.out.cellN _)); clear hw10)))
        go_meet
        case rel => exact ⟨by rw [g2_on hd, ← HQ.out]; exact H10.out⟩
    case rest =>
      have HP2 := hcut
      clear hcut H7
      obtain ⟨Q2, hQ2⟩ : ∃ Q2, Q2 = g2 fk 2 Q1.1 := ⟨_, rfl⟩
      rw [← hQ2] at HP2 HM
      have HQ2 := Aside0.mk hQ2
      clear hQ2
      go_upto_if 52 with (go_at_call 24; go_loud (have hx := r_nonce (w := wc) hkk1 hkk2; rw [← HFK.out] at hx; refine hx.mono ?_; clear hx; rintro e w7 ⟨rfl, hb7⟩; have H7 := Aside0.mk (HP2.out.below hb7); clear hb7))
      clear HP2
      go_cut [] (fun wc => Aside0 (RI w wc gr gn (g2 fk 4 Q2.1).1 kk Q2.2 (g2 fk 4 Q2.1).2 Q1.2 [] [] (.slice none 0 0) (.slice none 0 0)))
      case first =>
        cases hd : fbit fk 4
        · go_wp2
          go_meet
          case rel => exact ⟨by rw [g2_off hd]; exact H7.out⟩
        · obtain ⟨Q, hQ⟩ : ∃ Q, Q = Q2.1.uint := ⟨_, rfl⟩
          have HQ := Aside0.mk hQ
          clear hQ
          go_wp2_with (first
            | ((with_reducible refine gate_dst (N := 54) rfl ?_); refine Kd.event_run rfl (v := stV Q2.1) (w1 := w7) ?hr ?_; (case hr => exact H7.out.loadR (.tmp 4) rfl rfl))
            | (go_at_call 38; go_loud (have hx := ref_uint (w := w7) H7.out.by_; rw [← HQ.out] at hx; refine hx.mono ?_; clear hx; rintro e w8 ⟨rfl, hb8⟩; have H8 := Aside0.mk (H7.out.below hb8); clear hb8))
            | ((with_reducible refine gate_store (ty := 68) (x := .tmp 4) (y := .tmp 56) rfl ?_); go_loud (refine store_event rfl (t := 68) (p := 4) (v := .tmp 56) rfl rfl (w1 := w8.setRow gr #[.string (S Q.1.b), .int .i64 Q.1.e]) ?hr ?_; (case hr => exact H8.out.storeR (.tmp 4) (.tmp 56) rfl rfl rfl); intro w9 hw9; have H9 := Aside0.mk (show RI w w9 gr gn Q.1 kk Q2.2 0 Q1.2 [] [] (.slice none 0 0) (.slice none 0 0) from (by rw [hw9]; exact H8.out.setR (by rw [HQ.out]; exact RM.uint_byt H8.out.by_))); clear hw9))
            | ((with_reducible refine gate_store (ty := 24) (x := .tmp 58) (y := .tmp 57) rfl ?_); go_loud (refine store_event rfl (t := 24) (p := 58) (v := .tmp 57) rfl rfl (w1 := w9.setCell ⟨gn, 34, none⟩ (.int .u64 Q.2)) ?hr ?_; (case hr => exact H9.out.putO (.tmp 58) (.tmp 57) rfl rfl rfl); intro w10 hw10; have H10 := Aside0.mk (show RI w w10 gr gn Q.1 kk Q2.2 Q.2 Q1.2 [] [] (.slice none 0 0) (.slice none 0 0) from (by rw [hw10]; exact H9.out.cellO _)); clear hw10)))
          go_meet
          case rel => exact ⟨by rw [g2_on hd, ← HQ.out]; exact H10.out⟩
      case rest =>
        have HP3 := hcut
        clear hcut H7
        obtain ⟨Q3, hQ3⟩ : ∃ Q3, Q3 = g2 fk 4 Q2.1 := ⟨_, rfl⟩
        rw [← hQ3] at HP3 HM
        obtain ⟨Q4, hQ4⟩ : ∃ Q4, Q4 = g4 fk kk Q3.1 := ⟨_, rfl⟩
        rw [← hQ4] at HM
        have HQ4 := Aside0.mk hQ4
        clear hQ3 hQ4 HQ1 HQ2
        go_upto_if 60 with (go_at_call 25; go_loud (have hx := r_bytes (w := wc) hkk1 hkk2; rw [← HFK.out] at hx; refine hx.mono ?_; clear hx; rintro e w7 ⟨rfl, hb7⟩; have H7 := Aside0.mk (HP3.out.below hb7); clear hb7))
        clear HP3
        go_cut [] (fun wc => Aside0 (RI w wc gr gn Q4.1 kk Q2.2 Q3.2 Q1.2 Q4.2 [] (.slice none 0 0) (.slice none 0 0)))
        case first =>
          cases hd : fbit fk 8
          · go_wp2
            go_meet
            case rel => exact ⟨by rw [HQ4.out, g4_off hd]; exact H7.out⟩
          · have HD8 := Aside0.mk hd
            clear hd
            go_upto_region 15 with (fail)
            obtain ⟨wd, hwd⟩ : ∃ wd, wd = w7.drew := ⟨_, rfl⟩
            have HId : Aside0 (RI w wd gr gn Q3.1 kk Q2.2 Q3.2 Q1.2 [] [] (.slice none 0 0) (.slice none 0 0)) := ⟨H7.out.below (by rw [hwd]; exact below_drew1 (Below.refl _ _))⟩
            clear H7
            refine start_ (n := 10) (S := fun w' => w'.heap[gr]? = some (.cells #[.string (S Q3.1.b), .int .i64 Q3.1.e] 68 (0, 0))) (ds := [7, 9]) #[false, false, false, false, false, false, false, false, false, false] (by kernel_rfl) rfl rfl (by rw [← hwd]; exact HId.out.rd) (fun hHeld => ?_)
            rw [← hwd] at hHeld ⊢
            clear hwd
            refine take_ (i := 0) (N := some 62) (v := stV Q3.1) (a' := ?_) #[true, false, false, false, false, false, false, false, false, false] rfl rfl (by kernel_rfl) (fun _ _ _ h => h) (Or.inl ⟨by rfl, fun w' s0 => ?ld⟩) hHeld ?_ ?_
            case ld => exact exec_load_row w' 68 (.tmp 4) rfl gr rfl 68 _ (0, 0) _ s0 Tryd.underlying68 rfl (by kernel_rfl)
            rotate_left
            · simp only [Act.put, List.setIfInBounds_toArray, List.set_cons_zero, List.set_cons_succ, i64_w, i32_w]
              rfl
            refine pure_ (i := 1) (N := some 63) (v := ?_) (a' := ?_) #[true, true, false, false, false, false, false, false, false, false] rfl rfl (by kernel_rfl) (fun _ _ _ h => h) (Or.inl ⟨by rfl, ?_⟩) ?_ ?_
            rotate_left
            · intro w'
              go_simp
              with_reducible rfl
            rotate_left
            · simp only [Act.put, List.setIfInBounds_toArray, List.set_cons_zero, List.set_cons_succ, i64_w, i32_w]
              rfl
            refine one_ (i := 2) (N := some 64) #[true, true, true, false, false, false, false, false, false, false] rfl rfl (by kernel_rfl) (by decide) (fun K hK => ?_)
            refine goes_ Tryd.func31 (by kernel_rfl) rfl #[.int .i64 (kk : Int)] (by rfl) rfl rfl (by (try simp only [List.map_toArray, List.map_cons, List.map_nil]); first | rfl | (go_simp; done)) ?_
            refine (r_most (kk : Int)).mono ?_
            rintro e w8 ⟨rfl, hb8⟩
            refine ⟨_, rfl, ?_⟩
            have H8 := Aside0.mk (HId.out.below hb8)
            clear hb8
            refine hK.out _ _ (H8.out.rd) (fun hHeld => ?_)
            clear hK K
            refine norm_ (a' := ?_) ?_ ?_
            rotate_left
            · show Act.put _ (some 64) _ = _
              simp only [Act.put, List.setIfInBounds_toArray, List.set_cons_zero, List.set_cons_succ, i64_w, i32_w]
              rfl
            obtain ⟨Q, hQ⟩ : ∃ Q, Q = Q3.1.bytes (mostOf kk) := ⟨_, rfl⟩
            have HQ := Aside0.mk hQ
            clear hQ
            refine one_ (i := 3) (N := some 65) #[true, true, true, true, false, false, false, false, false, false] rfl rfl (by kernel_rfl) (by decide) (fun K hK => ?_)
            refine goes_ Tryd.func40 (by kernel_rfl) rfl #[stV Q3.1, .int .i64 (mostOf kk)] (by rfl) rfl rfl (by (try simp only [List.map_toArray, List.map_cons, List.map_nil]); first | rfl | (go_simp; done)) ?_
            have hx := ref_bytes (w := w8) H8.out.by_ (mostOf kk) (by unfold mostOf; split <;> omega)
            rw [← HQ.out] at hx
            refine hx.mono ?_
            clear hx
            rintro e w9 ⟨rfl, hb9⟩
            refine ⟨_, rfl, ?_⟩
            have H9 := Aside0.mk (H8.out.below hb9)
            clear hb9
            refine hK.out _ _ (H9.out.rd) (fun hHeld => ?_)
            clear hK K
            refine norm_ (a' := ?_) ?_ ?_
            rotate_left
            · show Act.put _ (some 65) _ = _
              simp only [Act.put, List.setIfInBounds_toArray, List.set_cons_zero, List.set_cons_succ, i64_w, i32_w]
              rfl
            refine pure_ (i := 4) (N := some 61) (v := ?_) (a' := ?_) #[true, true, true, true, true, false, false, false, false, false] rfl rfl (by kernel_rfl) (fun _ _ _ h => h) (Or.inl ⟨by rfl, ?_⟩) ?_ ?_
            rotate_left
            · intro w'
              go_simp
              with_reducible rfl
            rotate_left
            · simp only [Act.put, List.setIfInBounds_toArray, List.set_cons_zero, List.set_cons_succ, i64_w, i32_w]
              rfl
            refine pure_ (i := 5) (N := some 66) (v := ?_) (a' := ?_) #[true, true, true, true, true, true, false, false, false, false] rfl rfl (by kernel_rfl) (fun _ _ _ h => h) (Or.inl ⟨by rfl, ?_⟩) ?_ ?_
            rotate_left
            · intro w'
              go_simp
              with_reducible rfl
            rotate_left
            · simp only [Act.put, List.setIfInBounds_toArray, List.set_cons_zero, List.set_cons_succ, i64_w, i32_w]
              rfl
            refine pure_ (i := 6) (N := some 67) (v := ?_) (a' := ?_) #[true, true, true, true, true, true, true, false, false, false] rfl rfl (by kernel_rfl) (fun _ _ _ h => h) (Or.inl ⟨by rfl, ?_⟩) ?_ ?_
            rotate_left
            · intro w'
              go_simp
              with_reducible rfl
            rotate_left
            · simp only [Act.put, List.setIfInBounds_toArray, List.set_cons_zero, List.set_cons_succ, i64_w, i32_w]
              rfl
            refine last_ (i := 7) (N := none) #[true, true, true, true, true, true, true, true, false, false] rfl rfl (by kernel_rfl) (by decide) (fun K hK => ?_)
            refine skip_ (w1 := w9.setRow gr #[.string (S Q.1.b), .int .i64 Q.1.e]) (by rfl) rfl ?hr ?_
            case hr => exact H9.out.storeR (.tmp 4) (.tmp 66) rfl rfl rfl
            obtain ⟨w10, hw10⟩ : ∃ w10, w10 = w9.setRow gr #[.string (S Q.1.b), .int .i64 Q.1.e] := ⟨_, rfl⟩
            have HA : Aside0 (RI w w10 gr gn Q.1 kk Q2.2 Q3.2 Q1.2 [] [] (.slice none 0 0) (.slice none 0 0)) := ⟨by rw [hw10]; exact H9.out.setR (by rw [HQ.out]; exact (RM.bytes_byt H8.out.by_ _).1)⟩
            rw [← hw10]
            clear hw10
            refine hK.out _ _ ?_
            clear hK K
            refine pure_ (i := 8) (N := some 68) (v := ?_) (a' := ?_) #[true, true, true, true, true, true, true, true, true, false] rfl rfl (by kernel_rfl) (fun _ _ _ h => h) (Or.inl ⟨by rfl, ?_⟩) ?_ ?_
            rotate_left
            · intro w'
              go_simp
              with_reducible rfl
            rotate_left
            · simp only [Act.put, List.setIfInBounds_toArray, List.set_cons_zero, List.set_cons_succ, i64_w, i32_w]
              rfl
            refine last_ (i := 9) (N := none) #[true, true, true, true, true, true, true, true, true, true] rfl rfl (by kernel_rfl) (by decide) (fun K hK => ?_)
            refine skip_ (w1 := w10.setCell ⟨gn, 35, none⟩ (.string (S Q.2))) (by rfl) rfl ?hr ?_
            case hr => exact HA.out.putB (.tmp 68) (.tmp 67) rfl rfl rfl
            obtain ⟨w11, hw11⟩ : ∃ w11, w11 = w10.setCell ⟨gn, 35, none⟩ (.string (S Q.2)) := ⟨_, rfl⟩
            have HB : Aside0 (RI w w11 gr gn Q.1 kk Q2.2 Q3.2 Q1.2 Q.2 [] (.slice none 0 0) (.slice none 0 0)) := ⟨by rw [hw11]; exact HA.out.cellB _⟩
            rw [← hw11]
            clear hw11
            refine hK.out _ _ ?_
            clear hK K
            refine done_ (by kernel_rfl) ?_
            go_wp2
            go_meet
            case rel => exact ⟨by rw [HQ4.out, g4_on HD8.out, ← HQ.out]; exact HB.out⟩
        case rest =>
          have HP4 := hcut
          clear hcut H7
          obtain ⟨W, hW⟩ : ∃ W, W = gWay fk Q4.1 := ⟨_, rfl⟩
          rw [← hW] at HM
          have HM2 : Aside0 (M = if 64 < W.2 then (11, GM.none) else if (idsM W.2.toNat W.1).1.end_ ≠ 0 then ((idsM W.2.toNat W.1).1.end_, GM.none) else (0, ⟨kk, Q1.2, Q2.2, Q3.2, Q4.2, (idsM W.2.toNat W.1).2⟩)) := ⟨HM.out⟩
          have HW := Aside0.mk hW
          have HBy : Aside0 (Byt W.1.b) := ⟨by
            rw [hW]
            unfold gWay
            split
            · exact RM.uint_byt HP4.out.by_
            · exact HP4.out.by_⟩
          clear HM hW
          go_upto_if 70 with (go_at_call 27; go_loud (have hx := r_way (w := wc) hkk1 hkk2; rw [← HFK.out] at hx; refine hx.mono ?_; clear hx; rintro e w7 ⟨rfl, hb7⟩; have H7 := Aside0.mk (HP4.out.below hb7); clear hb7))
          clear HP4
          go_cut [] (fun wc => ∃ vW, Aside0 (W.2 ≤ 64 ∧ RI w wc gr gn (idsM W.2.toNat W.1).1 kk Q2.2 Q3.2 Q1.2 Q4.2 (idsM W.2.toNat W.1).2 vW vW))
          case first =>
            cases hd : fbit fk 16
            · go_wp2
              go_meet
              case rel => exact ⟨_, ⟨by rw [HW.out, gWay_off hd]; exact ⟨show (0 : Int) ≤ 64 by omega, H7.out⟩⟩⟩
            · have HWe : Aside0 (W = Q4.1.uint) := ⟨by rw [HW.out, gWay_on hd]⟩
              clear HW hd
              obtain ⟨Rw, m⟩ := W
              dsimp only at HM2 HBy ⊢
              have hm0 : 0 ≤ m ∧ m ≤ 18446744073709551615 := by have h := RM.uint_bd H7.out.by_; rw [← HWe.out] at h; exact h
              by_cases hbig : 64 < m
              · have d3 : decide (64 < m) = true := decide_eq_true hbig
                have HZ := Aside0.mk hbig
                clear hbig hm0
                go_wp2_with (first
                  | ((with_reducible refine gate_dst (N := 72) rfl ?_); refine Kd.event_run rfl (v := stV Q4.1) (w1 := w7) ?hr ?_; (case hr => exact H7.out.loadR (.tmp 4) rfl rfl))
                  | (go_at_call 38; go_loud (have hx := ref_uint (w := w7) H7.out.by_; rw [← HWe.out] at hx; refine hx.mono ?_; clear hx; rintro e w8 ⟨rfl, hb8⟩; have H8 := Aside0.mk (H7.out.below hb8); clear hb8))
                  | ((with_reducible refine gate_store (ty := 68) (x := .tmp 4) (y := .tmp 74) rfl ?_); go_loud (refine store_event rfl (t := 68) (p := 4) (v := .tmp 74) rfl rfl (w1 := w8.setRow gr #[.string (S Rw.b), .int .i64 Rw.e]) ?hr ?_; (case hr => exact H8.out.storeR (.tmp 4) (.tmp 74) rfl rfl rfl); intro w9 hw9; have H9 := Aside0.mk (show RI w w9 gr gn Rw kk Q2.2 Q3.2 Q1.2 Q4.2 [] (.slice none 0 0) (.slice none 0 0) from (by rw [hw9]; exact H8.out.setR HBy.out)); clear hw9))
                  | ((with_reducible refine gate_dst (N := 78) rfl ?_); refine Kd.event_run rfl (v := .agg rz28.toArray) (w1 := w9) ?hr ?_; (case hr => first | kernel_rfl | (go_simp; done) | (go_simp; rfl)))
                  | ((with_reducible refine gate_store (ty := 36) (x := .tmp 2) (y := .tmp 78) rfl ?_); go_loud (refine wpList_store_row rfl 36 (.tmp 2) (.tmp 78) rfl w.heap.size rz28.toArray rfl rfl 36 rz28.toArray H9.out.res (by kernel_rfl) rfl rz28_one ?_; refine wpName (fun w10 hw10 => ?_); have H10 := Aside0.mk (And.intro (show w10.heap[w.heap.size]? = some (.cells rz28.toArray 36 (0, 0)) by rw [hw10]; exact setRow_heap _ _ _ _ _ _ H9.out.res) (show Below w.heap.size w w10 by rw [hw10]; exact below_setRow H9.out.w0 (Nat.le_refl _) _)); clear hw10)))
                refine bodyPost_ret (results_ct rfl _ _ w.heap.size 36 rz28.toArray (0, 0) _ rfl H10.out.1 Tryd.underlying36 rfl (by kernel_rfl)) rfl ?_
                rw [HM2.out, if_pos HZ.out]
                exact ⟨_, rfl, rnoteR_none _, H10.out.2⟩
              · have d3 : decide (64 < m) = false := decide_eq_false hbig
                have HZ := Aside0.mk (And.intro hm0 hbig)
                clear hm0 hbig
                go_wp2_with (first
                  | ((with_reducible refine gate_dst (N := 72) rfl ?_); refine Kd.event_run rfl (v := stV Q4.1) (w1 := w7) ?hr ?_; (case hr => exact H7.out.loadR (.tmp 4) rfl rfl))
                  | (go_at_call 38; go_loud (have hx := ref_uint (w := w7) H7.out.by_; rw [← HWe.out] at hx; refine hx.mono ?_; clear hx; rintro e w8 ⟨rfl, hb8⟩; have H8 := Aside0.mk (H7.out.below hb8); clear hb8))
                  | ((with_reducible refine gate_store (ty := 68) (x := .tmp 4) (y := .tmp 74) rfl ?_); go_loud (refine store_event rfl (t := 68) (p := 4) (v := .tmp 74) rfl rfl (w1 := w8.setRow gr #[.string (S Rw.b), .int .i64 Rw.e]) ?hr ?_; (case hr => exact H8.out.storeR (.tmp 4) (.tmp 74) rfl rfl rfl); intro w9 hw9; have H9 := Aside0.mk (show RI w w9 gr gn Rw kk Q2.2 Q3.2 Q1.2 Q4.2 [] (.slice none 0 0) (.slice none 0 0) from (by rw [hw9]; exact H8.out.setR HBy.out)); clear hw9)))
                clear H7 H8 HWe
                go_loopg [9] m.toNat (fun q v9 wr => ∃ (i : Nat) (vW : Value), v9 = .int .u64 i ∧ q + i = m.toNat ∧ Aside0 (RI w wr gr gn (idsM i Rw).1 kk Q2.2 Q3.2 Q1.2 Q4.2 (idsM i Rw).2 vW vW))
                case atStart => exact ⟨0, _, rfl, by omega, H9⟩
                case round =>
                  clear H9
                  obtain ⟨i, vW, rfl, hq, hI⟩ := hrel
                  by_cases hlt : i < m.toNat
                  · have d2 : decide ((i : Int) < m) = true := decide_eq_true (by omega)
                    obtain ⟨R1, hR1⟩ : ∃ R1, R1 = (idsM i Rw).1 := ⟨_, rfl⟩
                    obtain ⟨ids, hids⟩ : ∃ ids, ids = (idsM i Rw).2 := ⟨_, rfl⟩
                    obtain ⟨Q, hQ⟩ : ∃ Q, Q = R1.id := ⟨_, rfl⟩
                    rw [← hR1, ← hids] at hI
                    have hil : ids.length ≤ 64 := by rw [hids, (idsM_ok HBy.out i).2.1]; have := HZ.out.2; omega
                    have HR := Aside0.mk (And.intro hR1 (And.intro hids (And.intro hQ (And.intro hil (show Q.2.length = 32 by rw [hQ]; exact RM.id_len R1)))))
                    clear hR1 hids hQ hil
                    have HGI := Aside0.mk (And.intro (blk_lt hI.out.res) (And.intro (blk_lt hI.out.rd) (And.intro (blk_lt hI.out.nt) (own_hi hI.out.wy))))
                    obtain ⟨gi, hgi⟩ : ∃ gi, gi = wr.heap.size := ⟨_, rfl⟩
                    rw [← hgi] at HGI
                    have HGE := Aside0.mk hgi
                    clear hgi
                    go_wp2_with (first
                      | ((with_reducible refine gate_dst (N := 10) rfl ?_); go_loud (refine Kd.event_run (v := .pointer (some ⟨wr.heap.size, 0, none⟩)) (w1 := wr.alloc (.cells zidL.toArray 23)) rfl ?hr ?_; (case hr => first | (go_simp; done) | (go_simp; rfl)); refine wpName (fun wa hwa => ?_); have HA := Aside0.mk (And.intro (show RI w wa gr gn R1 kk Q2.2 Q3.2 Q1.2 Q4.2 ids vW vW from (by rw [hwa]; exact hI.out.below (below_alloc (Below.refl _ _) _))) (show wa.heap[gi]? = some (.cells zidL.toArray 23 (0, 0)) by rw [hwa, HGE.out]; exact blk_new wr _)); rw [← HGE.out]; clear hwa))
                      | ((with_reducible refine gate_dst (N := 85) rfl ?_); refine Kd.event_run rfl (v := stV R1) (w1 := wa) ?hr ?_; (case hr => exact HA.out.1.loadR (.tmp 4) rfl rfl))
                      | (go_at_call 39; go_loud (have hx := ref_id (w := wa) HA.out.1.by_; rw [← HR.out.2.2.1] at hx; refine hx.mono ?_; clear hx; rintro e wb ⟨rfl, hbb⟩; have HB := Aside0.mk (And.intro (HA.out.1.below hbb) ((hbb.block _ (blk_lt HA.out.2)).trans HA.out.2)); clear hbb))
                      | ((with_reducible refine gate_store (ty := 68) (x := .tmp 4) (y := .tmp 87) rfl ?_); go_loud (refine store_event rfl (t := 68) (p := 4) (v := .tmp 87) rfl rfl (w1 := wb.setRow gr #[.string (S Q.1.b), .int .i64 Q.1.e]) ?hr ?_; (case hr => exact HB.out.1.storeR (.tmp 4) (.tmp 87) rfl rfl rfl); intro wd hwd; have HD := Aside0.mk (And.intro (show RI w wd gr gn Q.1 kk Q2.2 Q3.2 Q1.2 Q4.2 ids vW vW from (by rw [hwd]; exact HB.out.1.setR (by rw [HR.out.2.2.1]; exact (RM.id_byt HB.out.1.by_).1))) (show wd.heap[gi]? = some (.cells zidL.toArray 23 (0, 0)) by rw [hwd, setRow_other _ _ _ _ (by have := HGI.out.2.1; omega)]; exact HB.out.2)); clear hwd))
                      | ((with_reducible refine gate_store (ty := 23) (x := .tmp 10) (y := .tmp 88) rfl ?_); go_loud (refine store_event rfl (t := 23) (p := 10) (v := .tmp 88) rfl rfl (w1 := wd.setRow gi (nums .u8 Q.2).toArray) ?hr ?_; (case hr => exact exec_store_row wd 23 (.tmp 10) (.tmp 88) rfl gi _ rfl rfl 23 _ HD.out.2 (by rw [List.size_toArray, nums_length, HR.out.2.2.2.2]; kernel_rfl) (by rw [List.size_toArray, List.size_toArray, nums_length, HR.out.2.2.2.2]; rfl) (by rw [Array.all_eq_true_iff_forall_mem]; intro v hv; exact nums_one Q.2 v (List.mem_toArray.1 hv))); intro we hwe; have HE := Aside0.mk (And.intro (show RI w we gr gn Q.1 kk Q2.2 Q3.2 Q1.2 Q4.2 ids vW vW from (HD.out.1.other (gi := gi) (by rw [hwe]; exact ⟨by simp, fun i _ hn => setRow_other _ _ _ _ hn⟩) (by rw [hwe]; exact below_setRow HD.out.1.w0 (by have := HGI.out.1; omega) _) (by have := HGI.out.1; omega) (by have := HGI.out.2.1; omega) (by have := HGI.out.2.2.1; omega) (fun x hx => by have := HGI.out.2.2.2 x hx; omega))) (show we.heap[gi]? = some (.cells (nums .u8 Q.2).toArray 23 (0, 0)) by rw [hwe]; exact setRow_heap _ _ _ _ _ _ HD.out.2)); have c36 := HE.out.1.cells.2.2.2; clear hwe))
                      | ((with_reducible refine gate_dst (N := 91) rfl ?_); refine Kd.event_run rfl (v := .agg (nums .u8 Q.2).toArray) (w1 := we) ?hr ?_; (case hr => exact exec_load_row we 23 (.tmp 10) rfl gi rfl 23 _ (0, 0) _ HE.out.2 Tryd.underlying23 rfl (by rw [List.size_toArray, nums_length, HR.out.2.2.2.2]; kernel_rfl)))
                      | ((with_reducible refine gate_dst (N := 92) rfl ?_); refine Kd.event_run rfl (v := .slice (some ⟨we.heap.size, 0, none⟩) 1 1) (w1 := we.alloc (.cells (nums .u8 Q.2).toArray 23)) ?hr ?_; (case hr => exact exec_buildS (.tmp 91) HR.out.2.2.2.2 rfl rfl))
                      | ((with_reducible refine gate_dst (N := 93) rfl ?_); go_loud (refine print_append_cells (w0 := w) (W := we) w.heap.size rfl (.tmp 90) (.tmp 92) 26 23 (.agg (nums .u8 zero32).toArray) 32 32 rfl Tryd.underlying26 (by kernel_rfl) (by kernel_rfl) (by omega) (by omega) vW ids.length (nums .u8 ids.flatten) (nums .u8 Q.2) rfl rfl (by rw [nums_length]; exact HR.out.2.2.2.2) (nums_one Q.2) HE.out.1.wy HE.out.1.w0 HE.out.1.w0.size (by have := HR.out.2.2.2.1; omega) ?_; intro v1 wf hv9 hb9 hg9 hat9; obtain ⟨A1, c1, rfl⟩ := own_slice hv9; have HG := Aside0.mk (HE.out.1.grow hv9 hb9 hg9); clear hv9 hb9 hg9 hat9))
                      | ((with_reducible refine gate_store (ty := 26) (x := .tmp 94) (y := .tmp 93) rfl ?_); go_loud (refine store_event rfl (t := 26) (p := 94) (v := .tmp 93) rfl rfl (w1 := wf.setCell ⟨gn, 36, none⟩ (.slice A1 (ids.length + 1) c1)) ?hr ?_; (case hr => exact HG.out.putY (.tmp 94) (.tmp 93) rfl rfl rfl); intro wg hwg; have HH := Aside0.mk (show RI w wg gr gn Q.1 kk Q2.2 Q3.2 Q1.2 Q4.2 (ids ++ [Q.2]) (.slice A1 (ids.length + 1) c1) (.slice A1 (ids.length + 1) c1) from (by rw [hwg]; exact HG.out.cellY _)); clear hwg)))
                    go_roundg (m.toNat - (i + 1))
                    case measure => omega
                    case rel =>
                      refine ⟨i + 1, .slice A1 (ids.length + 1) c1, ?_, by omega, ⟨?_⟩⟩
                      · rw [wraps_u64 _ (by omega) (by have := HZ.out.2; omega)]; rfl
                      · obtain ⟨e1, e2, e3, _⟩ := HR.out
                        rw [show (idsM (i + 1) Rw).1 = Q.1 by rw [e3, e1]; rfl, show (idsM (i + 1) Rw).2 = ids ++ [Q.2] by rw [e2, e3, e1]; rfl]
                        exact HH.out
                  · have d2 : decide ((i : Int) < m) = false := decide_eq_false (by omega)
                    go_wp2
                    go_meet
                    case rel =>
                      refine ⟨vW, ⟨⟨show m ≤ 64 by have := HZ.out.2; omega, ?_⟩⟩⟩
                      rw [show i = m.toNat by omega] at hI
                      exact hI.out
          case rest =>
            obtain ⟨vW, HP5⟩ := hcut
            clear H7 HW
            have hbig : ¬ 64 < W.2 := by have := HP5.out.1; omega
            rw [if_neg hbig] at HM2
            obtain ⟨Z, hZ⟩ : ∃ Z, Z = idsM W.2.toNat W.1 := ⟨_, rfl⟩
            have hok := idsM_ok HBy.out W.2.toNat
            rw [← hZ] at HM2 HP5 hok
            have HOK := Aside0.mk hok.2.2
            clear hbig hok hZ
            obtain ⟨er, her⟩ : ∃ er, er = Z.1.end_ := ⟨_, rfl⟩
            rw [← her] at HM2
            have HE := Aside0.mk her
            clear her
            by_cases hz : er = 0
            · subst hz
              obtain ⟨cs, hcs⟩ : ∃ cs, cs = (ncells kk Q2.2 Q3.2 Q1.2 (.string (S Q4.2)) vW).toArray := ⟨_, rfl⟩
              have hp := HP5.out.2.pl
              have hsz : (Tryd.prog.info? 36).map (·.size) = some cs.size := by rw [hcs, List.size_toArray, ncells_len _ _ _ hp]; kernel_rfl
              have hone : cs.all (·.oneCell') = true := by
                rw [hcs, Array.all_eq_true_iff_forall_mem]
                intro v hv
                rw [List.mem_toArray] at hv
                unfold ncells at hv
                rcases List.mem_cons.1 hv with rfl | hv
                · rfl
                · rcases List.mem_append.1 hv with hv | hv
                  · exact nums_one Q1.2 v hv
                  · obtain ⟨A1, c1, hY⟩ := own_slice HP5.out.2.wy
                    simp only [List.mem_cons, List.not_mem_nil, or_false] at hv
                    rcases hv with rfl | rfl | rfl | rfl
                    · rfl
                    · rfl
                    · rfl
                    · rw [hY]; rfl
              have hsz2 : rz28.toArray.size = cs.size := by rw [hcs, List.size_toArray, List.size_toArray, ncells_len _ _ _ hp]; rfl
              have HCS := Aside0.mk (And.intro hcs (And.intro hsz (And.intro hone hsz2)))
              clear hcs hsz hone hsz2
              go_wp2_with (first
                | ((with_reducible refine gate_dst (N := 95) rfl ?_); refine Kd.event_run rfl (v := stV Z.1) (w1 := wc) ?hr ?_; (case hr => exact HP5.out.2.loadR (.tmp 4) rfl rfl))
                | (go_at_call 41; go_loud (have hx := ref_end (w := wc) (R := Z.1); rw [← HE.out] at hx; refine hx.mono ?_; clear hx; rintro e w9 ⟨rfl, hb9⟩; have H9 := Aside0.mk (HP5.out.2.below hb9); clear hb9))
                | ((with_reducible refine gate_dst (N := 101) rfl ?_); refine Kd.event_run rfl (v := .agg cs) (w1 := w9) ?hr ?_; (case hr => exact exec_load_row w9 36 (.tmp 7) rfl gn rfl 36 _ (0, 0) _ (by rw [HCS.out.1]; exact H9.out.nt) Tryd.underlying36 rfl HCS.out.2.1))
                | ((with_reducible refine gate_store (ty := 36) (x := .tmp 2) (y := .tmp 101) rfl ?_); go_loud (refine wpList_store_row rfl 36 (.tmp 2) (.tmp 101) rfl w.heap.size cs rfl rfl 36 rz28.toArray H9.out.res HCS.out.2.1 HCS.out.2.2.2 HCS.out.2.2.1 ?_; refine wpName (fun w10 hw10 => ?_); have H10 := Aside0.mk (And.intro (show w10.heap[w.heap.size]? = some (.cells cs 36 (0, 0)) by rw [hw10]; exact setRow_heap _ _ _ _ _ _ H9.out.res) (And.intro (show Below w.heap.size w w10 by rw [hw10]; exact below_setRow H9.out.w0 (Nat.le_refl _) _) (show Kept w9 w10 (fun x => x = w.heap.size) by rw [hw10]; exact ⟨by simp, fun i _ hn => setRow_other _ _ _ _ hn⟩))); clear hw10)))
              refine bodyPost_ret (results_ct rfl _ _ w.heap.size 36 cs (0, 0) _ rfl H10.out.1 Tryd.underlying36 rfl HCS.out.2.1) rfl ?_
              rw [HM2.out, if_neg (by decide)]
              exact ⟨_, rfl, by rw [HCS.out.1]; exact H9.out.out H10.out.2.2 HOK.out, H10.out.2.1⟩
            · have d5 : (er != 0) = true := bne_iff_ne.2 hz
              have HZ := Aside0.mk hz
              clear hz
              go_wp2_with (first
                | ((with_reducible refine gate_dst (N := 95) rfl ?_); refine Kd.event_run rfl (v := stV Z.1) (w1 := wc) ?hr ?_; (case hr => exact HP5.out.2.loadR (.tmp 4) rfl rfl))
                | (go_at_call 41; go_loud (have hx := ref_end (w := wc) (R := Z.1); rw [← HE.out] at hx; refine hx.mono ?_; clear hx; rintro e w9 ⟨rfl, hb9⟩; have H9 := Aside0.mk (HP5.out.2.below hb9); clear hb9))
                | ((with_reducible refine gate_dst (N := 99) rfl ?_); refine Kd.event_run rfl (v := .agg rz28.toArray) (w1 := w9) ?hr ?_; (case hr => first | kernel_rfl | (go_simp; done) | (go_simp; rfl)))
                | ((with_reducible refine gate_store (ty := 36) (x := .tmp 2) (y := .tmp 99) rfl ?_); go_loud (refine wpList_store_row rfl 36 (.tmp 2) (.tmp 99) rfl w.heap.size rz28.toArray rfl rfl 36 rz28.toArray H9.out.res (by kernel_rfl) rfl rz28_one ?_; refine wpName (fun w10 hw10 => ?_); have H10 := Aside0.mk (And.intro (show w10.heap[w.heap.size]? = some (.cells rz28.toArray 36 (0, 0)) by rw [hw10]; exact setRow_heap _ _ _ _ _ _ H9.out.res) (show Below w.heap.size w w10 by rw [hw10]; exact below_setRow H9.out.w0 (Nat.le_refl _) _)); clear hw10)))
              refine bodyPost_ret (results_ct rfl _ _ w.heap.size 36 rz28.toArray (0, 0) _ rfl H10.out.1 Tryd.underlying36 rfl (by kernel_rfl)) rfl ?_
              rw [HM2.out, if_pos HZ.out]
              exact ⟨_, rfl, rnoteR_none _, H10.out.2⟩
end
end Go.Proofs.YtlcanfniphdelaaDoor.Not

/- The walk of the document's Get: what is refused. -/
namespace Go.Proofs.YtlcanfniphdelaaDoor.Not
open Go.RowKit Go.Maps Go.Proofs.YtlcanfniphdelaaDoorW.PrintWords Go.Proofs.YtlcanfniphdelaaDoorW.PrintLast Go.Proofs.YtlcanfniphdelaaDoorW.PrintMore Go.Proofs.YtlcanfniphdelaaDoor.Mem Go.Proofs.YtlcanfniphdelaaDoor.Cod Go.Proofs.YtlcanfniphdelaaDoor.Ins Go.Proofs.YtlcanfniphdelaaDoor.Open Go.Proofs.YtlcanfniphdelaaDoor.PCod
set_option linter.unusedVariables false
set_option linter.unusedSimpArgs false
set_option maxRecDepth 8000
set_option maxHeartbeats 8000000
theorem exec_build0 {P : Program} {o : Oper} {ev : Operand → Value} {W : World} (ty : TypeId) (v : Value) (ho : o.op = .build ty #[]) (h : (Instr.build ty #[]).run P W = .ok v W) : (execOp ev o).run P W = .ok (.value v) W := by
  unfold execOp
  simp [ho, h]
section
variable {w : World}
theorem rget_no1 {xs : List Int} (hy : Byt xs) (he : (⟨xs, 0⟩ : RM).uint.1.e ≠ 0) :
    Calls Tryd.prog 15 #[.string (S xs)] w fun e w' => e = .returned (.tuple #[.agg rz28.toArray, .int .i64 (⟨xs, 0⟩ : RM).uint.1.e]) ∧ Below w.heap.size w w' := by
  obtain ⟨U, hU⟩ : ∃ U, U = (⟨xs, 0⟩ : RM).uint := ⟨_, rfl⟩
  rw [← hU] at he ⊢
  obtain ⟨s, hs⟩ : ∃ s, s = S xs := ⟨_, rfl⟩
  rw [← hs]
  have d1 : (U.1.e != 0) = true := bne_iff_ne.2 he
  have HU := Aside0.mk (And.intro hU (And.intro hy hs))
  clear hU he hy hs
  go_enter Tryd.func15, Tryd.ntmps15
  go_upto_region 2 with (first
    | ((with_reducible refine gate_dst (N := 2) rfl ?_); refine Kd.event_run rfl (v := .pointer (some ⟨w.heap.size, 0, none⟩)) (w1 := w.alloc (.cells rz28.toArray 36)) ?hr ?_; (case hr => first | kernel_rfl | (go_simp; done) | (go_simp; rfl)); go_loud (refine wpName (fun w1 hw1 => ?_); have H1 := Aside0.mk (And.intro (show w1.heap[w.heap.size]? = some (.cells rz28.toArray 36 (0, 0)) by rw [hw1]; exact blk_new w _) (show Below w.heap.size w w1 by rw [hw1]; exact below_alloc (Below.refl _ _) _)); clear hw1))
    | (go_at_call 38; go_loud (have hx := ref_uint (w := w1) (R := ⟨xs, 0⟩) HU.out.2.1; rw [← HU.out.1] at hx; rw [HU.out.2.2]; refine hx.mono ?_; clear hx; rintro e w2 ⟨rfl, hb2⟩; have H2 := Aside0.mk (And.intro ((hb2.block _ (blk_lt H1.out.1)).trans H1.out.1) (below_step H1.out.2 hb2)); clear hb2))
    | ((with_reducible refine gate_dst (N := 4) rfl ?_); refine Kd.event_run rfl (v := .pointer (some ⟨w2.heap.size, 0, none⟩)) (w1 := w2.alloc (.cells #[.string ByteArray.empty, .int .i64 0] 68)) ?hr ?_; (case hr => first | kernel_rfl | (go_simp; done) | (go_simp; rfl)); go_loud (refine wpName (fun w3 hw3 => ?_); obtain ⟨gr, hgr⟩ : ∃ gr, gr = w2.heap.size := ⟨_, rfl⟩; have H3 := Aside0.mk (And.intro (show w3.heap[gr]? = some (.cells #[.string ByteArray.empty, .int .i64 0] 68 (0, 0)) by rw [hw3, hgr]; exact blk_new w2 _) (And.intro (show Below w2.heap.size w2 w3 by rw [hw3]; exact below_alloc (Below.refl _ _) _) hgr)); rw [← hgr]; clear hw3 hgr))
    | ((with_reducible refine gate_store (ty := 68) (x := .tmp 4) (y := .tmp 16) rfl ?_); go_loud (refine store_event rfl (t := 68) (p := 4) (v := .tmp 16) rfl rfl (w1 := w3.setRow gr #[.string (S U.1.b), .int .i64 U.1.e]) ?hr ?_; (case hr => exact exec_store_row w3 68 (.tmp 4) (.tmp 16) rfl gr _ rfl rfl 68 _ H3.out.1 (by kernel_rfl) rfl (by simp [Value.oneCell'])); intro w4 hw4; have H4 := Aside0.mk (And.intro (show w4.heap[gr]? = some (.cells #[.string (S U.1.b), .int .i64 U.1.e] 68 (0, 0)) by rw [hw4]; exact setRow_heap _ _ _ _ _ _ H3.out.1) (And.intro (show w4.heap[w.heap.size]? = some (.cells rz28.toArray 36 (0, 0)) by rw [hw4, setRow_other _ _ _ _ (by rw [H3.out.2.2]; have := blk_lt H2.out.1; omega)]; exact (H3.out.2.1.block _ (blk_lt H2.out.1)).trans H2.out.1) (And.intro (show Below w.heap.size w w4 by rw [hw4]; exact below_setRow (below_step H2.out.2 H3.out.2.1) (by rw [H3.out.2.2]; exact H2.out.2.size) _) (show w.heap.size < gr by rw [H3.out.2.2]; exact blk_lt H2.out.1)))); clear hw4)))
  have cE : w4.cell? ⟨gr, 1, none⟩ = some (.int .i64 U.1.e) := (blk_cell H4.out.1 1).trans rfl
  go_upto_region 3 with (fail)
  obtain ⟨wd, hwd⟩ : ∃ wd, wd = w4.drew := ⟨_, rfl⟩
  have hbd : Below w4.heap.size w4 wd := by rw [hwd]; exact below_drew1 (Below.refl _ _)
  have HD := Aside0.mk (And.intro ((hbd.block _ (blk_lt H4.out.1)).trans H4.out.1) (And.intro ((hbd.block _ (blk_lt H4.out.2.1)).trans H4.out.2.1) (below_step H4.out.2.2.1 hbd)))
  clear hbd cE
  refine start_ (n := 5) (S := fun w' => w'.cell? ⟨gr, 1, none⟩ = some (.int .i64 U.1.e)) (ds := []) #[false, false, false, false, false] (by kernel_rfl) rfl rfl (by rw [← hwd]; exact (blk_cell HD.out.1 1).trans rfl) (fun hHeld => ?_)
  rw [← hwd] at hHeld ⊢
  clear hwd
  refine take_ (i := 0) (N := some 21) (v := .agg rz28.toArray) (a' := ?_) #[true, false, false, false, false] rfl rfl (by kernel_rfl) (fun _ _ _ h => h) (Or.inl ⟨by rfl, fun w' s0 => ?ld⟩) hHeld ?_ ?_
  case ld => exact exec_build0 36 _ rfl (build_r0 w')
  rotate_left
  · simp only [Act.put, List.setIfInBounds_toArray, List.set_cons_zero, List.set_cons_succ, i64_w, i32_w]
    rfl
  refine pure_ (i := 1) (N := some 22) (v := ?_) (a' := ?_) #[true, true, false, false, false] rfl rfl (by kernel_rfl) (fun _ _ _ h => h) (Or.inl ⟨by rfl, ?_⟩) ?_ ?_
  rotate_left
  · intro w'
    go_simp
    with_reducible rfl
  rotate_left
  · simp only [Act.put, List.setIfInBounds_toArray, List.set_cons_zero, List.set_cons_succ, i64_w, i32_w]
    rfl
  refine take_ (i := 2) (N := some 23) (v := ?_) (a' := ?_) #[true, true, true, false, false] rfl rfl (by kernel_rfl) (fun _ _ _ h => h) (Or.inl ⟨by rfl, ?_⟩) hHeld ?_ ?_
  rotate_left
  · rintro w' s0
    go_simp
    with_reducible rfl
  rotate_left
  · simp only [Act.put, List.setIfInBounds_toArray, List.set_cons_zero, List.set_cons_succ, i64_w, i32_w]
    rfl
  refine one_ (i := 3) (N := none) #[true, true, true, true, false] rfl rfl (by kernel_rfl) (by decide) (fun K hK => ?_)
  refine skip_ (w1 := wd.setRow w.heap.size rz28.toArray) (by rfl) rfl ?hr ?_
  case hr => exact exec_store_row wd 36 (.tmp 2) (.tmp 21) rfl w.heap.size _ rfl rfl 36 _ HD.out.2.1 (by kernel_rfl) rfl rz28_one
  obtain ⟨w9, hw9⟩ : ∃ w9, w9 = wd.setRow w.heap.size rz28.toArray := ⟨_, rfl⟩
  have H9 := Aside0.mk (And.intro (show w9.heap[w.heap.size]? = some (.cells rz28.toArray 36 (0, 0)) by rw [hw9]; exact setRow_heap _ _ _ _ _ _ HD.out.2.1) (show Below w.heap.size w w9 by rw [hw9]; exact below_setRow HD.out.2.2 (Nat.le_refl _) _))
  have hc9 : w9.cell? ⟨gr, 1, none⟩ = some (.int .i64 U.1.e) := by
    have h : w9.heap[gr]? = some (.cells #[.string (S U.1.b), .int .i64 U.1.e] 68 (0, 0)) := by rw [hw9, setRow_other _ _ _ _ (by have := H4.out.2.2.2; omega)]; exact HD.out.1
    exact (blk_cell h 1).trans rfl
  rw [← hw9]
  clear hw9
  refine hK.out _ _ (hc9) (fun hHeld => ?_)
  clear hK K
  refine pure_ (i := 4) (N := some 3) (v := ?_) (a' := ?_) #[true, true, true, true, true] rfl rfl (by kernel_rfl) (fun _ _ _ h => h) (Or.inl ⟨by rfl, ?_⟩) ?_ ?_
  rotate_left
  · intro w'
    go_simp
    with_reducible rfl
  rotate_left
  · simp only [Act.put, List.setIfInBounds_toArray, List.set_cons_zero, List.set_cons_succ, i64_w, i32_w]
    rfl
  refine done_ (by kernel_rfl) ?_
  go_wp2
  refine bodyPost_ret (results_ct rfl _ _ w.heap.size 36 rz28.toArray (0, 0) _ rfl H9.out.1 Tryd.underlying36 rfl (by kernel_rfl)) rfl ?_
  exact ⟨rfl, H9.out.2⟩
theorem rget_no2 {xs : List Int} (hy : Byt xs) (he : (⟨xs, 0⟩ : RM).uint.1.e = 0) (hk : kindOf (⟨xs, 0⟩ : RM).uint.2 = false) :
    Calls Tryd.prog 15 #[.string (S xs)] w fun e w' => e = .returned (.tuple #[.agg rz28.toArray, .int .i64 11]) ∧ Below w.heap.size w w' := by
  obtain ⟨U, hU⟩ : ∃ U, U = (⟨xs, 0⟩ : RM).uint := ⟨_, rfl⟩
  rw [← hU] at he hk
  obtain ⟨s, hs⟩ : ∃ s, s = S xs := ⟨_, rfl⟩
  rw [← hs]
  have d1 : (U.1.e != 0) = false := by rw [he]; rfl
  have hkr : U.2 < 1 ∨ 14 < U.2 := by
    unfold kindOf at hk
    rcases Int.lt_or_le U.2 1 with h | h
    · exact .inl h
    · rcases Int.lt_or_le 14 U.2 with h2 | h2
      · exact .inr h2
      · rw [decide_eq_true h, decide_eq_true h2] at hk; cases hk
  obtain ⟨R0, k⟩ := U
  dsimp only at hkr d1
  have HU := Aside0.mk (And.intro hU (And.intro hy hs))
  clear hU he hy hs hk
  by_cases hk1 : k < 1
  · have k1 : decide (k < 1) = true := decide_eq_true hk1
    clear hkr hk1
    go_enter Tryd.func15, Tryd.ntmps15
    go_upto_region 2 with (first
      | ((with_reducible refine gate_dst (N := 2) rfl ?_); refine Kd.event_run rfl (v := .pointer (some ⟨w.heap.size, 0, none⟩)) (w1 := w.alloc (.cells rz28.toArray 36)) ?hr ?_; (case hr => first | kernel_rfl | (go_simp; done) | (go_simp; rfl)); go_loud (refine wpName (fun w1 hw1 => ?_); have H1 := Aside0.mk (And.intro (show w1.heap[w.heap.size]? = some (.cells rz28.toArray 36 (0, 0)) by rw [hw1]; exact blk_new w _) (show Below w.heap.size w w1 by rw [hw1]; exact below_alloc (Below.refl _ _) _)); clear hw1))
      | (go_at_call 38; go_loud (have hx := ref_uint (w := w1) (R := ⟨xs, 0⟩) HU.out.2.1; rw [← HU.out.1] at hx; rw [HU.out.2.2]; refine hx.mono ?_; clear hx; rintro e w2 ⟨rfl, hb2⟩; have H2 := Aside0.mk (And.intro ((hb2.block _ (blk_lt H1.out.1)).trans H1.out.1) (below_step H1.out.2 hb2)); clear hb2))
      | ((with_reducible refine gate_dst (N := 4) rfl ?_); refine Kd.event_run rfl (v := .pointer (some ⟨w2.heap.size, 0, none⟩)) (w1 := w2.alloc (.cells #[.string ByteArray.empty, .int .i64 0] 68)) ?hr ?_; (case hr => first | kernel_rfl | (go_simp; done) | (go_simp; rfl)); go_loud (refine wpName (fun w3 hw3 => ?_); obtain ⟨gr, hgr⟩ : ∃ gr, gr = w2.heap.size := ⟨_, rfl⟩; have H3 := Aside0.mk (And.intro (show w3.heap[gr]? = some (.cells #[.string ByteArray.empty, .int .i64 0] 68 (0, 0)) by rw [hw3, hgr]; exact blk_new w2 _) (And.intro (show Below w2.heap.size w2 w3 by rw [hw3]; exact below_alloc (Below.refl _ _) _) hgr)); rw [← hgr]; clear hw3 hgr))
      | ((with_reducible refine gate_store (ty := 68) (x := .tmp 4) (y := .tmp 16) rfl ?_); go_loud (refine store_event rfl (t := 68) (p := 4) (v := .tmp 16) rfl rfl (w1 := w3.setRow gr #[.string (S R0.b), .int .i64 R0.e]) ?hr ?_; (case hr => exact exec_store_row w3 68 (.tmp 4) (.tmp 16) rfl gr _ rfl rfl 68 _ H3.out.1 (by kernel_rfl) rfl (by simp [Value.oneCell'])); intro w4 hw4; have H4 := Aside0.mk (And.intro (show w4.heap[gr]? = some (.cells #[.string (S R0.b), .int .i64 R0.e] 68 (0, 0)) by rw [hw4]; exact setRow_heap _ _ _ _ _ _ H3.out.1) (And.intro (show w4.heap[w.heap.size]? = some (.cells rz28.toArray 36 (0, 0)) by rw [hw4, setRow_other _ _ _ _ (by rw [H3.out.2.2]; have := blk_lt H2.out.1; omega)]; exact (H3.out.2.1.block _ (blk_lt H2.out.1)).trans H2.out.1) (And.intro (show Below w.heap.size w w4 by rw [hw4]; exact below_setRow (below_step H2.out.2 H3.out.2.1) (by rw [H3.out.2.2]; exact H2.out.2.size) _) (show w.heap.size < gr by rw [H3.out.2.2]; exact blk_lt H2.out.1)))); clear hw4)))
    have cE : w4.cell? ⟨gr, 1, none⟩ = some (.int .i64 R0.e) := (blk_cell H4.out.1 1).trans rfl
    go_wp2_with (first
      | ((with_reducible refine gate_dst (N := 30) rfl ?_); refine Kd.event_run rfl (v := .agg rz28.toArray) (w1 := w4) ?hr ?_; (case hr => first | kernel_rfl | (go_simp; done) | (go_simp; rfl)))
      | ((with_reducible refine gate_store (ty := 36) (x := .tmp 2) (y := .tmp 30) rfl ?_); go_loud (refine wpList_store_row rfl 36 (.tmp 2) (.tmp 30) rfl w.heap.size rz28.toArray rfl rfl 36 rz28.toArray H4.out.2.1 (by kernel_rfl) rfl rz28_one ?_; refine wpName (fun w9 hw9 => ?_); have H9 := Aside0.mk (And.intro (show w9.heap[w.heap.size]? = some (.cells rz28.toArray 36 (0, 0)) by rw [hw9]; exact setRow_heap _ _ _ _ _ _ H4.out.2.1) (show Below w.heap.size w w9 by rw [hw9]; exact below_setRow H4.out.2.2.1 (Nat.le_refl _) _)); clear hw9)))
    refine bodyPost_ret (results_ct rfl _ _ w.heap.size 36 rz28.toArray (0, 0) _ rfl H9.out.1 Tryd.underlying36 rfl (by kernel_rfl)) rfl ?_
    exact ⟨rfl, H9.out.2⟩
  · have k1 : decide (k < 1) = false := decide_eq_false hk1
    have k14 : decide (14 < k) = true := decide_eq_true (by omega)
    clear hkr hk1
    go_enter Tryd.func15, Tryd.ntmps15
    go_upto_region 2 with (first
      | ((with_reducible refine gate_dst (N := 2) rfl ?_); refine Kd.event_run rfl (v := .pointer (some ⟨w.heap.size, 0, none⟩)) (w1 := w.alloc (.cells rz28.toArray 36)) ?hr ?_; (case hr => first | kernel_rfl | (go_simp; done) | (go_simp; rfl)); go_loud (refine wpName (fun w1 hw1 => ?_); have H1 := Aside0.mk (And.intro (show w1.heap[w.heap.size]? = some (.cells rz28.toArray 36 (0, 0)) by rw [hw1]; exact blk_new w _) (show Below w.heap.size w w1 by rw [hw1]; exact below_alloc (Below.refl _ _) _)); clear hw1))
      | (go_at_call 38; go_loud (have hx := ref_uint (w := w1) (R := ⟨xs, 0⟩) HU.out.2.1; rw [← HU.out.1] at hx; rw [HU.out.2.2]; refine hx.mono ?_; clear hx; rintro e w2 ⟨rfl, hb2⟩; have H2 := Aside0.mk (And.intro ((hb2.block _ (blk_lt H1.out.1)).trans H1.out.1) (below_step H1.out.2 hb2)); clear hb2))
      | ((with_reducible refine gate_dst (N := 4) rfl ?_); refine Kd.event_run rfl (v := .pointer (some ⟨w2.heap.size, 0, none⟩)) (w1 := w2.alloc (.cells #[.string ByteArray.empty, .int .i64 0] 68)) ?hr ?_; (case hr => first | kernel_rfl | (go_simp; done) | (go_simp; rfl)); go_loud (refine wpName (fun w3 hw3 => ?_); obtain ⟨gr, hgr⟩ : ∃ gr, gr = w2.heap.size := ⟨_, rfl⟩; have H3 := Aside0.mk (And.intro (show w3.heap[gr]? = some (.cells #[.string ByteArray.empty, .int .i64 0] 68 (0, 0)) by rw [hw3, hgr]; exact blk_new w2 _) (And.intro (show Below w2.heap.size w2 w3 by rw [hw3]; exact below_alloc (Below.refl _ _) _) hgr)); rw [← hgr]; clear hw3 hgr))
      | ((with_reducible refine gate_store (ty := 68) (x := .tmp 4) (y := .tmp 16) rfl ?_); go_loud (refine store_event rfl (t := 68) (p := 4) (v := .tmp 16) rfl rfl (w1 := w3.setRow gr #[.string (S R0.b), .int .i64 R0.e]) ?hr ?_; (case hr => exact exec_store_row w3 68 (.tmp 4) (.tmp 16) rfl gr _ rfl rfl 68 _ H3.out.1 (by kernel_rfl) rfl (by simp [Value.oneCell'])); intro w4 hw4; have H4 := Aside0.mk (And.intro (show w4.heap[gr]? = some (.cells #[.string (S R0.b), .int .i64 R0.e] 68 (0, 0)) by rw [hw4]; exact setRow_heap _ _ _ _ _ _ H3.out.1) (And.intro (show w4.heap[w.heap.size]? = some (.cells rz28.toArray 36 (0, 0)) by rw [hw4, setRow_other _ _ _ _ (by rw [H3.out.2.2]; have := blk_lt H2.out.1; omega)]; exact (H3.out.2.1.block _ (blk_lt H2.out.1)).trans H2.out.1) (And.intro (show Below w.heap.size w w4 by rw [hw4]; exact below_setRow (below_step H2.out.2 H3.out.2.1) (by rw [H3.out.2.2]; exact H2.out.2.size) _) (show w.heap.size < gr by rw [H3.out.2.2]; exact blk_lt H2.out.1)))); clear hw4)))
    have cE : w4.cell? ⟨gr, 1, none⟩ = some (.int .i64 R0.e) := (blk_cell H4.out.1 1).trans rfl
    go_wp2_with (first
      | ((with_reducible refine gate_dst (N := 30) rfl ?_); refine Kd.event_run rfl (v := .agg rz28.toArray) (w1 := w4) ?hr ?_; (case hr => first | kernel_rfl | (go_simp; done) | (go_simp; rfl)))
      | ((with_reducible refine gate_store (ty := 36) (x := .tmp 2) (y := .tmp 30) rfl ?_); go_loud (refine wpList_store_row rfl 36 (.tmp 2) (.tmp 30) rfl w.heap.size rz28.toArray rfl rfl 36 rz28.toArray H4.out.2.1 (by kernel_rfl) rfl rz28_one ?_; refine wpName (fun w9 hw9 => ?_); have H9 := Aside0.mk (And.intro (show w9.heap[w.heap.size]? = some (.cells rz28.toArray 36 (0, 0)) by rw [hw9]; exact setRow_heap _ _ _ _ _ _ H4.out.2.1) (show Below w.heap.size w w9 by rw [hw9]; exact below_setRow H4.out.2.2.1 (Nat.le_refl _) _)); clear hw9)))
    refine bodyPost_ret (results_ct rfl _ _ w.heap.size 36 rz28.toArray (0, 0) _ rfl H9.out.1 Tryd.underlying36 rfl (by kernel_rfl)) rfl ?_
    exact ⟨rfl, H9.out.2⟩
/-- All together. -/
theorem rget_calls {xs : List Int} (hy : Byt xs) : Calls Tryd.prog 15 #[.string (S xs)] w fun e w' => ∃ cs, e = .returned (.tuple #[.agg cs, .int .i64 (getM xs).1]) ∧ RNoteR w' cs (getM xs).2 ∧ Below w.heap.size w w' := by
  by_cases he : (⟨xs, 0⟩ : RM).uint.1.e = 0
  · cases hk : kindOf (⟨xs, 0⟩ : RM).uint.2
    · refine (rget_no2 hy he hk).mono ?_
      rintro e w' ⟨rfl, hb⟩
      have hM : getM xs = (11, GM.none) := by unfold getM; rw [if_neg (by rw [he]; simp), if_pos hk]
      rw [hM]
      exact ⟨_, rfl, rnoteR_none _, hb⟩
    · exact rget_go hy he hk
  · refine (rget_no1 hy he).mono ?_
    rintro e w' ⟨rfl, hb⟩
    have hM : getM xs = ((⟨xs, 0⟩ : RM).uint.1.e, GM.none) := by unfold getM; rw [if_pos he]
    rw [hM]
    exact ⟨_, rfl, rnoteR_none _, hb⟩
end
end Go.Proofs.YtlcanfniphdelaaDoor.Not

/- 'awake' of the notes. -/
namespace Go.Proofs.YtlcanfniphdelaaDoor.Not
open Go.RowKit Go.Maps Go.Proofs.YtlcanfniphdelaaDoorW.PrintWords Go.Proofs.YtlcanfniphdelaaDoorW.PrintLast Go.Proofs.YtlcanfniphdelaaDoorW.PrintMore Go.Proofs.YtlcanfniphdelaaDoor.Mem Go.Proofs.YtlcanfniphdelaaDoor.Cod Go.Proofs.YtlcanfniphdelaaDoor.Ins Go.Proofs.YtlcanfniphdelaaDoor.Open Go.Proofs.YtlcanfniphdelaaDoor.PCod
set_option linter.unusedVariables false
set_option linter.unusedSimpArgs false
set_option maxRecDepth 8000
set_option maxHeartbeats 4000000
section
variable {w : World}
def n13 : Array Value := (ncells 13 0 0 (List.replicate 32 0) (.slice none 0 0) (.slice none 0 0)).toArray
def n131 : Array Value := (ncells 13 1 0 (List.replicate 32 0) (.slice none 0 0) (.slice none 0 0)).toArray
theorem build_131 (W : World) : (Instr.build 28 #[(0, .int .i64 13), (2, .int .u64 1)]).run Tryd.prog W = .ok (.agg n131) W := by kernel_rfl
theorem build_13 (W : World) : (Instr.build 28 #[(0, .int .i64 13)]).run Tryd.prog W = .ok (.agg n13) W := by kernel_rfl
theorem idsAt_nil (w : World) : IdsAt w none [] := fun i hi => by cases hi
theorem put_latest (hF : FAt w) : Calls Tryd.prog 8 #[.agg n13] w fun e w' => ∃ v, e = .returned (.tuple #[v, .int .i64 0]) ∧ Kd.R (Kd.int .u8) 5 w' w.heap.size (fun _ => True) v [13] ∧ Below w.heap.size w w' := by
  have h := put_ok (w := w) 13 0 0 (List.replicate 32 0) [] [] (by decide) (by decide) (by decide) rfl (by intro x hx; rw [List.eq_of_mem_replicate hx]; omega) none 0 none 0 (Kd.C_nil _ _) (by intro x hx; cases hx) (idsAt_nil w) hF (by decide) (by decide) (by decide +kernel)
  have e : putNum 13 ++ px (fld 13) 1 (List.replicate 32 0) ++ px (fld 13) 2 (putNum 0) ++ px (fld 13) 4 (putNum 0) ++ px (fld 13) 8 (putNum (([] : List Int).length : Int) ++ []) ++ px (fld 13) 16 (putNum (([] : List (List Int)).length : Int) ++ ([] : List (List Int)).flatten) = [13] := by decide +kernel
  rw [e] at h
  exact h
theorem put_late1 (hF : FAt w) : Calls Tryd.prog 8 #[.agg n131] w fun e w' => e = .returned (.tuple #[.slice none 0 0, .int .i64 1]) ∧ Below w.heap.size w w' :=
  put_no (w := w) 13 1 0 (by decide) (List.replicate 32 0) rfl none 0 0 none 0 0 hF (by decide) (by decide) (by decide +kernel)
theorem get_125 : getM [12, 5] = (0, ⟨12, zero32, 5, 0, [], []⟩) := by kernel_rfl
theorem get_15 : getM [15] = (11, GM.none) := by kernel_rfl
theorem lit_row (w : World) (xs : List Int) (hl : xs.length ≤ 9223372036854775807) : Kd.C (Kd.int .u8) (w.alloc (.cells (nums .u8 xs).toArray 5)) (some ⟨w.heap.size, 0, none⟩) xs.length xs := arr_row (blk_new w _) hl
theorem get_a (hF : FAt w) : Calls Tryd.prog 13 #[.slice (some ⟨w.heap.size, 0, none⟩) 2 2] (w.alloc (.cells #[.int .u8 12, .int .u8 5] 5)) fun e w' => ∃ A bc Y yc, e = .returned (.tuple #[.agg (ncells 12 5 0 zero32 (.slice A 0 bc) (.slice Y 0 yc)).toArray, .int .i64 0]) ∧ Below w.heap.size w w' := by
  have h := get_calls (w := w.alloc (.cells #[.int .u8 12, .int .u8 5] 5)) (xs := [12, 5]) (some ⟨w.heap.size, 0, none⟩) 2 (lit_row w [12, 5] (by decide)) (by decide) (by decide) (by intro x hx; simp at hx; omega) (hF.below (below_alloc (Below.refl _ _) _))
  rw [get_125] at h
  refine h.mono ?_
  rintro e w' ⟨cs, rfl, ⟨A, bc, Y, yc, rfl, _⟩, hb⟩
  exact ⟨A, bc, Y, yc, rfl, below_step (below_alloc (Below.refl _ _) _) hb⟩
theorem get_b (hF : FAt w) : Calls Tryd.prog 13 #[.slice (some ⟨w.heap.size, 0, none⟩) 1 1] (w.alloc (.cells #[.int .u8 15] 5)) fun e w' => ∃ A bc Y yc, e = .returned (.tuple #[.agg (ncells 0 0 0 zero32 (.slice A 0 bc) (.slice Y 0 yc)).toArray, .int .i64 11]) ∧ Below w.heap.size w w' := by
  have h := get_calls (w := w.alloc (.cells #[.int .u8 15] 5)) (xs := [15]) (some ⟨w.heap.size, 0, none⟩) 1 (lit_row w [15] (by decide)) (by decide) (by decide) (by intro x hx; simp at hx; omega) (hF.below (below_alloc (Below.refl _ _) _))
  rw [get_15] at h
  refine h.mono ?_
  rintro e w' ⟨cs, rfl, ⟨A, bc, Y, yc, rfl, _⟩, hb⟩
  exact ⟨A, bc, Y, yc, rfl, below_step (below_alloc (Below.refl _ _) _) hb⟩
/-- A note fits its variable. -/
def NFit (cs : Array Value) : Prop := (Tryd.prog.info? 28).map (·.size) = some cs.size ∧ nz28.toArray.size = cs.size ∧ cs.all (·.oneCell') = true
theorem nfit (k n o : Int) {p : List Int} (hp : p.length = 32) (A Y : Option Addr) (bl bc yl yc : Nat) : NFit (ncells k n o p (.slice A bl bc) (.slice Y yl yc)).toArray := by
  refine ⟨by rw [List.size_toArray, ncells_len _ _ _ hp]; kernel_rfl, by rw [List.size_toArray, List.size_toArray, ncells_len _ _ _ hp]; rfl, ?_⟩
  rw [Array.all_eq_true_iff_forall_mem]
  intro v hv
  rw [List.mem_toArray] at hv
  unfold ncells at hv
  rcases List.mem_cons.1 hv with rfl | hv
  · rfl
  · rcases List.mem_append.1 hv with hv | hv
    · exact nums_one p v hv
    · simp only [List.mem_cons, List.not_mem_nil, or_false] at hv
      rcases hv with rfl | rfl | rfl | rfl <;> rfl
theorem awake20_calls (hF : FAt w) : Calls Tryd.prog 7 #[] w fun e w' => e = .returned (.bool true) ∧ Below w.heap.size w w' := by
  have HF := Aside0.mk hF
  clear hF
  go_enter Tryd.func7, Tryd.ntmps7
  go_wp2_with (first
    | ((with_reducible refine gate_dst (N := 10) rfl ?_); refine Kd.event_run rfl (v := .agg n13) (w1 := w) ?hr ?_; (case hr => kernel_rfl))
    | ((with_reducible refine gate_dst (N := 20) rfl ?_); refine Kd.event_run rfl (v := .agg n131) (w1 := w4) ?hr ?_; (case hr => kernel_rfl))
    | (go_at_call 8; go_loud (have _t := H4; refine (put_late1 (HF.out.below H4.out.2.2.1)).mono ?_; rintro e w5 ⟨rfl, hb5⟩; have H5 := Aside0.mk (And.intro (below_step H4.out.2.2.1 hb5) (And.intro ((hb5.block _ (blk_lt H4.out.1)).trans H4.out.1) ((hb5.cell (World.block_lt_of_cell? w4 _ H4.out.2.1)).trans H4.out.2.1))); clear hb5 _t))
    | (go_at_call 8; go_loud (refine (put_latest HF.out).mono ?_; rintro e w1 ⟨v1, rfl, hv1, hb1⟩; obtain ⟨b1, c1, rfl, hl1, hu1, _, hc1, hat1⟩ := own_at hv1 (by decide); have H1 := Aside0.mk (And.intro hb1 (show w1.cell? ⟨b1, 0, none⟩ = some (.int .u8 13) from hat1 0 (by decide))); clear hv1 hb1 hl1 hu1 hat1))
    | (go_at_call 13; go_loud (have _t := H5; refine (get_b (HF.out.below H5.out.1)).mono ?_; rintro e w6 ⟨A6, bc6, Y6, yc6, rfl, hb6⟩; obtain ⟨cs6, hcs6⟩ : ∃ cs, cs = (ncells 0 0 0 zero32 (.slice A6 0 bc6) (.slice Y6 0 yc6)).toArray := ⟨_, rfl⟩; rw [← hcs6]; have H6 := Aside0.mk (And.intro (below_step H5.out.1 hb6) (And.intro ((hb6.block _ (blk_lt H5.out.2.1)).trans H5.out.2.1) (And.intro ((hb6.cell (World.block_lt_of_cell? w5 _ H5.out.2.2)).trans H5.out.2.2) (show NFit cs6 by rw [hcs6]; exact nfit 0 0 0 rfl A6 Y6 0 bc6 0 yc6)))); clear hb6 hcs6 _t))
    | (go_at_call 13; go_loud (refine (get_a (HF.out.below H1.out.1)).mono ?_; rintro e w2 ⟨A2, bc2, Y2, yc2, rfl, hb2⟩; obtain ⟨cs2, hcs2⟩ : ∃ cs, cs = (ncells 12 5 0 zero32 (.slice A2 0 bc2) (.slice Y2 0 yc2)).toArray := ⟨_, rfl⟩; rw [← hcs2]; have H2 := Aside0.mk (And.intro (below_step H1.out.1 hb2) (And.intro ((hb2.cell (World.block_lt_of_cell? w1 _ H1.out.2)).trans H1.out.2) (And.intro (show NFit cs2 by rw [hcs2]; exact nfit 12 5 0 rfl A2 Y2 0 bc2 0 yc2) hcs2))); clear hb2 hcs2))
    | ((with_reducible refine gate_dst (N := 3) rfl ?_); refine Kd.event_run rfl (v := .pointer (some ⟨w2.heap.size, 0, none⟩)) (w1 := w2.alloc (.cells nz28.toArray 28)) ?hr ?_; (case hr => first | kernel_rfl | (go_simp; done) | (go_simp; rfl)); go_loud (refine wpName (fun w3 hw3 => ?_); obtain ⟨g3, hg3⟩ : ∃ g, g = w2.heap.size := ⟨_, rfl⟩; have H3 := Aside0.mk (And.intro (show w3.heap[g3]? = some (.cells nz28.toArray 28 (0, 0)) by rw [hw3, hg3]; exact blk_new w2 _) (And.intro (show w3.cell? ⟨b1, 0, none⟩ = some (.int .u8 13) by rw [hw3]; exact ((below_alloc (Below.refl _ _) _).cell (World.block_lt_of_cell? w2 _ H2.out.2.1)).trans H2.out.2.1) (And.intro (show Below w.heap.size w w3 by rw [hw3]; exact below_step H2.out.1 (below_alloc (Below.refl _ _) _)) (And.intro (show b1 < g3 by rw [hg3]; exact World.block_lt_of_cell? w2 _ H2.out.2.1) (show w.heap.size ≤ g3 by rw [hg3]; exact H2.out.1.size))))); rw [← hg3]; clear hw3 hg3))
    | ((with_reducible refine gate_store (ty := 28) (x := .tmp 3) (y := .tmp 17) rfl ?_); go_loud (refine wpList_store_row rfl 28 (.tmp 3) (.tmp 17) rfl g3 cs2 rfl rfl 28 nz28.toArray H3.out.1 H2.out.2.2.1.1 H2.out.2.2.1.2.1 H2.out.2.2.1.2.2 ?_; refine wpName (fun w4 hw4 => ?_); have H4 := Aside0.mk (And.intro (show NoteAt w4 g3 12 5 0 zero32 (.slice A2 0 bc2) (.slice Y2 0 yc2) by rw [hw4]; have h := setRow_heap w3 g3 _ cs2 _ _ H3.out.1; rw [H2.out.2.2.2] at h ⊢; exact h) (And.intro (show w4.cell? ⟨b1, 0, none⟩ = some (.int .u8 13) by rw [hw4]; exact cell_kept (S := fun x => x = g3) H3.out.2.1 ⟨by simp, fun i _ hn => setRow_other _ _ _ _ hn⟩ (show ¬ (b1 = g3) by have := H3.out.2.2.2.1; omega)) (And.intro (show Below w.heap.size w w4 by rw [hw4]; exact below_setRow H3.out.2.2.1 H3.out.2.2.2.2 _) H3.out.2.2.2))); clear hw4))
    | ((with_reducible refine gate_dst (N := 7) rfl ?_); refine Kd.event_run rfl (v := .pointer (some ⟨w6.heap.size, 0, none⟩)) (w1 := w6.alloc (.cells nz28.toArray 28)) ?hr ?_; (case hr => first | kernel_rfl | (go_simp; done) | (go_simp; rfl)); go_loud (refine wpName (fun w7 hw7 => ?_); obtain ⟨g7, hg7⟩ : ∃ g, g = w6.heap.size := ⟨_, rfl⟩; have H7 := Aside0.mk (And.intro (show w7.heap[g7]? = some (.cells nz28.toArray 28 (0, 0)) by rw [hw7, hg7]; exact blk_new w6 _) (And.intro (show Below w6.heap.size w6 w7 by rw [hw7]; exact below_alloc (Below.refl _ _) _) hg7)); rw [← hg7]; clear hw7 hg7))
    | ((with_reducible refine gate_store (ty := 28) (x := .tmp 7) (y := .tmp 27) rfl ?_); go_loud (refine wpList_store_row rfl 28 (.tmp 7) (.tmp 27) rfl g7 cs6 rfl rfl 28 nz28.toArray H7.out.1 H6.out.2.2.2.1 H6.out.2.2.2.2.1 H6.out.2.2.2.2.2 ?_; refine wpName (fun w8 hw8 => ?_); have hk8 : Kept w6 w8 (fun x => x = g7) := (Kept.of_below H7.out.2.1 _).then_ (S2 := fun x => x = g7) (by rw [hw8]; exact ⟨by simp, fun i _ hn => setRow_other _ _ _ _ hn⟩) (fun k h => .inl h); have hn8 : NoteAt w8 g3 12 5 0 zero32 (.slice A2 0 bc2) (.slice Y2 0 yc2) := blk_kept H6.out.2.1 hk8 (by have := blk_lt H6.out.2.1; have := H7.out.2.2; omega); have e0 : w8.cell? ⟨b1, 0, none⟩ = some (.int .u8 13) := cell_kept H6.out.2.2.1 hk8 (show ¬ (b1 = g7) by have h := World.block_lt_of_cell? w6 _ H6.out.2.2.1; have := H7.out.2.2; simp at h; omega); have e1 : w8.cell? ⟨g3, 0, none⟩ = some (.int .i64 12) := (NoteAt.cells hn8 rfl).1; have e2 : w8.cell? ⟨g3, 33, none⟩ = some (.int .u64 5) := (NoteAt.cells hn8 rfl).2.1; have H8 := Aside0.mk (show Below w.heap.size w w8 by rw [hw8]; exact below_setRow (below_step H6.out.1 H7.out.2.1) (by rw [H7.out.2.2]; exact H6.out.1.size) _); clear hw8 hk8 hn8)))
  go_ret
  exact ⟨rfl, H8.out⟩
end
end Go.Proofs.YtlcanfniphdelaaDoor.Not

/- The plain laws of the notes, for the walks of the statements. -/
namespace Go.Proofs.YtlcanfniphdelaaDoor.Not
open Go.RowKit Go.Proofs.YtlcanfniphdelaaDoorW.PrintWords Go.Proofs.YtlcanfniphdelaaDoor.Mem Go.Proofs.YtlcanfniphdelaaDoor.Cod
set_option linter.unusedVariables false
theorem g1_byt {f : Int} {R : RM} (hb : Byt R.b) : Byt (g1 f R).1.b ∧ Byt (g1 f R).2 := by
  unfold g1
  split
  · exact RM.id_byt hb
  · exact ⟨hb, fun x hx => by rw [List.eq_of_mem_replicate hx]; omega⟩
theorem g2_byt {f m : Int} {R : RM} (hb : Byt R.b) : Byt (g2 f m R).1.b ∧ 0 ≤ (g2 f m R).2 ∧ (g2 f m R).2 ≤ 18446744073709551615 := by
  unfold g2
  split
  · exact ⟨RM.uint_byt hb, RM.uint_bd hb⟩
  · exact ⟨hb, by show (0 : Int) ≤ 0; omega, by show (0 : Int) ≤ _; omega⟩
theorem g4_byt {f k : Int} {R : RM} (hb : Byt R.b) : Byt (g4 f k R).1.b ∧ Byt (g4 f k R).2 := by
  unfold g4
  split
  · exact RM.bytes_byt hb _
  · exact ⟨hb, fun x hx => by cases hx⟩
theorem gWay_byt {f : Int} {R : RM} (hb : Byt R.b) : Byt (gWay f R).1.b := by
  unfold gWay
  split
  · exact RM.uint_byt hb
  · exact hb
/-- What a note that was got is. -/
theorem getM_ok {xs : List Int} (hy : Byt xs) : (getM xs).2.p.length = 32 ∧ Byt (getM xs).2.p ∧ (0 ≤ (getM xs).2.n ∧ (getM xs).2.n ≤ 18446744073709551615) ∧ (0 ≤ (getM xs).2.o ∧ (getM xs).2.o ≤ 18446744073709551615) ∧ Byt (getM xs).2.b ∧ (getM xs).2.ids.length ≤ 64 ∧ (0 ≤ (getM xs).2.k ∧ (getM xs).2.k ≤ 14) := by
  have hnone : GM.none.p.length = 32 ∧ Byt GM.none.p ∧ (0 ≤ GM.none.n ∧ GM.none.n ≤ 18446744073709551615) ∧ (0 ≤ GM.none.o ∧ GM.none.o ≤ 18446744073709551615) ∧ Byt GM.none.b ∧ GM.none.ids.length ≤ 64 ∧ (0 ≤ GM.none.k ∧ GM.none.k ≤ 14) := by
    refine ⟨rfl, fun x hx => by rw [List.eq_of_mem_replicate hx]; omega, by decide, by decide, (fun x hx => by cases hx), by decide, by decide⟩
  have h0 : Byt (⟨xs, 0⟩ : RM).uint.1.b := RM.uint_byt (R := ⟨xs, 0⟩) hy
  unfold getM
  split
  · exact hnone
  · rename_i he
    split
    · exact hnone
    · rename_i hk
      dsimp only
      split
      · exact hnone
      · split
        · exact hnone
        · have q1 := g1_byt (f := fld (⟨xs, 0⟩ : RM).uint.2) h0
          have q2 := g2_byt (f := fld (⟨xs, 0⟩ : RM).uint.2) (m := 2) q1.1
          have q3 := g2_byt (f := fld (⟨xs, 0⟩ : RM).uint.2) (m := 4) q2.1
          have q4 := g4_byt (f := fld (⟨xs, 0⟩ : RM).uint.2) (k := (⟨xs, 0⟩ : RM).uint.2) q3.1
          have q5 := gWay_byt (f := fld (⟨xs, 0⟩ : RM).uint.2) q4.1
          rename_i hw _
          have hw2 : (gWay (fld (⟨xs, 0⟩ : RM).uint.2) (gR5 (⟨xs, 0⟩ : RM).uint.2 (⟨xs, 0⟩ : RM).uint.1)).2 ≤ 64 := by omega
          refine ⟨g1_len _ _, q1.2, q2.2, q3.2, q4.2, ?_, ?_⟩
          · show (idsM _ _).2.length ≤ 64
            exact Nat.le_trans (Nat.le_of_eq (idsM_ok (R := (gWay _ (gR5 _ _)).1) q5 _).2.1) (by omega)
          · have hk2 : kindOf (⟨xs, 0⟩ : RM).uint.2 = true := by cases h : kindOf (⟨xs, 0⟩ : RM).uint.2; exact absurd h hk; rfl
            unfold kindOf at hk2
            simp only [Bool.and_eq_true, decide_eq_true_eq] at hk2
            exact ⟨by show 0 ≤ (⟨xs, 0⟩ : RM).uint.2; omega, hk2.2⟩
theorem acc_ok {kk : Nat} (h1 : 1 ≤ kk) (h2 : kk ≤ 14) {n o : Int} {p b : List Int} {ids : List (List Int)} (z1 : fbit (fld kk) 1 = false → p = zero32) (z2 : fbit (fld kk) 2 = false → n = 0) (z3 : fbit (fld kk) 4 = false → o = 0) (z4 : fbit (fld kk) 8 = false → b = []) (z5 : fbit (fld kk) 16 = false → ids = []) :
    bits .andNot .i64 (accN n o p b.length ids.length) (fld kk) = 0 := by
  have hx := andnot_k kk (by omega) h1 (p != List.replicate 32 0) (n != 0) (o != 0) (decide (0 < b.length)) (decide (0 < ids.length))
  have hy : (bits .andNot .i64 (accN n o p b.length ids.length) (fld kk) == 0) = true := by
    unfold accN
    rw [hx]
    simp only [Bool.and_eq_true, Bool.or_eq_true]
    refine ⟨⟨⟨⟨?_, ?_⟩, ?_⟩, ?_⟩, ?_⟩
    · cases h : fbit (fld kk) 1
      · exact .inr (by rw [z1 h]; rfl)
      · exact .inl rfl
    · cases h : fbit (fld kk) 2
      · exact .inr (by rw [z2 h]; rfl)
      · exact .inl rfl
    · cases h : fbit (fld kk) 4
      · exact .inr (by rw [z3 h]; rfl)
      · exact .inl rfl
    · cases h : fbit (fld kk) 8
      · exact .inr (by rw [z4 h]; rfl)
      · exact .inl rfl
    · cases h : fbit (fld kk) 16
      · exact .inr (by rw [z5 h]; rfl)
      · exact .inl rfl
  simpa using hy
/-- A note that was got may be put: what Put asks. -/
theorem chk_got {xs : List Int} {g : GM} (hb : Byt xs) (h : getM xs = (0, g)) : chk g.k (accN g.n g.o g.p g.b.length g.ids.length) g.b.length g.ids.length = 0 := by
  obtain ⟨_, hk, _, hm, hi, _, z1, z2, z3, z4, z5⟩ := put_get hb h
  have hk2 : 1 ≤ g.k ∧ g.k ≤ 14 := by unfold kindOf at hk; simpa using hk
  obtain ⟨kk, hkk⟩ : ∃ kk : Nat, g.k = kk := ⟨g.k.toNat, by omega⟩
  rw [hkk] at hm z1 z2 z3 z4 z5 hk hk2 ⊢
  have ha := acc_ok (kk := kk) (by omega) (by omega) z1 z2 z3 z4 z5
  unfold chk
  rw [if_neg]
  rintro (h1 | h1 | h1 | h1 | h1)
  · omega
  · rw [hk] at h1; cases h1
  · exact h1 ha
  · omega
  · omega
end Go.Proofs.YtlcanfniphdelaaDoor.Not
