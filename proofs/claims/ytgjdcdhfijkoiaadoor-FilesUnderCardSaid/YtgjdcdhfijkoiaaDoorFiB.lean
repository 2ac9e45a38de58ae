/- files.paths: whether files' paths are a tree's. -/
import Derived.Test.YtgjdcdhfijkoiaaDoorFiA
import Derived.Test.YtgjdcdhfijkoiaaDoorPxA
import Derived.Test.YtgjdcdhfijkoiaaDoorCoB
import Derived.Laws.Cover1
section
namespace Go.Proofs.YtgjdcdhfijkoiaaDoor.Str
open Go.RowKit Go.Proofs.YtgjdcdhfijkoiaaDoorW.PrintWords Go.Proofs.YtgjdcdhfijkoiaaDoorW.PrintLast Go.Proofs.YtgjdcdhfijkoiaaDoorW.PrintMore Go.Proofs.YtgjdcdhfijkoiaaDoor.Mem Go.Proofs.YtgjdcdhfijkoiaaDoor.PCod
set_option linter.unusedVariables false
set_option linter.unusedSimpArgs false
/-! ### a file in its variable -/
abbrev FS := S50
def FileBox (w : World) (g : Nat) (s : ByteArray) (B : Option Addr) (bl bc : Nat) : Prop := w.heap[g]? = some (.cells #[.string s, .slice B bl bc] 50 (0, 0))
section
variable {ops : Array Oper} {rest : List Oper} {o : Oper} {a : Act} {Q : Exit → Act → World → Prop} {W : World}
theorem gate_store {P : Program} {ty : TypeId} {x y : Operand} (hs : o.op = .store ty x y) (h : wpList P ops Q (o :: rest) a W) : wpList P ops Q (o :: rest) a W := h
theorem FileBox.below {w w' : World} {g : Nat} {s : ByteArray} {B : Option Addr} {bl bc : Nat} (h : FileBox w g s B bl bc) (hb : Below w.heap.size w w') : FileBox w' g s B bl bc := (hb.block _ (blk_lt h)).trans h
theorem file_new (hgd : o.guard = none) (hrun : (execOp a.eval o).run Tryd.prog W = .ok (.value (.pointer (some ⟨W.heap.size, 0, none⟩))) (W.alloc (.cells #[.string ⟨#[]⟩, .slice none 0 0] 50)))
    (h : ∀ W', FileBox W' W.heap.size ⟨#[]⟩ none 0 0 → Below W.heap.size W W' → W'.heap.size = W.heap.size + 1 → wpList Tryd.prog ops Q rest (a.put o.dst (.pointer (some ⟨W.heap.size, 0, none⟩))) W') : wpList Tryd.prog ops Q (o :: rest) a W :=
  Kd.event_run hgd hrun (h _ (blk_new W _) (below_alloc (Below.refl _ _) _) (by simp))
theorem file_put {s s0 : ByteArray} {B B0 : Option Addr} {bl bc bl0 bc0 : Nat} (hgd : o.guard = none) (x y : Operand) (ho : o.op = .store 50 x y) {g : Nat} (hx : a.eval x = .pointer (some ⟨g, 0, none⟩)) (hy : a.eval y = .agg #[.string s, .slice B bl bc]) (hb : FileBox W g s0 B0 bl0 bc0)
    (h : ∀ W', FileBox W' g s B bl bc → Kept W W' (fun k => k = g) → (∀ (B : Nat) (w0 : World), B ≤ g → Below B w0 W → Below B w0 W') → W'.heap.size = W.heap.size → wpList Tryd.prog ops Q rest (a.put o.dst undef) W') : wpList Tryd.prog ops Q (o :: rest) a W :=
  wpList_store_row hgd 50 x y ho g #[.string s, .slice B bl bc] hx hy 50 _ hb (by kernel_rfl) rfl (by simp [Value.oneCell'])
    (h _ (setRow_heap W g _ _ _ _ hb) ⟨by simp, fun i _ hn => setRow_other W g i _ hn⟩ (fun B w0 hB h => below_setRow h hB _) (by simp))
end
/-! ### what it tells -/
/-- Is the front of a path, up to a slash, among those that were seen? -/
def frontIn (seen : List (List UInt8)) (s : ByteArray) : Bool := (List.range s.size).any (fun k => bt s k == 47 && decide ((s.extract 0 k).data.toList ∈ seen))
/-- Is the first path in front of the second? -/
def lessS (a b : ByteArray) : Bool := Op.bytesLess a.toList b.toList
def pathsGo : Option ByteArray → List (List UInt8) → List FS → Bool
  | _, _, [] => true
  | p, seen, f :: r => pathM f.f0 && (match p with | none => true | some q => lessS q f.f0) && !frontIn seen f.f0 && pathsGo (some f.f0) (f.f0.data.toList :: seen) r
theorem pathsGo_cons (p : Option ByteArray) (seen : List (List UInt8)) (f : FS) (r : List FS) : pathsGo p seen (f :: r) = (pathM f.f0 && (match p with | none => true | some q => lessS q f.f0) && !frontIn seen f.f0 && pathsGo (some f.f0) (f.f0.data.toList :: seen) r) := by
  cases p <;> rfl
theorem pathsGo_nil (p : Option ByteArray) (seen : List (List UInt8)) : pathsGo p seen [] = true := by
  cases p <;> rfl
def pathsM (l : List FS) : Bool := pathsGo none [] l
def prevOf (l : List FS) (i : Nat) : Option ByteArray := if i = 0 then none else some (l.getD (i - 1) z50).f0
def seenOf (l : List FS) (i : Nat) : List (List UInt8) := ((l.take i).map (fun f => f.f0.data.toList)).reverse
theorem seenOf_succ {l : List FS} {i : Nat} (h : i < l.length) : seenOf l (i + 1) = (l.getD i z50).f0.data.toList :: seenOf l i := by
  unfold seenOf
  rw [List.take_add_one, List.getElem?_eq_getElem h, List.map_append, List.reverse_append, List.getD_eq_getElem?_getD, List.getElem?_eq_getElem h]
  rfl
theorem drop_getD {l : List FS} {i : Nat} (h : i < l.length) : l.drop i = l.getD i z50 :: l.drop (i + 1) := by
  rw [List.drop_eq_getElem_cons h, List.getD_eq_getElem?_getD, List.getElem?_eq_getElem h]
  rfl
section
variable {w : World}
set_option maxRecDepth 100000 in
set_option maxHeartbeats 4000000 in
theorem paths_calls {l : List FS} {A : Option Addr} {c : Nat} (hr : Kd.C k50 w A l.length l) (hl : l.length ≤ 100000) :
    Calls Tryd.prog 47 #[.slice A l.length c] w fun e w' => e = .returned (.bool (pathsM l)) ∧ Below w.heap.size w w' := by
  obtain ⟨m, hm⟩ : ∃ m, m = l.length := ⟨_, rfl⟩
  have HX := Aside0.mk (And.intro hr hm)
  rw [← hm] at hl ⊢
  clear hr hm
  have hmm := @run_makeMap Tryd.prog
  go_enter Tryd.func47, Tryd.ntmps47
  go_upto_region 3 with (fail)
  obtain ⟨w1, hw1⟩ : ∃ x, x = w.alloc (.map #[] 0) := ⟨_, rfl⟩
  have h0 : Seen w1 w.heap.size 0 (seenOf l 0) := by rw [hw1]; exact seen_made w
  have hb0 : Below w.heap.size w w1 := by rw [hw1]; exact below_alloc (Below.refl _ _) _
  rw [← hw1]
  have H1 := Aside0.mk (And.intro h0 hb0)
  clear h0 hb0 hw1 hmm
  go_loopg [10] m (fun q v10 wr => ∃ i : Nat, v10 = .int .i64 i ∧ q + i = m ∧ Aside0 (Seen wr w.heap.size i (seenOf l i) ∧ Below w.heap.size w wr ∧ pathsM l = pathsGo (prevOf l i) (seenOf l i) (l.drop i)))
  case atStart => exact ⟨0, rfl, by omega, H1.out.1, H1.out.2, rfl⟩
  case round =>
    clear H1
    obtain ⟨i, rfl, hq, hI⟩ := hrel
    by_cases hlt : i < m
    · have d1 : decide ((i : Int) < (m : Int)) = true := decide_eq_true (by omega)
      have hil : i < l.length := by rw [← HX.out.2]; exact hlt
      obtain ⟨ad, B, bc, rfl, c0, c1, hbc, hbC⟩ := at_T50 HX.out.1 (i : Int) (by omega) (by omega)
      obtain ⟨f, hf⟩ : ∃ f, f = l.getD i z50 := ⟨_, rfl⟩
      rw [show rd_T50 l (i : Int) = f by rw [hf]; rfl, Int.toNat_natCast] at c0 c1
      rw [show rd_T50 l (i : Int) = f by rw [hf]; rfl] at hbc hbC
      obtain ⟨s, b⟩ := f
      dsimp only at c0 c1 hbc hbC
      obtain ⟨bl, hbl⟩ : ∃ k, k = b.length := ⟨_, rfl⟩
      rw [← hbl] at c1
      replace c0 := (hI.out.2.1.cell (World.block_lt_of_cell? w _ c0)).trans c0
      replace c1 := (hI.out.2.1.cell (World.block_lt_of_cell? w _ c1)).trans c1
      have HF := Aside0.mk (And.intro hf (And.intro hil hbl))
      clear hf hil hbl hbc hbC
      go_upto_region 5 with (first
        | ((with_reducible refine gate_dst (N := 5) rfl ?_); refine file_new ?hg ?hr ?_; (case hg => rfl); (case hr => first | kernel_rfl | (go_simp; done) | (go_simp; rfl)); go_loud (intro w6 hx6 hb6 hs6; have H6 := Aside0.mk (And.intro hx6 hb6); clear hx6 hb6 hs6))
        | ((with_reducible refine gate_store (ty := 50) (x := .tmp 5) (y := .tmp 14) rfl ?_); go_loud (refine file_put (s := s) (B := B) (bl := bl) (bc := bc) rfl (.tmp 5) (.tmp 14) rfl rfl rfl H6.out.1 ?_; intro w7 hx7 hk7 hb7 hs7; have H7 := Aside0.mk (And.intro hx7 (hb7 _ _ (Nat.le_refl _) H6.out.2)); clear hx7 hk7 hb7 hs7)))
      obtain ⟨g5, hg5⟩ : ∃ g, g = wr.heap.size := ⟨_, rfl⟩
      rw [← hg5]
      have HS := Aside0.mk (show FileBox w7 g5 s B bl bc ∧ Seen w7 w.heap.size i (seenOf l i) ∧ Below w.heap.size w w7 ∧ w.heap.size < g5 from ⟨by rw [hg5]; exact H7.out.1, hI.out.1.blk (H7.out.2.block _ hI.out.1.lt), below_step hI.out.2.1 H7.out.2, by rw [hg5]; exact hI.out.1.lt⟩)
      clear H6 H7 c0 c1 hg5
      obtain ⟨pv, hpv⟩ : ∃ x, x = (match prevOf l i with | none => true | some q => lessS q s) := ⟨_, rfl⟩
      try dsimp only [Act.put]
      go_cut [33] (fun v33 wc => v33 = .bool (!(pathM s && pv)) ∧ Aside0 (FileBox wc g5 s B bl bc ∧ Seen wc w.heap.size i (seenOf l i) ∧ Below w.heap.size w wc))
      case first =>
        obtain ⟨wd, hwd⟩ : ∃ wd, wd = w7.drew := ⟨_, rfl⟩
        have hbd : Below w7.heap.size w7 wd := by rw [hwd]; exact below_drew1 (Below.refl _ _)
        have HD := Aside0.mk (show FileBox wd g5 s B bl bc ∧ Seen wd w.heap.size i (seenOf l i) ∧ Below w.heap.size w wd from ⟨HS.out.1.below hbd, HS.out.2.1.blk (hbd.block _ HS.out.2.1.lt), below_step HS.out.2.2.1 hbd⟩)
        have hfin : ∀ W, Below wd.heap.size wd W → Aside0 (FileBox W g5 s B bl bc ∧ Seen W w.heap.size i (seenOf l i) ∧ Below w.heap.size w W) := fun W hW => ⟨HD.out.1.below hW, HD.out.2.1.blk (hW.block _ HD.out.2.1.lt), below_step HD.out.2.2 hW⟩
        have HFin := Aside0.mk hfin
        have hall : ∀ W, Below wd.heap.size wd W → W.cell? ⟨g5, 0, none⟩ = some (.string s) := fun W hW => (blk_cell (HD.out.1.below hW) 0).trans rfl
        have HA := Aside0.mk hall
        clear hall hfin
        cases hpp : pathM s
        · refine start_ (n := 19) (S := fun w' => Below wd.heap.size wd w') (ds := []) #[false, false, false, false, false, false, false, false, false, false, false, false, false, false, false, false, false, false, false] (by kernel_rfl) rfl (by kernel_rfl) (by rw [← hwd]; exact Below.refl _ _) (fun hHeld => ?_)
          rw [← hwd] at hHeld ⊢
          clear hwd
          refine pure_ (i := 0) (N := some 15) (v := ?_) (a' := ?_) #[true, false, false, false, false, false, false, false, false, false, false, false, false, false, false, false, false, false, false] rfl rfl (by kernel_rfl) (fun _ _ _ h => h) (Or.inl ⟨by rfl, ?_⟩) ?_ ?_
          rotate_left
          · intro w'
            go_simp
            with_reducible rfl
          rotate_left
          · simp only [Act.put, List.setIfInBounds_toArray, List.set_cons_zero, List.set_cons_succ, i64_w, i32_w]
            rfl
          refine take_ (i := 1) (N := some 16) (v := ?_) (a' := ?_) #[true, true, false, false, false, false, false, false, false, false, false, false, false, false, false, false, false, false, false] rfl rfl (by kernel_rfl) (fun _ _ _ h => h) (Or.inl ⟨by rfl, ?_⟩) hHeld ?_ ?_
          rotate_left
          · rintro w' s0
            have b0 := HA.out w' s0
            go_simp
            with_reducible rfl
          rotate_left
          · simp only [Act.put, List.setIfInBounds_toArray, List.set_cons_zero, List.set_cons_succ, i64_w, i32_w]
            rfl
          refine one_ (i := 2) (N := some 17) #[true, true, true, false, false, false, false, false, false, false, false, false, false, false, false, false, false, false, false] rfl rfl (by kernel_rfl) (by decide) (fun K hK => ?_)
          refine goes_ Tryd.func18 (by kernel_rfl) rfl #[.string s] (by rfl) rfl rfl (by (try simp only [List.map_toArray, List.map_cons, List.map_nil]); rfl) ?_
          have hx := path_calls s wd
          rw [hpp] at hx
          refine hx.mono ?_
          clear hx
          rintro e w8 ⟨rfl, hb8⟩
          refine ⟨_, rfl, ?_⟩
          have H8 := Aside0.mk hb8
          clear hb8
          refine hK.out _ _ (H8.out) (fun hHeld => ?_)
          clear hK K
          refine norm_ (a' := ?_) ?_ ?_
          rotate_left
          · show Act.put _ (some 17) _ = _
            simp only [Act.put, List.setIfInBounds_toArray, List.set_cons_zero, List.set_cons_succ, i64_w, i32_w]
            rfl
          refine pure_ (i := 3) (N := some 18) (v := ?_) (a' := ?_) #[true, true, true, true, false, false, false, false, false, false, false, false, false, false, false, false, false, false, false] rfl rfl (by kernel_rfl) (fun _ _ _ h => h) (Or.inl ⟨by rfl, ?_⟩) ?_ ?_
          rotate_left
          · intro w'
            go_simp
            with_reducible rfl
          rotate_left
          · simp only [Act.put, List.setIfInBounds_toArray, List.set_cons_zero, List.set_cons_succ, i64_w, i32_w]
            rfl
          refine pure_ (i := 4) (N := some 19) (v := ?_) (a' := ?_) #[true, true, true, true, true, false, false, false, false, false, false, false, false, false, false, false, false, false, false] rfl rfl (by kernel_rfl) (fun _ _ _ h => h) (Or.inl ⟨by rfl, ?_⟩) ?_ ?_
          rotate_left
          · intro w'
            go_simp
            with_reducible rfl
          rotate_left
          · simp only [Act.put, List.setIfInBounds_toArray, List.set_cons_zero, List.set_cons_succ, i64_w, i32_w]
            rfl
          refine pure_ (i := 5) (N := some 20) (v := undef) (a' := ?_) #[true, true, true, true, true, true, false, false, false, false, false, false, false, false, false, false, false, false, false] rfl rfl (by kernel_rfl) (fun _ _ _ h => h) (Or.inr ⟨by rfl, rfl⟩) ?_ ?_
          rotate_left
          · simp only [Act.put, List.setIfInBounds_toArray, List.set_cons_zero, List.set_cons_succ, i64_w, i32_w]
            rfl
          refine pure_ (i := 6) (N := some 21) (v := undef) (a' := ?_) #[true, true, true, true, true, true, true, false, false, false, false, false, false, false, false, false, false, false, false] rfl rfl (by kernel_rfl) (fun _ _ _ h => h) (Or.inr ⟨by rfl, rfl⟩) ?_ ?_
          rotate_left
          · simp only [Act.put, List.setIfInBounds_toArray, List.set_cons_zero, List.set_cons_succ, i64_w, i32_w]
            rfl
          refine pure_ (i := 7) (N := some 22) (v := undef) (a' := ?_) #[true, true, true, true, true, true, true, true, false, false, false, false, false, false, false, false, false, false, false] rfl rfl (by kernel_rfl) (fun _ _ _ h => h) (Or.inr ⟨by rfl, rfl⟩) ?_ ?_
          rotate_left
          · simp only [Act.put, List.setIfInBounds_toArray, List.set_cons_zero, List.set_cons_succ, i64_w, i32_w]
            rfl
          refine pure_ (i := 8) (N := some 23) (v := undef) (a' := ?_) #[true, true, true, true, true, true, true, true, true, false, false, false, false, false, false, false, false, false, false] rfl rfl (by kernel_rfl) (fun _ _ _ h => h) (Or.inr ⟨by rfl, rfl⟩) ?_ ?_
          rotate_left
          · simp only [Act.put, List.setIfInBounds_toArray, List.set_cons_zero, List.set_cons_succ, i64_w, i32_w]
            rfl
          refine pure_ (i := 9) (N := some 24) (v := undef) (a' := ?_) #[true, true, true, true, true, true, true, true, true, true, false, false, false, false, false, false, false, false, false] rfl rfl (by kernel_rfl) (fun _ _ _ h => h) (Or.inr ⟨by rfl, rfl⟩) ?_ ?_
          rotate_left
          · simp only [Act.put, List.setIfInBounds_toArray, List.set_cons_zero, List.set_cons_succ, i64_w, i32_w]
            rfl
          refine pure_ (i := 10) (N := some 25) (v := undef) (a' := ?_) #[true, true, true, true, true, true, true, true, true, true, true, false, false, false, false, false, false, false, false] rfl rfl (by kernel_rfl) (fun _ _ _ h => h) (Or.inr ⟨by rfl, rfl⟩) ?_ ?_
          rotate_left
          · simp only [Act.put, List.setIfInBounds_toArray, List.set_cons_zero, List.set_cons_succ, i64_w, i32_w]
            rfl
          refine pure_ (i := 11) (N := some 26) (v := undef) (a' := ?_) #[true, true, true, true, true, true, true, true, true, true, true, true, false, false, false, false, false, false, false] rfl rfl (by kernel_rfl) (fun _ _ _ h => h) (Or.inr ⟨by rfl, rfl⟩) ?_ ?_
          rotate_left
          · simp only [Act.put, List.setIfInBounds_toArray, List.set_cons_zero, List.set_cons_succ, i64_w, i32_w]
            rfl
          refine pure_ (i := 12) (N := some 27) (v := undef) (a' := ?_) #[true, true, true, true, true, true, true, true, true, true, true, true, true, false, false, false, false, false, false] rfl rfl (by kernel_rfl) (fun _ _ _ h => h) (Or.inr ⟨by rfl, rfl⟩) ?_ ?_
          rotate_left
          · simp only [Act.put, List.setIfInBounds_toArray, List.set_cons_zero, List.set_cons_succ, i64_w, i32_w]
            rfl
          refine pure_ (i := 13) (N := some 28) (v := undef) (a' := ?_) #[true, true, true, true, true, true, true, true, true, true, true, true, true, true, false, false, false, false, false] rfl rfl (by kernel_rfl) (fun _ _ _ h => h) (Or.inr ⟨by rfl, rfl⟩) ?_ ?_
          rotate_left
          · simp only [Act.put, List.setIfInBounds_toArray, List.set_cons_zero, List.set_cons_succ, i64_w, i32_w]
            rfl
          refine pure_ (i := 14) (N := some 29) (v := undef) (a' := ?_) #[true, true, true, true, true, true, true, true, true, true, true, true, true, true, true, false, false, false, false] rfl rfl (by kernel_rfl) (fun _ _ _ h => h) (Or.inr ⟨by rfl, rfl⟩) ?_ ?_
          rotate_left
          · simp only [Act.put, List.setIfInBounds_toArray, List.set_cons_zero, List.set_cons_succ, i64_w, i32_w]
            rfl
          refine pure_ (i := 15) (N := some 30) (v := undef) (a' := ?_) #[true, true, true, true, true, true, true, true, true, true, true, true, true, true, true, true, false, false, false] rfl rfl (by kernel_rfl) (fun _ _ _ h => h) (Or.inr ⟨by rfl, rfl⟩) ?_ ?_
          rotate_left
          · simp only [Act.put, List.setIfInBounds_toArray, List.set_cons_zero, List.set_cons_succ, i64_w, i32_w]
            rfl
          refine pure_ (i := 16) (N := some 31) (v := undef) (a' := ?_) #[true, true, true, true, true, true, true, true, true, true, true, true, true, true, true, true, true, false, false] rfl rfl (by kernel_rfl) (fun _ _ _ h => h) (Or.inr ⟨by rfl, rfl⟩) ?_ ?_
          rotate_left
          · simp only [Act.put, List.setIfInBounds_toArray, List.set_cons_zero, List.set_cons_succ, i64_w, i32_w]
            rfl
          refine pure_ (i := 17) (N := some 32) (v := undef) (a' := ?_) #[true, true, true, true, true, true, true, true, true, true, true, true, true, true, true, true, true, true, false] rfl rfl (by kernel_rfl) (fun _ _ _ h => h) (Or.inr ⟨by rfl, rfl⟩) ?_ ?_
          rotate_left
          · simp only [Act.put, List.setIfInBounds_toArray, List.set_cons_zero, List.set_cons_succ, i64_w, i32_w]
            rfl
          refine pure_ (i := 18) (N := some 33) (v := ?_) (a' := ?_) #[true, true, true, true, true, true, true, true, true, true, true, true, true, true, true, true, true, true, true] rfl rfl (by kernel_rfl) (fun _ _ _ h => h) (Or.inl ⟨by rfl, ?_⟩) ?_ ?_
          rotate_left
          · intro w'
            go_simp
            with_reducible rfl
          rotate_left
          · simp only [Act.put, List.setIfInBounds_toArray, List.set_cons_zero, List.set_cons_succ, i64_w, i32_w]
            rfl
          refine done_ (by kernel_rfl) ?_
          go_wp2
          go_meet
          case rel => exact ⟨by rw [hpp]; rfl, HFin.out _ H8.out⟩
        · by_cases hi0 : i = 0
          · have hpt : pv = true := by rw [hpv, hi0]; rfl
            subst hi0
            have d2 : decide (((0 : Nat) : Int) > 0) = false := by decide
            refine start_ (n := 19) (S := fun w' => Below wd.heap.size wd w') (ds := []) #[false, false, false, false, false, false, false, false, false, false, false, false, false, false, false, false, false, false, false] (by kernel_rfl) rfl (by kernel_rfl) (by rw [← hwd]; exact Below.refl _ _) (fun hHeld => ?_)
            rw [← hwd] at hHeld ⊢
            clear hwd
            refine pure_ (i := 0) (N := some 15) (v := ?_) (a' := ?_) #[true, false, false, false, false, false, false, false, false, false, false, false, false, false, false, false, false, false, false] rfl rfl (by kernel_rfl) (fun _ _ _ h => h) (Or.inl ⟨by rfl, ?_⟩) ?_ ?_
            rotate_left
            · intro w'
              go_simp
              with_reducible rfl
            rotate_left
            · simp only [Act.put, List.setIfInBounds_toArray, List.set_cons_zero, List.set_cons_succ, i64_w, i32_w]
              rfl
            refine take_ (i := 1) (N := some 16) (v := ?_) (a' := ?_) #[true, true, false, false, false, false, false, false, false, false, false, false, false, false, false, false, false, false, false] rfl rfl (by kernel_rfl) (fun _ _ _ h => h) (Or.inl ⟨by rfl, ?_⟩) hHeld ?_ ?_
            rotate_left
            · rintro w' s0
              have b0 := HA.out w' s0
              go_simp
              with_reducible rfl
            rotate_left
            · simp only [Act.put, List.setIfInBounds_toArray, List.set_cons_zero, List.set_cons_succ, i64_w, i32_w]
              rfl
            refine one_ (i := 2) (N := some 17) #[true, true, true, false, false, false, false, false, false, false, false, false, false, false, false, false, false, false, false] rfl rfl (by kernel_rfl) (by decide) (fun K hK => ?_)
            refine goes_ Tryd.func18 (by kernel_rfl) rfl #[.string s] (by rfl) rfl rfl (by (try simp only [List.map_toArray, List.map_cons, List.map_nil]); rfl) ?_
            have hx := path_calls s wd
            rw [hpp] at hx
            refine hx.mono ?_
            clear hx
            rintro e w8 ⟨rfl, hb8⟩
            refine ⟨_, rfl, ?_⟩
            have H8 := Aside0.mk hb8
            clear hb8
            refine hK.out _ _ (H8.out) (fun hHeld => ?_)
            clear hK K
            refine norm_ (a' := ?_) ?_ ?_
            rotate_left
            · show Act.put _ (some 17) _ = _
              simp only [Act.put, List.setIfInBounds_toArray, List.set_cons_zero, List.set_cons_succ, i64_w, i32_w]
              rfl
            refine pure_ (i := 3) (N := some 18) (v := ?_) (a' := ?_) #[true, true, true, true, false, false, false, false, false, false, false, false, false, false, false, false, false, false, false] rfl rfl (by kernel_rfl) (fun _ _ _ h => h) (Or.inl ⟨by rfl, ?_⟩) ?_ ?_
            rotate_left
            · intro w'
              go_simp
              with_reducible rfl
            rotate_left
            · simp only [Act.put, List.setIfInBounds_toArray, List.set_cons_zero, List.set_cons_succ, i64_w, i32_w]
              rfl
            refine pure_ (i := 4) (N := some 19) (v := ?_) (a' := ?_) #[true, true, true, true, true, false, false, false, false, false, false, false, false, false, false, false, false, false, false] rfl rfl (by kernel_rfl) (fun _ _ _ h => h) (Or.inl ⟨by rfl, ?_⟩) ?_ ?_
            rotate_left
            · intro w'
              go_simp
              with_reducible rfl
            rotate_left
            · simp only [Act.put, List.setIfInBounds_toArray, List.set_cons_zero, List.set_cons_succ, i64_w, i32_w]
              rfl
            refine pure_ (i := 5) (N := some 20) (v := ?_) (a' := ?_) #[true, true, true, true, true, true, false, false, false, false, false, false, false, false, false, false, false, false, false] rfl rfl (by kernel_rfl) (fun _ _ _ h => h) (Or.inl ⟨by rfl, ?_⟩) ?_ ?_
            rotate_left
            · intro w'
              go_simp
              with_reducible rfl
            rotate_left
            · simp only [Act.put, List.setIfInBounds_toArray, List.set_cons_zero, List.set_cons_succ, i64_w, i32_w]
              rfl
            refine pure_ (i := 6) (N := some 21) (v := ?_) (a' := ?_) #[true, true, true, true, true, true, true, false, false, false, false, false, false, false, false, false, false, false, false] rfl rfl (by kernel_rfl) (fun _ _ _ h => h) (Or.inl ⟨by rfl, ?_⟩) ?_ ?_
            rotate_left
            · intro w'
              go_simp
              with_reducible rfl
            rotate_left
            · simp only [Act.put, List.setIfInBounds_toArray, List.set_cons_zero, List.set_cons_succ, i64_w, i32_w]
              rfl
            refine pure_ (i := 7) (N := some 22) (v := ?_) (a' := ?_) #[true, true, true, true, true, true, true, true, false, false, false, false, false, false, false, false, false, false, false] rfl rfl (by kernel_rfl) (fun _ _ _ h => h) (Or.inl ⟨by rfl, ?_⟩) ?_ ?_
            rotate_left
            · intro w'
              go_simp
              with_reducible rfl
            rotate_left
            · simp only [Act.put, List.setIfInBounds_toArray, List.set_cons_zero, List.set_cons_succ, i64_w, i32_w]
              rfl
            refine pure_ (i := 8) (N := some 23) (v := undef) (a' := ?_) #[true, true, true, true, true, true, true, true, true, false, false, false, false, false, false, false, false, false, false] rfl rfl (by kernel_rfl) (fun _ _ _ h => h) (Or.inr ⟨by rfl, rfl⟩) ?_ ?_
            rotate_left
            · simp only [Act.put, List.setIfInBounds_toArray, List.set_cons_zero, List.set_cons_succ, i64_w, i32_w]
              rfl
            refine pure_ (i := 9) (N := some 24) (v := undef) (a' := ?_) #[true, true, true, true, true, true, true, true, true, true, false, false, false, false, false, false, false, false, false] rfl rfl (by kernel_rfl) (fun _ _ _ h => h) (Or.inr ⟨by rfl, rfl⟩) ?_ ?_
            rotate_left
            · simp only [Act.put, List.setIfInBounds_toArray, List.set_cons_zero, List.set_cons_succ, i64_w, i32_w]
              rfl
            refine pure_ (i := 10) (N := some 25) (v := undef) (a' := ?_) #[true, true, true, true, true, true, true, true, true, true, true, false, false, false, false, false, false, false, false] rfl rfl (by kernel_rfl) (fun _ _ _ h => h) (Or.inr ⟨by rfl, rfl⟩) ?_ ?_
            rotate_left
            · simp only [Act.put, List.setIfInBounds_toArray, List.set_cons_zero, List.set_cons_succ, i64_w, i32_w]
              rfl
            refine pure_ (i := 11) (N := some 26) (v := undef) (a' := ?_) #[true, true, true, true, true, true, true, true, true, true, true, true, false, false, false, false, false, false, false] rfl rfl (by kernel_rfl) (fun _ _ _ h => h) (Or.inr ⟨by rfl, rfl⟩) ?_ ?_
            rotate_left
            · simp only [Act.put, List.setIfInBounds_toArray, List.set_cons_zero, List.set_cons_succ, i64_w, i32_w]
              rfl
            refine pure_ (i := 12) (N := some 27) (v := undef) (a' := ?_) #[true, true, true, true, true, true, true, true, true, true, true, true, true, false, false, false, false, false, false] rfl rfl (by kernel_rfl) (fun _ _ _ h => h) (Or.inr ⟨by rfl, rfl⟩) ?_ ?_
            rotate_left
            · simp only [Act.put, List.setIfInBounds_toArray, List.set_cons_zero, List.set_cons_succ, i64_w, i32_w]
              rfl
            refine pure_ (i := 13) (N := some 28) (v := undef) (a' := ?_) #[true, true, true, true, true, true, true, true, true, true, true, true, true, true, false, false, false, false, false] rfl rfl (by kernel_rfl) (fun _ _ _ h => h) (Or.inr ⟨by rfl, rfl⟩) ?_ ?_
            rotate_left
            · simp only [Act.put, List.setIfInBounds_toArray, List.set_cons_zero, List.set_cons_succ, i64_w, i32_w]
              rfl
            refine pure_ (i := 14) (N := some 29) (v := undef) (a' := ?_) #[true, true, true, true, true, true, true, true, true, true, true, true, true, true, true, false, false, false, false] rfl rfl (by kernel_rfl) (fun _ _ _ h => h) (Or.inr ⟨by rfl, rfl⟩) ?_ ?_
            rotate_left
            · simp only [Act.put, List.setIfInBounds_toArray, List.set_cons_zero, List.set_cons_succ, i64_w, i32_w]
              rfl
            refine pure_ (i := 15) (N := some 30) (v := undef) (a' := ?_) #[true, true, true, true, true, true, true, true, true, true, true, true, true, true, true, true, false, false, false] rfl rfl (by kernel_rfl) (fun _ _ _ h => h) (Or.inr ⟨by rfl, rfl⟩) ?_ ?_
            rotate_left
            · simp only [Act.put, List.setIfInBounds_toArray, List.set_cons_zero, List.set_cons_succ, i64_w, i32_w]
              rfl
            refine pure_ (i := 16) (N := some 31) (v := undef) (a' := ?_) #[true, true, true, true, true, true, true, true, true, true, true, true, true, true, true, true, true, false, false] rfl rfl (by kernel_rfl) (fun _ _ _ h => h) (Or.inr ⟨by rfl, rfl⟩) ?_ ?_
            rotate_left
            · simp only [Act.put, List.setIfInBounds_toArray, List.set_cons_zero, List.set_cons_succ, i64_w, i32_w]
              rfl
            refine pure_ (i := 17) (N := some 32) (v := ?_) (a' := ?_) #[true, true, true, true, true, true, true, true, true, true, true, true, true, true, true, true, true, true, false] rfl rfl (by kernel_rfl) (fun _ _ _ h => h) (Or.inl ⟨by rfl, ?_⟩) ?_ ?_
            rotate_left
            · intro w'
              go_simp
              with_reducible rfl
            rotate_left
            · simp only [Act.put, List.setIfInBounds_toArray, List.set_cons_zero, List.set_cons_succ, i64_w, i32_w]
              rfl
            refine pure_ (i := 18) (N := some 33) (v := ?_) (a' := ?_) #[true, true, true, true, true, true, true, true, true, true, true, true, true, true, true, true, true, true, true] rfl rfl (by kernel_rfl) (fun _ _ _ h => h) (Or.inl ⟨by rfl, ?_⟩) ?_ ?_
            rotate_left
            · intro w'
              go_simp
              with_reducible rfl
            rotate_left
            · simp only [Act.put, List.setIfInBounds_toArray, List.set_cons_zero, List.set_cons_succ, i64_w, i32_w]
              rfl
            refine done_ (by kernel_rfl) ?_
            go_wp2
            go_meet
            case rel => exact ⟨by rw [hpp, hpt]; rfl, HFin.out _ H8.out⟩
          · obtain ⟨ad2, B2, bc2, e2, p0, _, _, _⟩ := at_T50 HX.out.1 ((i - 1 : Nat) : Int) (by omega) (by have := HX.out.2; omega)
            cases e2
            obtain ⟨p, hp⟩ : ∃ p, p = (l.getD (i - 1) z50).f0 := ⟨_, rfl⟩
            have hpt : pv = lessS p s := by rw [hpv]; unfold prevOf; rw [if_neg hi0, ← hp]
            rw [show rd_T50 l ((i - 1 : Nat) : Int) = l.getD (i - 1) z50 from rfl, ← hp, Int.toNat_natCast] at p0
            have hall2 : ∀ W, Below wd.heap.size wd W → W.cell? ⟨g5, 0, none⟩ = some (.string s) ∧ W.cell? (ad.add ((i - 1) * 2)) = some (.string p) := fun W hW => ⟨HA.out W hW, ((below_step HD.out.2.2 hW).cell (World.block_lt_of_cell? w _ p0)).trans p0⟩
            have HA2 := Aside0.mk hall2
            have d2 : decide ((i : Int) > 0) = true := decide_eq_true (by omega)
            have d2a : decide (0 < (i : Int)) = true := decide_eq_true (by omega)
            have d2b : decide (0 < i) = true := decide_eq_true (by omega)
            have hi1m : i - 1 < m := by omega
            have hw1 : wrap64 ((i : Int) - 1) = ((i - 1 : Nat) : Int) := by
              obtain ⟨i1, rfl⟩ : ∃ i1, i = i1 + 1 := ⟨i - 1, by omega⟩
              exact (IntWalk.wrap64_in _ ⟨by omega, by omega⟩).trans (by omega)
            clear hall2 hi0 p0 hp
            refine start_ (n := 19) (S := fun w' => Below wd.heap.size wd w') (ds := []) #[false, false, false, false, false, false, false, false, false, false, false, false, false, false, false, false, false, false, false] (by kernel_rfl) rfl (by kernel_rfl) (by rw [← hwd]; exact Below.refl _ _) (fun hHeld => ?_)
            rw [← hwd] at hHeld ⊢
            clear hwd
            refine pure_ (i := 0) (N := some 15) (v := ?_) (a' := ?_) #[true, false, false, false, false, false, false, false, false, false, false, false, false, false, false, false, false, false, false] rfl rfl (by kernel_rfl) (fun _ _ _ h => h) (Or.inl ⟨by rfl, ?_⟩) ?_ ?_
            rotate_left
            · intro w'
              go_simp
              with_reducible rfl
            rotate_left
            · simp only [Act.put, List.setIfInBounds_toArray, List.set_cons_zero, List.set_cons_succ, i64_w, i32_w]
              rfl
            refine take_ (i := 1) (N := some 16) (v := ?_) (a' := ?_) #[true, true, false, false, false, false, false, false, false, false, false, false, false, false, false, false, false, false, false] rfl rfl (by kernel_rfl) (fun _ _ _ h => h) (Or.inl ⟨by rfl, ?_⟩) hHeld ?_ ?_
            rotate_left
            · rintro w' s0
              have b0 := HA.out w' s0
              go_simp
              with_reducible rfl
            rotate_left
            · simp only [Act.put, List.setIfInBounds_toArray, List.set_cons_zero, List.set_cons_succ, i64_w, i32_w]
              rfl
            refine one_ (i := 2) (N := some 17) #[true, true, true, false, false, false, false, false, false, false, false, false, false, false, false, false, false, false, false] rfl rfl (by kernel_rfl) (by decide) (fun K hK => ?_)
            refine goes_ Tryd.func18 (by kernel_rfl) rfl #[.string s] (by rfl) rfl rfl (by (try simp only [List.map_toArray, List.map_cons, List.map_nil]); rfl) ?_
            have hx := path_calls s wd
            rw [hpp] at hx
            refine hx.mono ?_
            clear hx
            rintro e w8 ⟨rfl, hb8⟩
            refine ⟨_, rfl, ?_⟩
            have H8 := Aside0.mk hb8
            clear hb8
            refine hK.out _ _ (H8.out) (fun hHeld => ?_)
            clear hK K
            refine norm_ (a' := ?_) ?_ ?_
            rotate_left
            · show Act.put _ (some 17) _ = _
              simp only [Act.put, List.setIfInBounds_toArray, List.set_cons_zero, List.set_cons_succ, i64_w, i32_w]
              rfl
            refine pure_ (i := 3) (N := some 18) (v := ?_) (a' := ?_) #[true, true, true, true, false, false, false, false, false, false, false, false, false, false, false, false, false, false, false] rfl rfl (by kernel_rfl) (fun _ _ _ h => h) (Or.inl ⟨by rfl, ?_⟩) ?_ ?_
            rotate_left
            · intro w'
              go_simp
              with_reducible rfl
            rotate_left
            · simp only [Act.put, List.setIfInBounds_toArray, List.set_cons_zero, List.set_cons_succ, i64_w, i32_w]
              rfl
            refine pure_ (i := 4) (N := some 19) (v := ?_) (a' := ?_) #[true, true, true, true, true, false, false, false, false, false, false, false, false, false, false, false, false, false, false] rfl rfl (by kernel_rfl) (fun _ _ _ h => h) (Or.inl ⟨by rfl, ?_⟩) ?_ ?_
            rotate_left
            · intro w'
              go_simp
              with_reducible rfl
            rotate_left
            · simp only [Act.put, List.setIfInBounds_toArray, List.set_cons_zero, List.set_cons_succ, i64_w, i32_w]
              rfl
            refine pure_ (i := 5) (N := some 20) (v := ?_) (a' := ?_) #[true, true, true, true, true, true, false, false, false, false, false, false, false, false, false, false, false, false, false] rfl rfl (by kernel_rfl) (fun _ _ _ h => h) (Or.inl ⟨by rfl, ?_⟩) ?_ ?_
            rotate_left
            · intro w'
              go_simp
              with_reducible rfl
            rotate_left
            · simp only [Act.put, List.setIfInBounds_toArray, List.set_cons_zero, List.set_cons_succ, i64_w, i32_w]
              rfl
            refine pure_ (i := 6) (N := some 21) (v := ?_) (a' := ?_) #[true, true, true, true, true, true, true, false, false, false, false, false, false, false, false, false, false, false, false] rfl rfl (by kernel_rfl) (fun _ _ _ h => h) (Or.inl ⟨by rfl, ?_⟩) ?_ ?_
            rotate_left
            · intro w'
              go_simp
              with_reducible rfl
            rotate_left
            · simp only [Act.put, List.setIfInBounds_toArray, List.set_cons_zero, List.set_cons_succ, i64_w, i32_w]
              rfl
            refine pure_ (i := 7) (N := some 22) (v := ?_) (a' := ?_) #[true, true, true, true, true, true, true, true, false, false, false, false, false, false, false, false, false, false, false] rfl rfl (by kernel_rfl) (fun _ _ _ h => h) (Or.inl ⟨by rfl, ?_⟩) ?_ ?_
            rotate_left
            · intro w'
              go_simp
              with_reducible rfl
            rotate_left
            · simp only [Act.put, List.setIfInBounds_toArray, List.set_cons_zero, List.set_cons_succ, i64_w, i32_w]
              rfl
            refine pure_ (i := 8) (N := some 23) (v := ?_) (a' := ?_) #[true, true, true, true, true, true, true, true, true, false, false, false, false, false, false, false, false, false, false] rfl rfl (by kernel_rfl) (fun _ _ _ h => h) (Or.inl ⟨by rfl, ?_⟩) ?_ ?_
            rotate_left
            · intro w'
              go_simp
              with_reducible rfl
            rotate_left
            · simp only [Act.put, List.setIfInBounds_toArray, List.set_cons_zero, List.set_cons_succ, i64_w, i32_w]
              rfl
            refine pure_ (i := 9) (N := some 24) (v := ?_) (a' := ?_) #[true, true, true, true, true, true, true, true, true, true, false, false, false, false, false, false, false, false, false] rfl rfl (by kernel_rfl) (fun _ _ _ h => h) (Or.inl ⟨by rfl, ?_⟩) ?_ ?_
            rotate_left
            · intro w'
              go_simp
              with_reducible rfl
            rotate_left
            · simp only [Act.put, List.setIfInBounds_toArray, List.set_cons_zero, List.set_cons_succ, i64_w, i32_w]
              rfl
            refine pure_ (i := 10) (N := some 25) (v := ?_) (a' := ?_) #[true, true, true, true, true, true, true, true, true, true, true, false, false, false, false, false, false, false, false] rfl rfl (by kernel_rfl) (fun _ _ _ h => h) (Or.inl ⟨by rfl, ?_⟩) ?_ ?_
            rotate_left
            · intro w'
              go_simp
              with_reducible rfl
            rotate_left
            · simp only [Act.put, List.setIfInBounds_toArray, List.set_cons_zero, List.set_cons_succ, i64_w, i32_w]
              rfl
            refine pure_ (i := 11) (N := some 26) (v := ?_) (a' := ?_) #[true, true, true, true, true, true, true, true, true, true, true, true, false, false, false, false, false, false, false] rfl rfl (by kernel_rfl) (fun _ _ _ h => h) (Or.inl ⟨by rfl, ?_⟩) ?_ ?_
            rotate_left
            · intro w'
              go_simp
              with_reducible rfl
            rotate_left
            · simp only [Act.put, List.setIfInBounds_toArray, List.set_cons_zero, List.set_cons_succ, i64_w, i32_w]
              rfl
            refine pure_ (i := 12) (N := some 27) (v := ?_) (a' := ?_) #[true, true, true, true, true, true, true, true, true, true, true, true, true, false, false, false, false, false, false] rfl rfl (by kernel_rfl) (fun _ _ _ h => h) (Or.inl ⟨by rfl, ?_⟩) ?_ ?_
            rotate_left
            · intro w'
              go_simp
              with_reducible rfl
            rotate_left
            · simp only [Act.put, List.setIfInBounds_toArray, List.set_cons_zero, List.set_cons_succ, i64_w, i32_w]
              rfl
            refine take_ (i := 13) (N := some 28) (v := ?_) (a' := ?_) #[true, true, true, true, true, true, true, true, true, true, true, true, true, true, false, false, false, false, false] rfl rfl (by kernel_rfl) (fun _ _ _ h => h) (Or.inl ⟨by rfl, ?_⟩) hHeld ?_ ?_
            rotate_left
            · rintro w' s0
              obtain ⟨b0, b1⟩ := HA2.out w' s0
              go_simp
              with_reducible rfl
            rotate_left
            · simp only [Act.put, List.setIfInBounds_toArray, List.set_cons_zero, List.set_cons_succ, i64_w, i32_w]
              rfl
            refine pure_ (i := 14) (N := some 29) (v := ?_) (a' := ?_) #[true, true, true, true, true, true, true, true, true, true, true, true, true, true, true, false, false, false, false] rfl rfl (by kernel_rfl) (fun _ _ _ h => h) (Or.inl ⟨by rfl, ?_⟩) ?_ ?_
            rotate_left
            · intro w'
              go_simp
              with_reducible rfl
            rotate_left
            · simp only [Act.put, List.setIfInBounds_toArray, List.set_cons_zero, List.set_cons_succ, i64_w, i32_w]
              rfl
            refine take_ (i := 15) (N := some 30) (v := ?_) (a' := ?_) #[true, true, true, true, true, true, true, true, true, true, true, true, true, true, true, true, false, false, false] rfl rfl (by kernel_rfl) (fun _ _ _ h => h) (Or.inl ⟨by rfl, ?_⟩) hHeld ?_ ?_
            rotate_left
            · rintro w' s0
              obtain ⟨b0, b1⟩ := HA2.out w' s0
              go_simp
              with_reducible rfl
            rotate_left
            · simp only [Act.put, List.setIfInBounds_toArray, List.set_cons_zero, List.set_cons_succ, i64_w, i32_w]
              rfl
            refine pure_ (i := 16) (N := some 31) (v := ?_) (a' := ?_) #[true, true, true, true, true, true, true, true, true, true, true, true, true, true, true, true, true, false, false] rfl rfl (by kernel_rfl) (fun _ _ _ h => h) (Or.inl ⟨by rfl, ?_⟩) ?_ ?_
            rotate_left
            · intro w'
              go_simp
              with_reducible rfl
            rotate_left
            · simp only [Act.put, List.setIfInBounds_toArray, List.set_cons_zero, List.set_cons_succ, i64_w, i32_w]
              rfl
            refine pure_ (i := 17) (N := some 32) (v := ?_) (a' := ?_) #[true, true, true, true, true, true, true, true, true, true, true, true, true, true, true, true, true, true, false] rfl rfl (by kernel_rfl) (fun _ _ _ h => h) (Or.inl ⟨by rfl, ?_⟩) ?_ ?_
            rotate_left
            · intro w'
              go_simp
              with_reducible rfl
            rotate_left
            · simp only [Act.put, List.setIfInBounds_toArray, List.set_cons_zero, List.set_cons_succ, i64_w, i32_w]
              rfl
            refine pure_ (i := 18) (N := some 33) (v := ?_) (a' := ?_) #[true, true, true, true, true, true, true, true, true, true, true, true, true, true, true, true, true, true, true] rfl rfl (by kernel_rfl) (fun _ _ _ h => h) (Or.inl ⟨by rfl, ?_⟩) ?_ ?_
            rotate_left
            · intro w'
              go_simp
              with_reducible rfl
            rotate_left
            · simp only [Act.put, List.setIfInBounds_toArray, List.set_cons_zero, List.set_cons_succ, i64_w, i32_w]
              rfl
            refine done_ (by kernel_rfl) ?_
            go_wp2
            go_meet
            case rel => exact ⟨by rw [hpp, hpt]; unfold lessS; simp, HFin.out _ H8.out⟩
      case rest =>
        obtain ⟨rfl, HC⟩ := hcut
        clear HS
        have hgo : pathsM l = (pathM s && pv && !frontIn (seenOf l i) s && pathsGo (prevOf l (i + 1)) (seenOf l (i + 1)) (l.drop (i + 1))) := by
          have h1 := hI.out.2.2
          rw [drop_getD HF.out.2.1, ← HF.out.1] at h1
          rw [h1, seenOf_succ HF.out.2.1, ← HF.out.1, show prevOf l (i + 1) = some s by unfold prevOf; rw [if_neg (by omega), Nat.add_sub_cancel, ← HF.out.1]]
          rw [pathsGo_cons, ← hpv]
        have HG := Aside0.mk hgo
        clear hgo hpv hI
        cases hbad : (pathM s && pv)
        · have hp : pathsM l = false := by rw [HG.out, hbad]; rfl
          have HP := Aside0.mk hp
          clear hp
          go_wp2
          go_ret
          exact ⟨by first | (rw [HP.out]; done) | (rw [HP.out]; rfl), HC.out.2.2⟩
        · have a0 : wc.cell? ⟨g5, 0, none⟩ = some (.string s) := (blk_cell HC.out.1 0).trans rfl
          have hss : s.size ≤ 255 := by
            have : pathM s = true := by
              rw [Bool.and_eq_true] at hbad
              exact hbad.1
            unfold pathM at this
            rw [Bool.and_eq_true, Bool.and_eq_true, decide_eq_true_eq] at this
            exact this.1.1.2
          have HB := Aside0.mk hbad
          clear hbad
          go_wp2
          go_loopg [37] s.size (fun q2 v37 wk => ∃ k : Nat, v37 = .int .i64 k ∧ q2 + k = s.size ∧ Aside0 (∀ j, j < k → (bt s j == 47 && decide ((s.extract 0 j).data.toList ∈ seenOf l i)) = false) ∧ Aside0 (FileBox wk g5 s B bl bc ∧ Seen wk w.heap.size i (seenOf l i) ∧ Below w.heap.size w wk))
          case atStart => exact ⟨0, rfl, by omega, ⟨fun j hj => by omega⟩, HC⟩
          case round =>
            clear HC a0
            obtain ⟨k, rfl, hqk, HN, HK⟩ := hrel
            have a0 : wr.cell? ⟨g5, 0, none⟩ = some (.string s) := (blk_cell HK.out.1 0).trans rfl
            by_cases hks : k < s.size
            · have d3 : decide ((k : Int) < (s.size : Int)) = true := decide_eq_true (by omega)
              have d3n : decide (k < s.size) = true := decide_eq_true hks
              go_upto_region 10 with (fail)
              obtain ⟨wd, hwd⟩ : ∃ wd, wd = wr.drew := ⟨_, rfl⟩
              have hbd : Below wr.heap.size wr wd := by rw [hwd]; exact below_drew1 (Below.refl _ _)
              have HD := Aside0.mk (show FileBox wd g5 s B bl bc ∧ Seen wd w.heap.size i (seenOf l i) ∧ Below w.heap.size w wd from ⟨HK.out.1.below hbd, HK.out.2.1.blk (hbd.block _ HK.out.2.1.lt), below_step HK.out.2.2 hbd⟩)
              have HFin := Aside0.mk HD
              have hall : ∀ W, Below wd.heap.size wd W → W.cell? ⟨g5, 0, none⟩ = some (.string s) := fun W hW => (blk_cell (HD.out.1.below hW) 0).trans rfl
              have HA := Aside0.mk hall
              have hkle : k ≤ s.size := Nat.le_of_lt hks
              have hbt : bt s k = (s[k].toNat : Int) := (bt_at s k hks).symm
              have hlook : ∀ W, Below wd.heap.size wd W → (Instr.lookup 105 (.map (some w.heap.size)) (.string (s.extract 0 k)) false).run Tryd.prog W = .ok (.bool (decide ((s.extract 0 k).data.toList ∈ seenOf l i))) W := fun W hW => (HD.out.2.1.blk (hW.block _ HD.out.2.1.lt)).look (by rw [ByteArray.size_extract]; unfold maxLen; omega)
              have hfr : (bt s k == 47 && decide ((s.extract 0 k).data.toList ∈ seenOf l i)) = true → frontIn (seenOf l i) s = true := fun h => by
                unfold frontIn
                rw [List.any_eq_true]
                exact ⟨k, List.mem_range.2 hks, h⟩
              clear hall hbd a0
              by_cases h47 : s[k].toNat = 47
              · have e1 : ((s[k].toNat : Int) == 47) = true := by rw [h47]; rfl
                obtain ⟨hit, hhit⟩ : ∃ x, x = decide ((s.extract 0 k).data.toList ∈ seenOf l i) := ⟨_, rfl⟩
                rw [← hhit] at hlook hfr
                have HL := Aside0.mk hlook
                have HQ := Aside0.mk (And.intro hbt (And.intro hhit hfr))
                clear hlook hbt hhit hfr
                cases hit with
                | true =>
                  have hp : pathsM l = false := by rw [HG.out, HQ.out.2.2 (by rw [HQ.out.1, e1]; rfl)]; simp
                  have HP := Aside0.mk hp
                  clear hp
                  refine start_ (n := 14) (S := fun w' => Below wd.heap.size wd w') (ds := []) #[false, false, false, false, false, false, false, false, false, false, false, false, false, false] (by kernel_rfl) rfl (by kernel_rfl) (by rw [← hwd]; exact Below.refl _ _) (fun hHeld => ?_)
                  rw [← hwd] at hHeld ⊢
                  clear hwd
                  refine pure_ (i := 0) (N := some 40) (v := ?_) (a' := ?_) #[true, false, false, false, false, false, false, false, false, false, false, false, false, false] rfl rfl (by kernel_rfl) (fun _ _ _ h => h) (Or.inl ⟨by rfl, ?_⟩) ?_ ?_
                  rotate_left
                  · intro w'
                    go_simp
                    with_reducible rfl
                  rotate_left
                  · simp only [Act.put, List.setIfInBounds_toArray, List.set_cons_zero, List.set_cons_succ, i64_w, i32_w]
                    rfl
                  refine take_ (i := 1) (N := some 41) (v := ?_) (a' := ?_) #[true, true, false, false, false, false, false, false, false, false, false, false, false, false] rfl rfl (by kernel_rfl) (fun _ _ _ h => h) (Or.inl ⟨by rfl, ?_⟩) hHeld ?_ ?_
                  rotate_left
                  · rintro w' s0
                    have b0 := HA.out w' s0
                    go_simp
                    with_reducible rfl
                  rotate_left
                  · simp only [Act.put, List.setIfInBounds_toArray, List.set_cons_zero, List.set_cons_succ, i64_w, i32_w]
                    rfl
                  refine pure_ (i := 2) (N := some 42) (v := ?_) (a' := ?_) #[true, true, true, false, false, false, false, false, false, false, false, false, false, false] rfl rfl (by kernel_rfl) (fun _ _ _ h => h) (Or.inl ⟨by rfl, ?_⟩) ?_ ?_
                  rotate_left
                  · intro w'
                    go_simp
                    with_reducible rfl
                  rotate_left
                  · simp only [Act.put, List.setIfInBounds_toArray, List.set_cons_zero, List.set_cons_succ, i64_w, i32_w]
                    rfl
                  refine pure_ (i := 3) (N := some 43) (v := ?_) (a' := ?_) #[true, true, true, true, false, false, false, false, false, false, false, false, false, false] rfl rfl (by kernel_rfl) (fun _ _ _ h => h) (Or.inl ⟨by rfl, ?_⟩) ?_ ?_
                  rotate_left
                  · intro w'
                    go_simp
                    with_reducible rfl
                  rotate_left
                  · simp only [Act.put, List.setIfInBounds_toArray, List.set_cons_zero, List.set_cons_succ, i64_w, i32_w]
                    rfl
                  refine pure_ (i := 4) (N := some 44) (v := ?_) (a' := ?_) #[true, true, true, true, true, false, false, false, false, false, false, false, false, false] rfl rfl (by kernel_rfl) (fun _ _ _ h => h) (Or.inl ⟨by rfl, ?_⟩) ?_ ?_
                  rotate_left
                  · intro w'
                    go_simp
                    with_reducible rfl
                  rotate_left
                  · simp only [Act.put, List.setIfInBounds_toArray, List.set_cons_zero, List.set_cons_succ, i64_w, i32_w]
                    rfl
                  refine pure_ (i := 5) (N := some 45) (v := ?_) (a' := ?_) #[true, true, true, true, true, true, false, false, false, false, false, false, false, false] rfl rfl (by kernel_rfl) (fun _ _ _ h => h) (Or.inl ⟨by rfl, ?_⟩) ?_ ?_
                  rotate_left
                  · intro w'
                    go_simp
                    with_reducible rfl
                  rotate_left
                  · simp only [Act.put, List.setIfInBounds_toArray, List.set_cons_zero, List.set_cons_succ, i64_w, i32_w]
                    rfl
                  refine pure_ (i := 6) (N := some 46) (v := ?_) (a' := ?_) #[true, true, true, true, true, true, true, false, false, false, false, false, false, false] rfl rfl (by kernel_rfl) (fun _ _ _ h => h) (Or.inl ⟨by rfl, ?_⟩) ?_ ?_
                  rotate_left
                  · intro w'
                    go_simp
                    with_reducible rfl
                  rotate_left
                  · simp only [Act.put, List.setIfInBounds_toArray, List.set_cons_zero, List.set_cons_succ, i64_w, i32_w]
                    rfl
                  refine pure_ (i := 7) (N := some 47) (v := ?_) (a' := ?_) #[true, true, true, true, true, true, true, true, false, false, false, false, false, false] rfl rfl (by kernel_rfl) (fun _ _ _ h => h) (Or.inl ⟨by rfl, ?_⟩) ?_ ?_
                  rotate_left
                  · intro w'
                    go_simp
                    with_reducible rfl
                  rotate_left
                  · simp only [Act.put, List.setIfInBounds_toArray, List.set_cons_zero, List.set_cons_succ, i64_w, i32_w]
                    rfl
                  refine pure_ (i := 8) (N := some 48) (v := ?_) (a' := ?_) #[true, true, true, true, true, true, true, true, true, false, false, false, false, false] rfl rfl (by kernel_rfl) (fun _ _ _ h => h) (Or.inl ⟨by rfl, ?_⟩) ?_ ?_
                  rotate_left
                  · intro w'
                    go_simp
                    with_reducible rfl
                  rotate_left
                  · simp only [Act.put, List.setIfInBounds_toArray, List.set_cons_zero, List.set_cons_succ, i64_w, i32_w]
                    rfl
                  refine take_ (i := 9) (N := some 49) (v := ?_) (a' := ?_) #[true, true, true, true, true, true, true, true, true, true, false, false, false, false] rfl rfl (by kernel_rfl) (fun _ _ _ h => h) (Or.inl ⟨by rfl, ?_⟩) hHeld ?_ ?_
                  rotate_left
                  · rintro w' s0
                    have b0 := HA.out w' s0
                    go_simp
                    with_reducible rfl
                  rotate_left
                  · simp only [Act.put, List.setIfInBounds_toArray, List.set_cons_zero, List.set_cons_succ, i64_w, i32_w]
                    rfl
                  refine pure_ (i := 10) (N := some 50) (v := ?_) (a' := ?_) #[true, true, true, true, true, true, true, true, true, true, true, false, false, false] rfl rfl (by kernel_rfl) (fun _ _ _ h => h) (Or.inl ⟨by rfl, ?_⟩) ?_ ?_
                  rotate_left
                  · intro w'
                    go_simp
                    with_reducible rfl
                  rotate_left
                  · simp only [Act.put, List.setIfInBounds_toArray, List.set_cons_zero, List.set_cons_succ, i64_w, i32_w]
                    rfl
                  refine pure_ (i := 11) (N := some 51) (v := ?_) (a' := ?_) #[true, true, true, true, true, true, true, true, true, true, true, true, false, false] rfl rfl (by kernel_rfl) (fun _ _ _ h => h) (Or.inl ⟨by rfl, ?_⟩) ?_ ?_
                  rotate_left
                  · intro w'
                    go_simp
                    with_reducible rfl
                  rotate_left
                  · simp only [Act.put, List.setIfInBounds_toArray, List.set_cons_zero, List.set_cons_succ, i64_w, i32_w]
                    rfl
                  refine take_ (i := 12) (N := some 52) (v := ?_) (a' := ?_) #[true, true, true, true, true, true, true, true, true, true, true, true, true, false] rfl rfl (by kernel_rfl) (fun _ _ _ h => h) (Or.inl ⟨by rfl, ?_⟩) hHeld ?_ ?_
                  rotate_left
                  · rintro w' s0
                    have b1 := HL.out w' s0
                    go_simp
                    with_reducible rfl
                  rotate_left
                  · simp only [Act.put, List.setIfInBounds_toArray, List.set_cons_zero, List.set_cons_succ, i64_w, i32_w]
                    rfl
                  refine pure_ (i := 13) (N := some 53) (v := ?_) (a' := ?_) #[true, true, true, true, true, true, true, true, true, true, true, true, true, true] rfl rfl (by kernel_rfl) (fun _ _ _ h => h) (Or.inl ⟨by rfl, ?_⟩) ?_ ?_
                  rotate_left
                  · intro w'
                    go_simp
                    with_reducible rfl
                  rotate_left
                  · simp only [Act.put, List.setIfInBounds_toArray, List.set_cons_zero, List.set_cons_succ, i64_w, i32_w]
                    rfl
                  refine done_ (by kernel_rfl) ?_
                  go_wp2
                  go_ret
                  exact ⟨by first | (rw [HP.out]; done) | (rw [HP.out]; rfl), HFin.out.out.2.2⟩
                | false =>
                  have HH := Aside0.mk (show (bt s k == 47 && decide ((s.extract 0 k).data.toList ∈ seenOf l i)) = false by rw [← HQ.out.2.1]; simp)
                  refine start_ (n := 14) (S := fun w' => Below wd.heap.size wd w') (ds := []) #[false, false, false, false, false, false, false, false, false, false, false, false, false, false] (by kernel_rfl) rfl (by kernel_rfl) (by rw [← hwd]; exact Below.refl _ _) (fun hHeld => ?_)
                  rw [← hwd] at hHeld ⊢
                  clear hwd
                  refine pure_ (i := 0) (N := some 40) (v := ?_) (a' := ?_) #[true, false, false, false, false, false, false, false, false, false, false, false, false, false] rfl rfl (by kernel_rfl) (fun _ _ _ h => h) (Or.inl ⟨by rfl, ?_⟩) ?_ ?_
                  rotate_left
                  · intro w'
                    go_simp
                    with_reducible rfl
                  rotate_left
                  · simp only [Act.put, List.setIfInBounds_toArray, List.set_cons_zero, List.set_cons_succ, i64_w, i32_w]
                    rfl
                  refine take_ (i := 1) (N := some 41) (v := ?_) (a' := ?_) #[true, true, false, false, false, false, false, false, false, false, false, false, false, false] rfl rfl (by kernel_rfl) (fun _ _ _ h => h) (Or.inl ⟨by rfl, ?_⟩) hHeld ?_ ?_
                  rotate_left
                  · rintro w' s0
                    have b0 := HA.out w' s0
                    go_simp
                    with_reducible rfl
                  rotate_left
                  · simp only [Act.put, List.setIfInBounds_toArray, List.set_cons_zero, List.set_cons_succ, i64_w, i32_w]
                    rfl
                  refine pure_ (i := 2) (N := some 42) (v := ?_) (a' := ?_) #[true, true, true, false, false, false, false, false, false, false, false, false, false, false] rfl rfl (by kernel_rfl) (fun _ _ _ h => h) (Or.inl ⟨by rfl, ?_⟩) ?_ ?_
                  rotate_left
                  · intro w'
                    go_simp
                    with_reducible rfl
                  rotate_left
                  · simp only [Act.put, List.setIfInBounds_toArray, List.set_cons_zero, List.set_cons_succ, i64_w, i32_w]
                    rfl
                  refine pure_ (i := 3) (N := some 43) (v := ?_) (a' := ?_) #[true, true, true, true, false, false, false, false, false, false, false, false, false, false] rfl rfl (by kernel_rfl) (fun _ _ _ h => h) (Or.inl ⟨by rfl, ?_⟩) ?_ ?_
                  rotate_left
                  · intro w'
                    go_simp
                    with_reducible rfl
                  rotate_left
                  · simp only [Act.put, List.setIfInBounds_toArray, List.set_cons_zero, List.set_cons_succ, i64_w, i32_w]
                    rfl
                  refine pure_ (i := 4) (N := some 44) (v := ?_) (a' := ?_) #[true, true, true, true, true, false, false, false, false, false, false, false, false, false] rfl rfl (by kernel_rfl) (fun _ _ _ h => h) (Or.inl ⟨by rfl, ?_⟩) ?_ ?_
                  rotate_left
                  · intro w'
                    go_simp
                    with_reducible rfl
                  rotate_left
                  · simp only [Act.put, List.setIfInBounds_toArray, List.set_cons_zero, List.set_cons_succ, i64_w, i32_w]
                    rfl
                  refine pure_ (i := 5) (N := some 45) (v := ?_) (a' := ?_) #[true, true, true, true, true, true, false, false, false, false, false, false, false, false] rfl rfl (by kernel_rfl) (fun _ _ _ h => h) (Or.inl ⟨by rfl, ?_⟩) ?_ ?_
                  rotate_left
                  · intro w'
                    go_simp
                    with_reducible rfl
                  rotate_left
                  · simp only [Act.put, List.setIfInBounds_toArray, List.set_cons_zero, List.set_cons_succ, i64_w, i32_w]
                    rfl
                  refine pure_ (i := 6) (N := some 46) (v := ?_) (a' := ?_) #[true, true, true, true, true, true, true, false, false, false, false, false, false, false] rfl rfl (by kernel_rfl) (fun _ _ _ h => h) (Or.inl ⟨by rfl, ?_⟩) ?_ ?_
                  rotate_left
                  · intro w'
                    go_simp
                    with_reducible rfl
                  rotate_left
                  · simp only [Act.put, List.setIfInBounds_toArray, List.set_cons_zero, List.set_cons_succ, i64_w, i32_w]
                    rfl
                  refine pure_ (i := 7) (N := some 47) (v := ?_) (a' := ?_) #[true, true, true, true, true, true, true, true, false, false, false, false, false, false] rfl rfl (by kernel_rfl) (fun _ _ _ h => h) (Or.inl ⟨by rfl, ?_⟩) ?_ ?_
                  rotate_left
                  · intro w'
                    go_simp
                    with_reducible rfl
                  rotate_left
                  · simp only [Act.put, List.setIfInBounds_toArray, List.set_cons_zero, List.set_cons_succ, i64_w, i32_w]
                    rfl
                  refine pure_ (i := 8) (N := some 48) (v := ?_) (a' := ?_) #[true, true, true, true, true, true, true, true, true, false, false, false, false, false] rfl rfl (by kernel_rfl) (fun _ _ _ h => h) (Or.inl ⟨by rfl, ?_⟩) ?_ ?_
                  rotate_left
                  · intro w'
                    go_simp
                    with_reducible rfl
                  rotate_left
                  · simp only [Act.put, List.setIfInBounds_toArray, List.set_cons_zero, List.set_cons_succ, i64_w, i32_w]
                    rfl
                  refine take_ (i := 9) (N := some 49) (v := ?_) (a' := ?_) #[true, true, true, true, true, true, true, true, true, true, false, false, false, false] rfl rfl (by kernel_rfl) (fun _ _ _ h => h) (Or.inl ⟨by rfl, ?_⟩) hHeld ?_ ?_
                  rotate_left
                  · rintro w' s0
                    have b0 := HA.out w' s0
                    go_simp
                    with_reducible rfl
                  rotate_left
                  · simp only [Act.put, List.setIfInBounds_toArray, List.set_cons_zero, List.set_cons_succ, i64_w, i32_w]
                    rfl
                  refine pure_ (i := 10) (N := some 50) (v := ?_) (a' := ?_) #[true, true, true, true, true, true, true, true, true, true, true, false, false, false] rfl rfl (by kernel_rfl) (fun _ _ _ h => h) (Or.inl ⟨by rfl, ?_⟩) ?_ ?_
                  rotate_left
                  · intro w'
                    go_simp
                    with_reducible rfl
                  rotate_left
                  · simp only [Act.put, List.setIfInBounds_toArray, List.set_cons_zero, List.set_cons_succ, i64_w, i32_w]
                    rfl
                  refine pure_ (i := 11) (N := some 51) (v := ?_) (a' := ?_) #[true, true, true, true, true, true, true, true, true, true, true, true, false, false] rfl rfl (by kernel_rfl) (fun _ _ _ h => h) (Or.inl ⟨by rfl, ?_⟩) ?_ ?_
                  rotate_left
                  · intro w'
                    go_simp
                    with_reducible rfl
                  rotate_left
                  · simp only [Act.put, List.setIfInBounds_toArray, List.set_cons_zero, List.set_cons_succ, i64_w, i32_w]
                    rfl
                  refine take_ (i := 12) (N := some 52) (v := ?_) (a' := ?_) #[true, true, true, true, true, true, true, true, true, true, true, true, true, false] rfl rfl (by kernel_rfl) (fun _ _ _ h => h) (Or.inl ⟨by rfl, ?_⟩) hHeld ?_ ?_
                  rotate_left
                  · rintro w' s0
                    have b1 := HL.out w' s0
                    go_simp
                    with_reducible rfl
                  rotate_left
                  · simp only [Act.put, List.setIfInBounds_toArray, List.set_cons_zero, List.set_cons_succ, i64_w, i32_w]
                    rfl
                  refine pure_ (i := 13) (N := some 53) (v := ?_) (a' := ?_) #[true, true, true, true, true, true, true, true, true, true, true, true, true, true] rfl rfl (by kernel_rfl) (fun _ _ _ h => h) (Or.inl ⟨by rfl, ?_⟩) ?_ ?_
                  rotate_left
                  · intro w'
                    go_simp
                    with_reducible rfl
                  rotate_left
                  · simp only [Act.put, List.setIfInBounds_toArray, List.set_cons_zero, List.set_cons_succ, i64_w, i32_w]
                    rfl
                  refine done_ (by kernel_rfl) ?_
                  go_wp2
                  go_roundg (s.size - (k + 1))
                  case measure => omega
                  case rel => exact ⟨k + 1, by go_num, by omega, ⟨fun j hj => by
                      by_cases h : j < k
                      · exact HN.out j h
                      · obtain rfl : j = k := by omega
                        exact HH.out⟩, HFin.out⟩
              · have e1 : ((s[k].toNat : Int) == 47) = false := by rw [beq_eq_false_iff_ne]; omega
                have e1c : ((s[k].toNat : Int) == (((⟨#[47]⟩ : ByteArray)[0]'(by decide)).toNat : Int)) = false := e1
                have e1n : (s[k].toNat == 47) = false := by rw [beq_eq_false_iff_ne]; omega
                have e1d : decide ((s[k].toNat : Int) = 47) = false := decide_eq_false (by omega)
                have HH := Aside0.mk (show (bt s k == 47 && decide ((s.extract 0 k).data.toList ∈ seenOf l i)) = false by rw [hbt, e1]; rfl)
                clear hlook hbt hfr
                refine start_ (n := 14) (S := fun w' => Below wd.heap.size wd w') (ds := []) #[false, false, false, false, false, false, false, false, false, false, false, false, false, false] (by kernel_rfl) rfl (by kernel_rfl) (by rw [← hwd]; exact Below.refl _ _) (fun hHeld => ?_)
                rw [← hwd] at hHeld ⊢
                clear hwd
                refine pure_ (i := 0) (N := some 40) (v := ?_) (a' := ?_) #[true, false, false, false, false, false, false, false, false, false, false, false, false, false] rfl rfl (by kernel_rfl) (fun _ _ _ h => h) (Or.inl ⟨by rfl, ?_⟩) ?_ ?_
                rotate_left
                · intro w'
                  go_simp
                  with_reducible rfl
                rotate_left
                · simp only [Act.put, List.setIfInBounds_toArray, List.set_cons_zero, List.set_cons_succ, i64_w, i32_w]
                  rfl
                refine take_ (i := 1) (N := some 41) (v := ?_) (a' := ?_) #[true, true, false, false, false, false, false, false, false, false, false, false, false, false] rfl rfl (by kernel_rfl) (fun _ _ _ h => h) (Or.inl ⟨by rfl, ?_⟩) hHeld ?_ ?_
                rotate_left
                · rintro w' s0
                  have b0 := HA.out w' s0
                  go_simp
                  with_reducible rfl
                rotate_left
                · simp only [Act.put, List.setIfInBounds_toArray, List.set_cons_zero, List.set_cons_succ, i64_w, i32_w]
                  rfl
                refine pure_ (i := 2) (N := some 42) (v := ?_) (a' := ?_) #[true, true, true, false, false, false, false, false, false, false, false, false, false, false] rfl rfl (by kernel_rfl) (fun _ _ _ h => h) (Or.inl ⟨by rfl, ?_⟩) ?_ ?_
                rotate_left
                · intro w'
                  go_simp
                  with_reducible rfl
                rotate_left
                · simp only [Act.put, List.setIfInBounds_toArray, List.set_cons_zero, List.set_cons_succ, i64_w, i32_w]
                  rfl
                refine pure_ (i := 3) (N := some 43) (v := ?_) (a' := ?_) #[true, true, true, true, false, false, false, false, false, false, false, false, false, false] rfl rfl (by kernel_rfl) (fun _ _ _ h => h) (Or.inl ⟨by rfl, ?_⟩) ?_ ?_
                rotate_left
                · intro w'
                  go_simp
                  with_reducible rfl
                rotate_left
                · simp only [Act.put, List.setIfInBounds_toArray, List.set_cons_zero, List.set_cons_succ, i64_w, i32_w]
                  rfl
                refine pure_ (i := 4) (N := some 44) (v := ?_) (a' := ?_) #[true, true, true, true, true, false, false, false, false, false, false, false, false, false] rfl rfl (by kernel_rfl) (fun _ _ _ h => h) (Or.inl ⟨by rfl, ?_⟩) ?_ ?_
                rotate_left
                · intro w'
                  go_simp
                  with_reducible rfl
                rotate_left
                · simp only [Act.put, List.setIfInBounds_toArray, List.set_cons_zero, List.set_cons_succ, i64_w, i32_w]
                  rfl
                refine pure_ (i := 5) (N := some 45) (v := ?_) (a' := ?_) #[true, true, true, true, true, true, false, false, false, false, false, false, false, false] rfl rfl (by kernel_rfl) (fun _ _ _ h => h) (Or.inl ⟨by rfl, ?_⟩) ?_ ?_
                rotate_left
                · intro w'
                  go_simp
                  with_reducible rfl
                rotate_left
                · simp only [Act.put, List.setIfInBounds_toArray, List.set_cons_zero, List.set_cons_succ, i64_w, i32_w]
                  rfl
                refine pure_ (i := 6) (N := some 46) (v := ?_) (a' := ?_) #[true, true, true, true, true, true, true, false, false, false, false, false, false, false] rfl rfl (by kernel_rfl) (fun _ _ _ h => h) (Or.inl ⟨by rfl, ?_⟩) ?_ ?_
                rotate_left
                · intro w'
                  go_simp
                  with_reducible rfl
                rotate_left
                · simp only [Act.put, List.setIfInBounds_toArray, List.set_cons_zero, List.set_cons_succ, i64_w, i32_w]
                  rfl
                refine pure_ (i := 7) (N := some 47) (v := undef) (a' := ?_) #[true, true, true, true, true, true, true, true, false, false, false, false, false, false] rfl rfl (by kernel_rfl) (fun _ _ _ h => h) (Or.inr ⟨by rfl, rfl⟩) ?_ ?_
                rotate_left
                · simp only [Act.put, List.setIfInBounds_toArray, List.set_cons_zero, List.set_cons_succ, i64_w, i32_w]
                  rfl
                refine pure_ (i := 8) (N := some 48) (v := undef) (a' := ?_) #[true, true, true, true, true, true, true, true, true, false, false, false, false, false] rfl rfl (by kernel_rfl) (fun _ _ _ h => h) (Or.inr ⟨by rfl, rfl⟩) ?_ ?_
                rotate_left
                · simp only [Act.put, List.setIfInBounds_toArray, List.set_cons_zero, List.set_cons_succ, i64_w, i32_w]
                  rfl
                refine pure_ (i := 9) (N := some 49) (v := undef) (a' := ?_) #[true, true, true, true, true, true, true, true, true, true, false, false, false, false] rfl rfl (by kernel_rfl) (fun _ _ _ h => h) (Or.inr ⟨by rfl, rfl⟩) ?_ ?_
                rotate_left
                · simp only [Act.put, List.setIfInBounds_toArray, List.set_cons_zero, List.set_cons_succ, i64_w, i32_w]
                  rfl
                refine pure_ (i := 10) (N := some 50) (v := undef) (a' := ?_) #[true, true, true, true, true, true, true, true, true, true, true, false, false, false] rfl rfl (by kernel_rfl) (fun _ _ _ h => h) (Or.inr ⟨by rfl, rfl⟩) ?_ ?_
                rotate_left
                · simp only [Act.put, List.setIfInBounds_toArray, List.set_cons_zero, List.set_cons_succ, i64_w, i32_w]
                  rfl
                refine pure_ (i := 11) (N := some 51) (v := undef) (a' := ?_) #[true, true, true, true, true, true, true, true, true, true, true, true, false, false] rfl rfl (by kernel_rfl) (fun _ _ _ h => h) (Or.inr ⟨by rfl, rfl⟩) ?_ ?_
                rotate_left
                · simp only [Act.put, List.setIfInBounds_toArray, List.set_cons_zero, List.set_cons_succ, i64_w, i32_w]
                  rfl
                refine pure_ (i := 12) (N := some 52) (v := undef) (a' := ?_) #[true, true, true, true, true, true, true, true, true, true, true, true, true, false] rfl rfl (by kernel_rfl) (fun _ _ _ h => h) (Or.inr ⟨by rfl, rfl⟩) ?_ ?_
                rotate_left
                · simp only [Act.put, List.setIfInBounds_toArray, List.set_cons_zero, List.set_cons_succ, i64_w, i32_w]
                  rfl
                refine pure_ (i := 13) (N := some 53) (v := ?_) (a' := ?_) #[true, true, true, true, true, true, true, true, true, true, true, true, true, true] rfl rfl (by kernel_rfl) (fun _ _ _ h => h) (Or.inl ⟨by rfl, ?_⟩) ?_ ?_
                rotate_left
                · intro w'
                  go_simp
                  with_reducible rfl
                rotate_left
                · simp only [Act.put, List.setIfInBounds_toArray, List.set_cons_zero, List.set_cons_succ, i64_w, i32_w]
                  rfl
                refine done_ (by kernel_rfl) ?_
                go_wp2
                go_roundg (s.size - (k + 1))
                case measure => omega
                case rel => exact ⟨k + 1, by go_num, by omega, ⟨fun j hj => by
                    by_cases h : j < k
                    · exact HN.out j h
                    · obtain rfl : j = k := by omega
                      exact HH.out⟩, HFin.out⟩
            · have d3 : decide ((k : Int) < (s.size : Int)) = false := decide_eq_false (by omega)
              have d3n : decide (k < s.size) = false := decide_eq_false hks
              have hfi : frontIn (seenOf l i) s = false := by
                unfold frontIn
                rw [List.any_eq_false]
                intro j hj
                have h := HN.out j (by have := List.mem_range.1 hj; omega)
                rw [h]
                decide
              obtain ⟨w9, hr9, hs9, hg9⟩ := HK.out.2.1.put (s := s) (by unfold maxLen; omega) (by unfold maxLen; omega)
              have H9 := Aside0.mk (show Seen w9 w.heap.size (i + 1) (seenOf l (i + 1)) ∧ Below w.heap.size w w9 ∧ pathsM l = pathsGo (prevOf l (i + 1)) (seenOf l (i + 1)) (l.drop (i + 1)) from
                ⟨by rw [seenOf_succ HF.out.2.1, ← HF.out.1]; exact hs9, HK.out.2.2.grown hg9 HK.out.2.2.size (fun k e => by cases e; exact Nat.le_refl _), by rw [HG.out, HB.out, hfi]; rfl⟩)
              clear hs9 hg9 hfi
              go_wp2
              go_roundg (m - (i + 1))
              case measure => omega
              case rel => exact ⟨i + 1, by go_num, by omega, H9⟩
    · have d1 : decide ((i : Int) < (m : Int)) = false := decide_eq_false (by omega)
      obtain rfl : i = m := by omega
      have hp : pathsM l = true := by
        rw [hI.out.2.2, List.drop_of_length_le (by have := HX.out.2; omega)]
        rw [pathsGo_nil]
      have HP := Aside0.mk hp
      clear hp
      go_wp2
      go_ret
      exact ⟨by first | (rw [HP.out]; done) | (rw [HP.out]; rfl), hI.out.2.1⟩
end
end Go.Proofs.YtgjdcdhfijkoiaaDoor.Str
end
section
namespace Go.Proofs.YtgjdcdhfijkoiaaDoor.Str
open Go.RowKit Go.Proofs.YtgjdcdhfijkoiaaDoorW.PrintWords Go.Proofs.YtgjdcdhfijkoiaaDoorW.PrintLast Go.Proofs.YtgjdcdhfijkoiaaDoorW.PrintMore Go.Proofs.YtgjdcdhfijkoiaaDoor.Mem Go.Proofs.YtgjdcdhfijkoiaaDoor.PCod
set_option linter.unusedVariables false
set_option linter.unusedSimpArgs false
def bigF (f : FS) : Bool := decide (1048576 < f.f1.length)
def sumF (l : List FS) : Nat := (l.map (fun f => f.f1.length)).sum
def checkM (l : List FS) : Int := if pathsM l = false then 1 else if l.any bigF = true then 13 else if 16777216 < sumF l ∨ 65536 < l.length then 13 else 0
theorem take_getD {l : List FS} {i : Nat} (h : i < l.length) : l.take (i + 1) = l.take i ++ [l.getD i z50] := by
  rw [List.take_add_one, List.getD_eq_getElem?_getD, List.getElem?_eq_getElem h]
  rfl
theorem sumF_succ {l : List FS} {i : Nat} (h : i < l.length) : sumF (l.take (i + 1)) = sumF (l.take i) + (l.getD i z50).f1.length := by
  unfold sumF
  rw [take_getD h]
  simp
theorem sumF_le {l : List FS} (h : l.any bigF = false) : sumF l ≤ l.length * 1048576 := by
  unfold sumF
  induction l with
  | nil => simp
  | cons f r ih =>
    rw [List.any_cons, Bool.or_eq_false_iff] at h
    have h1 := ih h.2
    have h2 := h.1
    unfold bigF at h2
    rw [decide_eq_false_iff_not] at h2
    simp only [List.map_cons, List.sum_cons, List.length_cons]
    omega
section
variable {w : World}
set_option maxRecDepth 100000 in
set_option maxHeartbeats 4000000 in
theorem check_calls {l : List FS} {A : Option Addr} {c : Nat} (hr : Kd.C k50 w A l.length l) (hl : l.length ≤ 100000) :
    Calls Tryd.prog 20 #[.slice A l.length c] w fun e w' => e = .returned (.int .i64 (checkM l)) ∧ Below w.heap.size w w' := by
  have hp := paths_calls (c := c) hr hl
  obtain ⟨m, hm⟩ : ∃ m, m = l.length := ⟨_, rfl⟩
  have HX := Aside0.mk (And.intro hr hm)
  rw [← hm] at hl hp ⊢
  have HP := Aside0.mk hp
  clear hr hm hp
  cases hpm : pathsM l
  · have hc : checkM l = 1 := by unfold checkM; rw [if_pos hpm]
    rw [hpm] at HP
    have HC := Aside0.mk hc
    clear hc
    go_enter Tryd.func20, Tryd.ntmps20
    go_wp2_with (go_at_call 47; go_loud (refine HP.out.mono ?_; rintro e w1 ⟨rfl, hb1⟩; have H1 := Aside0.mk hb1; clear hb1))
    go_ret
    exact ⟨by first | (rw [HC.out]; done) | (rw [HC.out]; rfl), H1.out⟩
  · rw [hpm] at HP
    have HM := Aside0.mk hpm
    clear hpm
    go_enter Tryd.func20, Tryd.ntmps20
    go_wp2_with (go_at_call 47; go_loud (refine HP.out.mono ?_; rintro e w1 ⟨rfl, hb1⟩; have H1 := Aside0.mk hb1; clear hb1))
    go_loopg [3, 11] m (fun q v3 v11 wr => ∃ i : Nat, v11 = .int .i64 i ∧ v3 = .int .i64 (sumF (l.take i) : Nat) ∧ q + i = m ∧ Aside0 ((l.take i).any bigF = false ∧ Below w.heap.size w wr))
    case atStart => exact ⟨0, rfl, rfl, by omega, ⟨rfl, H1.out⟩⟩
    case round =>
      clear H1
      obtain ⟨i, rfl, rfl, hq, hI⟩ := hrel
      by_cases hlt : i < m
      · have d1 : decide ((i : Int) < (m : Int)) = true := decide_eq_true (by omega)
        have hil : i < l.length := by rw [← HX.out.2]; exact hlt
        obtain ⟨ad, B, bc, rfl, c0, c1, hbc, hbC⟩ := at_T50 HX.out.1 (i : Int) (by omega) (by omega)
        obtain ⟨f, hf⟩ : ∃ f, f = l.getD i z50 := ⟨_, rfl⟩
        rw [show rd_T50 l (i : Int) = f by rw [hf]; rfl, Int.toNat_natCast] at c0 c1
        rw [show rd_T50 l (i : Int) = f by rw [hf]; rfl] at hbc hbC
        obtain ⟨s, b⟩ := f
        dsimp only at c0 c1 hbc hbC
        obtain ⟨bl, hbl⟩ : ∃ k, k = b.length := ⟨_, rfl⟩
        rw [← hbl] at c1
        replace c0 := (hI.out.2.cell (World.block_lt_of_cell? w _ c0)).trans c0
        replace c1 := (hI.out.2.cell (World.block_lt_of_cell? w _ c1)).trans c1
        obtain ⟨sm, hsm⟩ : ∃ x, x = sumF (l.take i) := ⟨_, rfl⟩
        have hsm2 : sm ≤ 104857600000 := by
          have h := sumF_le hI.out.1
          have h2 : (l.take i).length ≤ 100000 := by rw [List.length_take]; omega
          rw [hsm]
          exact Nat.le_trans h (Nat.le_trans (Nat.mul_le_mul_right _ h2) (by decide))
        have hss := sumF_succ hil
        rw [← hf, ← hsm] at hss
        have HF := Aside0.mk (And.intro hf (And.intro hil (And.intro hbl (And.intro hsm hss))))
        rw [← hsm]
        clear hf hil hbl hbc hbC hsm hss
        by_cases hbig : 1048576 < bl
        · have d2 : decide ((bl : Int) > 1048576) = true := decide_eq_true (by omega)
          have hc : checkM l = 13 := by
            unfold checkM
            rw [if_neg (by rw [HM.out]; decide), if_pos]
            rw [List.any_eq_true]
            exact ⟨⟨s, b⟩, by rw [HF.out.1, List.getD_eq_getElem?_getD, List.getElem?_eq_getElem HF.out.2.1]; exact List.getElem_mem _, by unfold bigF; exact decide_eq_true (by show 1048576 < b.length; rw [← HF.out.2.2.1]; exact hbig)⟩
          have HC := Aside0.mk hc
          clear hc
          go_wp2_with (first
            | ((with_reducible refine gate_dst (N := 5) rfl ?_); refine file_new ?hg ?hr ?_; (case hg => rfl); (case hr => first | kernel_rfl | (go_simp; done) | (go_simp; rfl)); go_loud (intro w6 hx6 hb6 hs6; have H6 := Aside0.mk (And.intro hx6 hb6); clear hx6 hb6 hs6))
            | ((with_reducible refine gate_store (ty := 50) (x := .tmp 5) (y := .tmp 14) rfl ?_); refine file_put (s := s) (B := B) (bl := bl) (bc := bc) rfl (.tmp 5) (.tmp 14) rfl rfl rfl H6.out.1 ?_; go_loud (intro w7 hx7 hk7 hb7 hs7; have a1 : w7.cell? ⟨wr.heap.size, 1, none⟩ = some (.slice B bl bc) := (blk_cell hx7 1).trans rfl; have H7 := Aside0.mk (hb7 _ _ (Nat.le_refl _) H6.out.2); clear hx7 hk7 hb7 hs7)))
          go_ret
          exact ⟨by first | (rw [HC.out]; done) | (rw [HC.out]; rfl), below_step hI.out.2 H7.out⟩
        · have d2 : decide ((bl : Int) > 1048576) = false := decide_eq_false (by omega)
          have hw : wrap64 ((sm : Int) + (bl : Int)) = ((sm + bl : Nat) : Int) := (IntWalk.wrap64_in _ ⟨by omega, by omega⟩).trans (by omega)
          go_wp2_with (first
            | ((with_reducible refine gate_dst (N := 5) rfl ?_); refine file_new ?hg ?hr ?_; (case hg => rfl); (case hr => first | kernel_rfl | (go_simp; done) | (go_simp; rfl)); go_loud (intro w6 hx6 hb6 hs6; have H6 := Aside0.mk (And.intro hx6 hb6); clear hx6 hb6 hs6))
            | ((with_reducible refine gate_store (ty := 50) (x := .tmp 5) (y := .tmp 14) rfl ?_); refine file_put (s := s) (B := B) (bl := bl) (bc := bc) rfl (.tmp 5) (.tmp 14) rfl rfl rfl H6.out.1 ?_; go_loud (intro w7 hx7 hk7 hb7 hs7; have a1 : w7.cell? ⟨wr.heap.size, 1, none⟩ = some (.slice B bl bc) := (blk_cell hx7 1).trans rfl; have H7 := Aside0.mk (hb7 _ _ (Nat.le_refl _) H6.out.2); clear hx7 hk7 hb7 hs7)))
          go_roundg (m - (i + 1))
          case measure => clear hw; omega
          case rel => exact ⟨i + 1, by clear hw; go_num, by rw [HF.out.2.2.2.2, ← HF.out.2.2.1, Int.natCast_add], by clear hw; omega, ⟨by rw [take_getD HF.out.2.1, List.any_append, hI.out.1, ← HF.out.1]; show (false || (bigF _ || false)) = false; unfold bigF; rw [show (⟨s, b⟩ : FS).f1.length = bl from HF.out.2.2.1.symm, decide_eq_false (by clear hw; omega)]; rfl, below_step hI.out.2 H7.out⟩⟩
      · have d1 : decide ((i : Int) < (m : Int)) = false := decide_eq_false (by omega)
        obtain rfl : i = m := by omega
        have hta : l.take i = l := by rw [List.take_of_length_le (by have := HX.out.2; omega)]
        rw [hta] at hI ⊢
        obtain ⟨sm, hsm⟩ : ∃ x, x = sumF l := ⟨_, rfl⟩
        rw [← hsm]
        have hc : checkM l = if 16777216 < sm ∨ 65536 < i then 13 else 0 := by
          unfold checkM
          rw [if_neg (by rw [HM.out]; decide), if_neg (by rw [hI.out.1]; decide), ← hsm, ← HX.out.2]
        have HC := Aside0.mk hc
        clear hc hsm hta
        by_cases h1 : 16777216 < sm
        · have d2 : decide ((sm : Int) > 16777216) = true := decide_eq_true (by omega)
          go_wp2
          go_ret
          exact ⟨by rw [HC.out, if_pos (.inl h1)]; rfl, hI.out.2⟩
        · have d2 : decide ((sm : Int) > 16777216) = false := decide_eq_false (by omega)
          by_cases h2 : 65536 < i
          · have d3 : decide ((i : Int) > 65536) = true := decide_eq_true (by omega)
            go_wp2
            go_ret
            exact ⟨by rw [HC.out, if_pos (.inr h2)]; rfl, hI.out.2⟩
          · have d3 : decide ((i : Int) > 65536) = false := decide_eq_false (by omega)
            go_wp2
            go_ret
            exact ⟨by rw [HC.out, if_neg (by omega)]; rfl, hI.out.2⟩
end
end Go.Proofs.YtgjdcdhfijkoiaaDoor.Str
end
section
namespace Go.Proofs.YtgjdcdhfijkoiaaDoor.Str
open Go.RowKit Go.Proofs.YtgjdcdhfijkoiaaDoorW.PrintWords Go.Proofs.YtgjdcdhfijkoiaaDoorW.PrintLast Go.Proofs.YtgjdcdhfijkoiaaDoorW.PrintMore Go.Proofs.YtgjdcdhfijkoiaaDoor.Mem Go.Proofs.YtgjdcdhfijkoiaaDoor.PCod Go.Proofs.YtgjdcdhfijkoiaaDoor.Cod
set_option linter.unusedVariables false
set_option linter.unusedSimpArgs false
section
variable {P : Program} {ops : Array Oper} {rest : List Oper} {o : Oper} {a : Act} {Q : Exit → Act → World → Prop}
/-- '[]byte(s)' of a string: a new row. -/
theorem str_event {w0 W : World} {base : Nat} {src dst e : TypeId} {x : Operand} {s : ByteArray} (hgd : o.guard = none) (ho : o.op = .convert src dst x) (hx : a.eval x = .string s) {u : TypeDesc} (hsr : P.underlying src = some u) (hds : P.underlying dst = some (.slice e)) (he : P.underlying e = some (.int .u8)) (hs : s.size ≤ 9223372036854775807) (HB : Below base w0 W) (hbase : base ≤ W.heap.size)
    (h : ∀ (W' : World) (c : Nat), Below base w0 W' → Below W.heap.size W W' → s.size ≤ c → W.heap.size < W'.heap.size → Kd.C (Kd.int .u8) W' (some ⟨W.heap.size, 0, none⟩) s.size (bytesOf s) → (∀ j, j < s.size → W'.frozen? ⟨W.heap.size, j, none⟩ = false) → wpList P ops Q rest (a.put o.dst (.slice (some ⟨W.heap.size, 0, none⟩) s.size c)) W') :
    wpList P ops Q (o :: rest) a W := by
  have hrun := Lib.run_convert_string_bytes (P := P) W src dst e s hsr hds he
  refine Kd.event_run hgd (v := .slice (some ⟨W.heap.size, 0, none⟩) s.size (grownCap W s.size 0 e)) (w1 := Lib.bytesWorld W e s) ?_ (h _ _ (bytes_below HB hbase e s) (bytes_below (Below.refl _ _) (Nat.le_refl _) e s) ?_ (by rw [Lib.bytesWorld_size]; omega) (Kd.C_of_reads (d := (0 : Int)) (h1 := fun _ => rfl) (bytes_reads W e s hs)) ?_)
  · unfold execOp
    simp [ho, hx, hrun]
  · exact grownCap_ge W s.size 0 e
  · intro j hj
    unfold World.frozen?
    rw [Lib.bytesWorld_at_new]
    have : (Lib.bytesCells W e s).size = s.size + (grownCap W s.size 0 e - s.size) := by simp [Lib.bytesCells]
    simp only [Bool.and_eq_false_imp, decide_eq_true_eq]
    intro h1
    simp; omega
end
section
variable {w : World}
theorem wbytes_calls0 {base g : Nat} {F : Nat → Prop} {xs ys : List Int} {w0 : World} (hB : Below w0.heap.size w0 w) (hb0 : w0.heap.size ≤ base) (hd : WrAt w base F g xs) (A : Option Addr) (n c : Nat) (hn : n = ys.length) (hr : ∀ W, Kept w W F → Kd.C (Kd.int .u8) W A ys.length ys) (hl : xs.length + ys.length + 10 < 140737488355328) (hy : Byt ys) :
    Calls Tryd.prog 41 #[.pointer (some ⟨g, 0, none⟩), .slice A n c] w (Wrote w0 w base F g (xs ++ putNum ys.length ++ ys)) := by
  have hw : IntKind.u64.wrap (n : Int) = n := wraps_u64 _ (by omega) (by omega)
  have h1 := Aside0.mk (wuint_calls hB hb0 hd (n : Int) (by omega) (by omega) (by omega))
  have HX := Aside0.mk (And.intro hn (And.intro hr (And.intro hl (And.intro hy hb0))))
  clear hB hb0 hd hn hr hl hy
  go_enter Tryd.func41, Tryd.ntmps41
  go_wp2_with (first | (go_at_call 40; go_loud (refine h1.out.mono ?_; rintro e w1 ⟨rfl, hd1, hb1, hk1⟩; have HX1 := Aside0.mk (And.intro hd1 (And.intro hb1 hk1)); clear hd1 hb1 hk1)) | (go_at_call 60; go_loud (obtain ⟨hn, hr, hl, hy, hb0⟩ := HX.out; refine (wfixed_calls HX1.out.2.1 hb0 HX1.out.1 A n c hn (hr _ HX1.out.2.2) (by rw [List.length_append]; have := (putNum_len (n : Int)).1; omega) hy).mono ?_; rintro e w2 ⟨rfl, hd2, hb2, hk2⟩; have HX2 := Aside0.mk (And.intro hd2 (And.intro hb2 hk2)); clear hd2 hb2 hk2 hn hr hl hy hb0)))
  go_end0
  obtain ⟨h2, h3, h4⟩ := HX2.out
  have hs := HX1.out.2.2.1
  rw [show (n : Int) = (ys.length : Int) by rw [HX.out.1]] at h2
  exact ⟨rfl, h2.mono (Or.twice hs), h3, HX1.out.2.2.then_ h4 (fun k hk => by rcases hk with h | h; exact .inl h; exact .inr h)⟩
end
/-- A writer in block g, whose own lies from base on. -/
structure PS (w0 w : World) (base g : Nat) (xs : List Int) : Prop where
  bl : Below w0.heap.size w0 w
  b0 : w0.heap.size ≤ base
  ex : ∃ F : Nat → Prop, WrAt w base F g xs ∧ ∀ k, F k → base ≤ k ∧ k < w.heap.size
section
variable {w0 w1 w : World} {base g : Nat} {xs ys : List Int}
theorem PS.below (h : PS w0 w1 base g xs) (hb : Below w1.heap.size w1 w) : PS w0 w base g xs := by
  obtain ⟨F, h1, h2⟩ := h.ex
  exact ⟨below_step h.bl hb, h.b0, F, h1.below hb, fun k hk => ⟨(h2 k hk).1, Nat.lt_of_lt_of_le (h2 k hk).2 hb.size⟩⟩
/-- What a call of the writer leaves as it was. -/
def Far (base : Nat) (w1 w w' : World) : Prop := w.heap.size ≤ w'.heap.size ∧ ∀ k, k < w.heap.size → (k < base ∨ w1.heap.size ≤ k) → w'.heap[k]? = w.heap[k]?
theorem PS.uint (h : PS w0 w base g xs) (x : Int) (h0 : 0 ≤ x) (h1 : x < 18446744073709551616) (hl : xs.length + 10 < 140737488355328) :
    Calls Tryd.prog 40 #[.pointer (some ⟨g, 0, none⟩), .int .u64 x] w fun e w' => e = .returned (.tuple #[]) ∧ PS w0 w' base g (xs ++ putNum x) := by
  obtain ⟨F, hF, hF2⟩ := h.ex
  refine (wuint_calls h.bl h.b0 hF x h0 h1 hl).mono ?_
  rintro e w' ⟨rfl, q1, q2, q3⟩
  exact ⟨rfl, q2, h.b0, _, q1.cut, fun k hk => ⟨hk.2.1, hk.2.2⟩⟩
theorem PS.bytes (h : PS w0 w1 base g xs) (hb : Below w1.heap.size w1 w) (A : Option Addr) (n c : Nat) (hn : n = ys.length) (hr : ∀ W, Far base w1 w W → Kd.C (Kd.int .u8) W A ys.length ys) (hl : xs.length + ys.length + 10 < 140737488355328) (hy : Byt ys) :
    Calls Tryd.prog 41 #[.pointer (some ⟨g, 0, none⟩), .slice A n c] w fun e w' => e = .returned (.tuple #[]) ∧ PS w0 w' base g (xs ++ putNum ys.length ++ ys) ∧ Far base w1 w w' := by
  obtain ⟨F, hF, hF2⟩ := h.ex
  have hfar : ∀ W, Kept w W F → Far base w1 w W := fun W hk => ⟨hk.1, fun k hk2 ho => hk.2 k hk2 (fun hf => by have := hF2 k hf; omega)⟩
  refine (wbytes_calls0 (below_step h.bl hb) h.b0 (hF.below hb) A n c hn (fun W hk => hr W (hfar W hk)) hl hy).mono ?_
  rintro e w' ⟨rfl, q1, q2, q3⟩
  exact ⟨rfl, ⟨q2, h.b0, _, q1.cut, fun k hk => ⟨hk.2.1, hk.2.2⟩⟩, hfar _ q3⟩
theorem PS.out (h : PS w0 w base g xs) : Calls Tryd.prog 42 #[.pointer (some ⟨g, 0, none⟩)] w fun e w' => ∃ v, e = .returned v ∧ Kd.R (Kd.int .u8) 5 w' w.heap.size (fun _ => True) v xs ∧ Below w.heap.size w w' := by
  obtain ⟨F, hF, hF2⟩ := h.ex
  exact wout_calls hF
end
theorem ps_new (w0 w : World) (hb : Below w0.heap.size w0 w) : Calls Tryd.prog 39 #[] w fun e w' => e = .returned (.pointer (some ⟨w.heap.size, 0, none⟩)) ∧ PS w0 w' w.heap.size w.heap.size [] := by
  refine newWriter_calls.mono ?_
  rintro e w' ⟨rfl, h1, h2⟩
  exact ⟨rfl, below_step hb h2, hb.size, _, h1, fun k hk => hk⟩
/-! ### a tree's bytes -/
def filB (f : FS) : List Int := putNum f.f0.size ++ bytesOf f.f0 ++ (putNum f.f1.length ++ f.f1)
def putM (l : List FS) : List Int := putNum l.length ++ (l.map filB).flatten
def putI (l : List FS) (i : Nat) : List Int := putNum l.length ++ ((l.take i).map filB).flatten
theorem putI_succ {l : List FS} {i : Nat} (h : i < l.length) : putI l (i + 1) = putI l i ++ filB (l.getD i z50) := by
  unfold putI
  rw [take_getD h, List.map_append, List.flatten_append]
  simp
theorem bytesOf_length (s : ByteArray) : (bytesOf s).length = s.size := by
  unfold bytesOf
  simp
theorem bytesOf_byt (s : ByteArray) : Byt (bytesOf s) := by
  intro x hx
  unfold bytesOf at hx
  obtain ⟨c, _, rfl⟩ := List.mem_map.1 hx
  have := c.toNat_lt
  omega
theorem pathsGo_ok : ∀ (l : List FS) (p : Option ByteArray) (seen : List (List UInt8)), pathsGo p seen l = true → ∀ f ∈ l, pathM f.f0 = true
  | [], _, _, _, f, hf => by cases hf
  | x :: r, p, seen, h, f, hf => by
    rw [pathsGo_cons, Bool.and_eq_true, Bool.and_eq_true, Bool.and_eq_true] at h
    rcases List.mem_cons.1 hf with rfl | hf
    · exact h.1.1.1
    · exact pathsGo_ok r _ _ h.2 f hf
theorem pathM_size {s : ByteArray} (h : pathM s = true) : 1 ≤ s.size ∧ s.size ≤ 255 := by
  unfold pathM at h
  rw [Bool.and_eq_true, Bool.and_eq_true, decide_eq_true_eq] at h
  exact h.1.1
theorem filB_len {f : FS} (h : pathM f.f0 = true) : (filB f).length ≤ 275 + f.f1.length := by
  unfold filB
  have h1 := (putNum_len f.f0.size).1
  have h2 := (putNum_len f.f1.length).1
  have h3 := pathM_size h
  simp only [List.length_append, bytesOf_length]
  omega
theorem check_0 {l : List FS} (h : checkM l = 0) : pathsM l = true ∧ l.any bigF = false ∧ sumF l ≤ 16777216 ∧ l.length ≤ 65536 := by
  unfold checkM at h
  split at h
  · exact absurd h (by decide)
  split at h
  · exact absurd h (by decide)
  split at h
  · exact absurd h (by decide)
  · rename_i h1 h2 h3
    refine ⟨by simpa using h1, by simpa using h2, by omega, by omega⟩
theorem putI_len {l : List FS} (h : ∀ f ∈ l, pathM f.f0 = true) : ∀ i, i ≤ l.length → (putI l i).length ≤ 10 + 275 * i + sumF (l.take i)
  | 0, _ => by
    unfold putI
    have := (putNum_len l.length).1
    simp
    omega
  | i + 1, hi => by
    have hl : i < l.length := by omega
    have h1 := putI_len h i (by omega)
    rw [putI_succ hl, sumF_succ hl, List.length_append]
    have h2 := filB_len (h (l.getD i z50) (by rw [List.getD_eq_getElem?_getD, List.getElem?_eq_getElem hl]; exact List.getElem_mem _))
    omega
theorem sumF_take (l : List FS) (i : Nat) : sumF (l.take i) ≤ sumF l := by
  unfold sumF
  conv => rhs; rw [← List.take_append_drop i l]
  rw [List.map_append, List.sum_append]
  omega
theorem putI_all (l : List FS) : putI l l.length = putM l := by
  unfold putI putM
  rw [List.take_length]
end Go.Proofs.YtgjdcdhfijkoiaaDoor.Str
end
section
namespace Go.Proofs.YtgjdcdhfijkoiaaDoor.Str
open Go.RowKit Go.Proofs.YtgjdcdhfijkoiaaDoorW.PrintWords Go.Proofs.YtgjdcdhfijkoiaaDoorW.PrintLast Go.Proofs.YtgjdcdhfijkoiaaDoorW.PrintMore Go.Proofs.YtgjdcdhfijkoiaaDoor.Mem Go.Proofs.YtgjdcdhfijkoiaaDoor.PCod Go.Proofs.YtgjdcdhfijkoiaaDoor.Cod
set_option linter.unusedVariables false
set_option linter.unusedSimpArgs false
theorem Far.kept {base : Nat} {w1 w W : World} (h : Far base w1 w W) : Kept w W (fun k => base ≤ k ∧ k < w1.heap.size) := ⟨h.1, fun k hk hn => h.2 k hk (by omega)⟩
section
variable {w : World}
set_option maxRecDepth 100000 in
set_option maxHeartbeats 4000000 in
theorem put_calls {l : List FS} {A : Option Addr} {c : Nat} (hr : Kd.C k50 w A l.length l) (hl : l.length ≤ 100000) (hby : ∀ f ∈ l, Byt f.f1) :
    Calls Tryd.prog 16 #[.slice A l.length c] w fun e w' => ∃ v, e = .returned (.tuple #[v, .int .i64 (checkM l)]) ∧ Kd.R (Kd.int .u8) 5 w' w.heap.size (fun _ => True) v (if checkM l = 0 then putM l else []) ∧ Below w.heap.size w w' := by
  have hp := check_calls (c := c) hr hl
  obtain ⟨m, hm⟩ : ∃ m, m = l.length := ⟨_, rfl⟩
  have HX := Aside0.mk (And.intro hr (And.intro hm hby))
  rw [← hm] at hl hp ⊢
  obtain ⟨ck, hck⟩ : ∃ x, x = checkM l := ⟨_, rfl⟩
  rw [← hck] at hp ⊢
  have HP := Aside0.mk hp
  have HK := Aside0.mk hck
  clear hr hm hp hby hck
  by_cases h0 : ck = 0
  · subst h0
    obtain ⟨hpm, hbig, hsum, hlen⟩ := check_0 HK.out.symm
    have hpo := pathsGo_ok l none [] hpm
    have hxl : ∀ i, i ≤ m → (putI l i).length ≤ 40000000 := fun i hi => by
      have h1 := putI_len hpo i (by rw [← HX.out.2.1]; exact hi)
      have h2 := sumF_take l i
      have h3 := HX.out.2.1
      omega
    have hm5 : m ≤ 65536 := by rw [HX.out.2.1]; exact hlen
    have hwm : IntKind.u64.wrap (m : Int) = (m : Int) := u64_small (by omega) (by omega)
    have HB := Aside0.mk (And.intro hpo (And.intro hsum hxl))
    clear hpm hbig hsum hlen hpo hxl
    rw [if_pos rfl]
    go_enter Tryd.func16, Tryd.ntmps16
    go_wp2_with (first
      | (go_at_call 20; go_loud (refine HP.out.mono ?_; rintro e w1 ⟨rfl, hb1⟩; have H1 := Aside0.mk hb1; clear hb1))
      | (go_at_call 39; go_loud (refine (ps_new w w1 H1.out).mono ?_; rintro e w2 ⟨rfl, h2⟩; obtain ⟨gw, hgw⟩ : ∃ g, g = w1.heap.size := ⟨_, rfl⟩; rw [← hgw] at h2 ⊢; have H2 := Aside0.mk h2; clear h2 hgw))
      | (go_at_call 40; go_loud (refine (H2.out.uint (m : Int) (by omega) (by omega) (by simp)).mono ?_; rintro e w3 ⟨rfl, h3⟩; have H3 := Aside0.mk (show PS w w3 gw gw (putI l 0) from by unfold putI; rw [← HX.out.2.1]; simpa using h3); clear h3)))
    go_loopg [21] m (fun q v21 wr => ∃ i : Nat, v21 = .int .i64 i ∧ q + i = m ∧ Aside0 (PS w wr gw gw (putI l i)))
    case atStart => exact ⟨0, rfl, by omega, H3⟩
    case round =>
      clear H1 H2 H3
      obtain ⟨i, rfl, hq, hI⟩ := hrel
      by_cases hlt : i < m
      · have d1 : decide ((i : Int) < (m : Int)) = true := decide_eq_true (by omega)
        have hil : i < l.length := by rw [← HX.out.2.1]; exact hlt
        obtain ⟨ad, B, bc, rfl, c0, c1, hbc, hbC⟩ := at_T50 HX.out.1 (i : Int) (by omega) (by omega)
        obtain ⟨f, hf⟩ : ∃ f, f = l.getD i z50 := ⟨_, rfl⟩
        have hfm : f ∈ l := by rw [hf, List.getD_eq_getElem?_getD, List.getElem?_eq_getElem hil]; exact List.getElem_mem _
        rw [show rd_T50 l (i : Int) = f by rw [hf]; rfl, Int.toNat_natCast] at c0 c1
        rw [show rd_T50 l (i : Int) = f by rw [hf]; rfl] at hbc hbC
        have hps := pathM_size (HB.out.1 f hfm)
        have hyb := HX.out.2.2 f hfm
        have hsf : f.f1.length ≤ 16777216 := by
          have h1 := sumF_succ hil
          have h2 := sumF_take l (i + 1)
          have h3 := HB.out.2.1
          rw [← hf] at h1
          omega
        obtain ⟨s, b⟩ := f
        dsimp only at c0 c1 hbc hbC hps hyb hsf
        obtain ⟨bl, hbl⟩ : ∃ k, k = b.length := ⟨_, rfl⟩
        rw [← hbl] at c1
        replace c0 := (hI.out.bl.cell (World.block_lt_of_cell? w _ c0)).trans c0
        replace c1 := (hI.out.bl.cell (World.block_lt_of_cell? w _ c1)).trans c1
        have HF := Aside0.mk (And.intro hf (And.intro hil (And.intro hbl (And.intro hps (And.intro hyb (And.intro hsf (And.intro hbC (HB.out.2.2 i (by omega)))))))))
        clear hf hfm hil hbl hbc hbC hps hyb hsf
        go_wp2_with (first
          | ((with_reducible refine gate_dst (N := 7) rfl ?_); refine file_new ?hg ?hr ?_; (case hg => rfl); (case hr => first | kernel_rfl | (go_simp; done) | (go_simp; rfl)); go_loud (intro w6 hx6 hb6 hs6; have H6 := Aside0.mk (And.intro hx6 hb6); clear hx6 hb6 hs6))
          | ((with_reducible refine gate_store (ty := 50) (x := .tmp 7) (y := .tmp 24) rfl ?_); refine file_put (s := s) (B := B) (bl := bl) (bc := bc) rfl (.tmp 7) (.tmp 24) rfl rfl rfl H6.out.1 ?_; go_loud (intro w7 hx7 hk7 hb7 hs7; have a0 : w7.cell? ⟨wr.heap.size, 0, none⟩ = some (.string s) := (blk_cell hx7 0).trans rfl; have H7 := Aside0.mk (And.intro hx7 (hb7 _ _ (Nat.le_refl _) H6.out.2)); clear hx7 hk7 hb7 hs7))
          | ((with_reducible refine gate_dst (N := 28) rfl ?_); go_loud (refine str_event (s := s) (w0 := wr) (base := wr.heap.size) rfl rfl rfl Tryd.underlying9 Tryd.underlying27 Tryd.underlying5 (by have := HF.out.2.2.2.1; omega) H7.out.2 H7.out.2.size ?_; intro w8 c8 hb8 hbb8 hc8 hs8 hC8 hfz8; have H8 := Aside0.mk (And.intro hb8 (And.intro hbb8 hC8)); clear hb8 hbb8 hc8 hs8 hC8 hfz8))
          | (go_at_call 41; have _t := H9; go_loud (clear _t; refine (H9.out.1.bytes (Below.refl _ _) B bl bc (ys := b) HF.out.2.2.1 (fun W hW => Kd.C_kept_came (Kd.heap_int .u8) HF.out.2.2.2.2.2.2.1 H9.out.1.bl (S := fun k => gw ≤ k ∧ k < w9.heap.size) (fun k hk => Nat.le_trans H9.out.1.b0 hk.1) W hW.kept) (by have h1 := HF.out.2.2.2.2.2.2.2; have h2 := HF.out.2.2.2.2.2.1; have h3 := HF.out.2.2.2.1; have h4 := (putNum_len (bytesOf s).length).1; simp only [List.length_append, bytesOf_length] at h4 ⊢; omega) HF.out.2.2.2.2.1).mono ?_; rintro e w10 ⟨rfl, h10, hf10⟩; have H10 := Aside0.mk h10; clear h10 hf10))
          | (go_at_call 41; go_loud (refine (hI.out.bytes (w := w8) (H8.out.1) (some ⟨w7.heap.size, 0, none⟩) s.size c8 (ys := bytesOf s) (bytesOf_length s).symm (fun W hW => by rw [bytesOf_length]; exact C_kept H8.out.2.2 hW.kept (fun ad e h => by cases e; have h1 := H7.out.2.size; have h2 : w7.heap.size < wr.heap.size := h.2; omega)) (by have h1 := HF.out.2.2.2.2.2.2.2; have h3 := HF.out.2.2.2.1; rw [bytesOf_length]; omega) (bytesOf_byt s)).mono ?_; rintro e w9 ⟨rfl, h9, hf9⟩; have a1 : w9.cell? ⟨wr.heap.size, 1, none⟩ = some (.slice B bl bc) := (blk_cell ((hf9.2 _ (blk_lt (H7.out.1.below H8.out.2.1)) (.inr (Nat.le_refl _))).trans (H7.out.1.below H8.out.2.1)) 1).trans rfl; have H9 := Aside0.mk (And.intro h9 trivial); clear h9 hf9)))
        go_roundg (m - (i + 1))
        case measure => omega
        case rel =>
          refine ⟨i + 1, by go_num, by omega, ⟨?_⟩⟩
          have h := H10.out
          rw [putI_succ HF.out.2.1, ← HF.out.1]
          unfold filB
          rw [bytesOf_length] at h
          simpa only [List.append_assoc] using h
      · have d1 : decide ((i : Int) < (m : Int)) = false := decide_eq_false (by omega)
        obtain rfl : i = m := by omega
        have hI2 : PS w wr gw gw (putM l) := by have h := hI.out; rw [HX.out.2.1, putI_all] at h; exact h
        have HI2 := Aside0.mk hI2
        clear hI2 hI
        go_wp2_with (go_at_call 42; go_loud (refine HI2.out.out.mono ?_; rintro e w4 ⟨v4, rfl, hr4, hb4⟩; have H4 := Aside0.mk (And.intro hr4 hb4); clear hr4 hb4))
        go_ret2
        exact ⟨_, rfl, Kd.R_lower H4.out.1 HI2.out.bl.size, below_step HI2.out.bl H4.out.2⟩
  · rw [if_neg h0]
    have d0 : (ck != 0) = true := bne_iff_ne.2 h0
    clear h0
    go_enter Tryd.func16, Tryd.ntmps16
    go_wp2_with (go_at_call 20; go_loud (refine HP.out.mono ?_; rintro e w1 ⟨rfl, hb1⟩; have H1 := Aside0.mk hb1; clear hb1))
    go_ret2
    exact ⟨_, rfl, Kd.R_nil _ _ _ _ _, H1.out⟩
end
end Go.Proofs.YtgjdcdhfijkoiaaDoor.Str
end
