/- A writer under way, what it leaves as it was; what an object is put as. -/
import Derived.Test.YtgjdcdhfijkoiaaDoorObA
import Derived.Test.YtgjdcdhfijkoiaaDoorFiB
section
namespace Go.Proofs.YtgjdcdhfijkoiaaDoor.Obj
open Go.RowKit Go.Proofs.YtgjdcdhfijkoiaaDoorW.PrintWords Go.Proofs.YtgjdcdhfijkoiaaDoorW.PrintLast Go.Proofs.YtgjdcdhfijkoiaaDoorW.PrintMore Go.Proofs.YtgjdcdhfijkoiaaDoor.Mem Go.Proofs.YtgjdcdhfijkoiaaDoor.Cod Go.Proofs.YtgjdcdhfijkoiaaDoor.PCod Go.Proofs.YtgjdcdhfijkoiaaDoor.Str Go.Proofs.YtgjdcdhfijkoiaaDoor.Open
set_option linter.unusedVariables false
set_option linter.unusedSimpArgs false
/-- A writer in block g, whose own lies from base on, and not in Pr. -/
structure WP (w W : World) (base g : Nat) (Pr : Nat → Prop) (xs : List Int) : Prop where
  bl : Below w.heap.size w W
  b0 : w.heap.size ≤ base
  pr : ∀ k, Pr k → k < W.heap.size
  ex : ∃ F : Nat → Prop, WrAt W base F g xs ∧ ∀ k, F k → base ≤ k ∧ k < W.heap.size ∧ ¬ Pr k
/-- What a call of the writer leaves as it was. -/
def Sv (base : Nat) (Pr : Nat → Prop) (W W' : World) : Prop := W.heap.size ≤ W'.heap.size ∧ ∀ k, k < W.heap.size → (k < base ∨ Pr k) → W'.heap[k]? = W.heap[k]?
section
variable {w W W' : World} {base g : Nat} {Pr : Nat → Prop} {xs ys : List Int}
theorem WP.below (h : WP w W base g Pr xs) (hb : Below W.heap.size W W') : WP w W' base g Pr xs := by
  obtain ⟨F, h1, h2⟩ := h.ex
  have := hb.size
  exact ⟨below_step h.bl hb, h.b0, fun k hk => Nat.lt_of_lt_of_le (h.pr k hk) hb.size, F, h1.below hb, fun k hk => ⟨(h2 k hk).1, by have := (h2 k hk).2.1; omega, (h2 k hk).2.2⟩⟩
/-- What has come since is kept from it. -/
theorem WP.more (h : WP w W base g Pr xs) (hb : Below W.heap.size W W') : WP w W' base g (fun k => Pr k ∨ (W.heap.size ≤ k ∧ k < W'.heap.size)) xs := by
  obtain ⟨F, h1, h2⟩ := h.ex
  have hs := hb.size
  refine ⟨below_step h.bl hb, h.b0, fun k hk => ?_, F, h1.below hb, fun k hk => ⟨(h2 k hk).1, by have := (h2 k hk).2.1; omega, fun hp => ?_⟩⟩
  · rcases hk with hk | hk
    · exact Nat.lt_of_lt_of_le (h.pr k hk) hs
    · exact hk.2
  · rcases hp with hp | hp
    · exact (h2 k hk).2.2 hp
    · have := (h2 k hk).2.1; omega
theorem WP.less (h : WP w W base g Pr xs) {Pr' : Nat → Prop} (hp : ∀ k, Pr' k → Pr k) : WP w W base g Pr' xs := by
  obtain ⟨F, h1, h2⟩ := h.ex
  exact ⟨h.bl, h.b0, fun k hk => h.pr k (hp k hk), F, h1, fun k hk => ⟨(h2 k hk).1, (h2 k hk).2.1, fun hq => (h2 k hk).2.2 (hp k hq)⟩⟩
theorem WP.step (h : WP w W base g Pr xs) {F : Nat → Prop} {zs : List Int} (h2 : ∀ k, F k → base ≤ k ∧ k < W.heap.size ∧ ¬ Pr k) (q1 : WrAt W' base (Or F W) g zs) (q2 : Below w.heap.size w W') (q3 : Kept W W' F) : WP w W' base g Pr zs ∧ Sv base Pr W W' := by
  refine ⟨⟨q2, h.b0, fun k hk => Nat.lt_of_lt_of_le (h.pr k hk) q3.1, _, q1.cut, fun k hk => ⟨hk.2.1, hk.2.2, fun hp => ?_⟩⟩, q3.1, fun k hk ho => q3.2 k hk (fun hf => ?_)⟩
  · rcases hk.1 with hf | hf
    · exact (h2 k hf).2.2 hp
    · have := h.pr k hp; omega
  · have := h2 k hf
    rcases ho with ho | ho
    · omega
    · exact this.2.2 ho
theorem WP.uint (h : WP w W base g Pr xs) (x : Int) (h0 : 0 ≤ x) (h1 : x < 18446744073709551616) (hl : xs.length + 10 < 140737488355328) :
    Calls Tryd.prog 40 #[.pointer (some ⟨g, 0, none⟩), .int .u64 x] W fun e W' => e = .returned (.tuple #[]) ∧ WP w W' base g Pr (xs ++ putNum x) ∧ Sv base Pr W W' := by
  obtain ⟨F, hF, hF2⟩ := h.ex
  refine (wuint_calls h.bl h.b0 hF x h0 h1 hl).mono ?_
  rintro e w' ⟨rfl, q1, q2, q3⟩
  exact ⟨rfl, h.step hF2 q1 q2 q3⟩
theorem WP.bool (h : WP w W base g Pr xs) (b : Bool) (hl : xs.length + 1 < 140737488355328) :
    Calls Tryd.prog 61 #[.pointer (some ⟨g, 0, none⟩), .bool b] W fun e W' => e = .returned (.tuple #[]) ∧ WP w W' base g Pr (xs ++ [bit b]) ∧ Sv base Pr W W' := by
  obtain ⟨F, hF, hF2⟩ := h.ex
  refine (wbool_calls h.bl h.b0 hF b hl).mono ?_
  rintro e w' ⟨rfl, q1, q2, q3⟩
  exact ⟨rfl, h.step hF2 q1 q2 q3⟩
theorem WP.fixed (h : WP w W base g Pr xs) (A : Option Addr) (n c : Nat) (hn : n = ys.length) (hr : Kd.C (Kd.int .u8) W A ys.length ys) (hl : xs.length + ys.length < 140737488355328) (hy : Byt ys) :
    Calls Tryd.prog 60 #[.pointer (some ⟨g, 0, none⟩), .slice A n c] W fun e W' => e = .returned (.tuple #[]) ∧ WP w W' base g Pr (xs ++ ys) ∧ Sv base Pr W W' := by
  obtain ⟨F, hF, hF2⟩ := h.ex
  refine (wfixed_calls h.bl h.b0 hF A n c hn hr hl hy).mono ?_
  rintro e w' ⟨rfl, q1, q2, q3⟩
  exact ⟨rfl, h.step hF2 q1 q2 q3⟩
theorem WP.bytes (h : WP w W base g Pr xs) (A : Option Addr) (n c : Nat) (hn : n = ys.length) (hr : ∀ W2, Kept W W2 (fun k => base ≤ k ∧ k < W.heap.size ∧ ¬ Pr k) → Kd.C (Kd.int .u8) W2 A ys.length ys) (hl : xs.length + ys.length + 10 < 140737488355328) (hy : Byt ys) :
    Calls Tryd.prog 41 #[.pointer (some ⟨g, 0, none⟩), .slice A n c] W fun e W' => e = .returned (.tuple #[]) ∧ WP w W' base g Pr (xs ++ (putNum ys.length ++ ys)) ∧ Sv base Pr W W' := by
  obtain ⟨F, hF, hF2⟩ := h.ex
  refine (wbytes_calls0 h.bl h.b0 hF A n c hn (fun W2 hk => hr W2 (hk.mono hF2)) hl hy).mono ?_
  rintro e w' ⟨rfl, q1, q2, q3⟩
  rw [List.append_assoc] at q1
  exact ⟨rfl, h.step hF2 q1 q2 q3⟩
theorem WP.out (h : WP w W base g Pr xs) : Calls Tryd.prog 42 #[.pointer (some ⟨g, 0, none⟩)] W fun e w' => ∃ v, e = .returned v ∧ Kd.R (Kd.int .u8) 5 w' W.heap.size (fun _ => True) v xs ∧ Below W.heap.size W w' := by
  obtain ⟨F, hF, hF2⟩ := h.ex
  exact wout_calls hF
/-- A row of bytes that came in. -/
theorem WP.came {A : Option Addr} {n : Nat} {ys : List Int} (h : WP w W base g Pr xs) (hr : Kd.C (Kd.int .u8) w A n ys) : ∀ W2, Kept W W2 (fun k => base ≤ k ∧ k < W.heap.size ∧ ¬ Pr k) → Kd.C (Kd.int .u8) W2 A n ys :=
  Kd.C_kept_came (Kd.heap_int .u8) hr h.bl (fun k hk => Nat.le_trans h.b0 hk.1)
theorem Sv.blk {b : Nat} {o : Obj} (h : Sv base Pr W W') (hb : W.heap[b]? = some o) (hp : b < base ∨ Pr b) : W'.heap[b]? = some o := (h.2 b (blk_lt hb) hp).trans hb
theorem wp_new (w W : World) (hb : Below w.heap.size w W) : Calls Tryd.prog 39 #[] W fun e w' => e = .returned (.pointer (some ⟨W.heap.size, 0, none⟩)) ∧ WP w w' W.heap.size W.heap.size (fun _ => False) [] ∧ Below W.heap.size W w' := by
  refine newWriter_calls.mono ?_
  rintro e w' ⟨rfl, h1, h2⟩
  exact ⟨rfl, ⟨below_step hb h2, hb.size, fun _ h => h.elim, _, h1, fun k hk => ⟨hk.1, hk.2, fun h => h⟩⟩, h2⟩
/-- Bytes in cells, side by side. -/
theorem cells_row {ad : Addr} {ys : List Int} (hl : ys.length ≤ 9223372036854775807) (h : ∀ (j : Nat) (v : Value), (nums .u8 ys)[j]? = some v → W.cell? (ad.add j) = some v) : Kd.C (Kd.int .u8) W (some ad) ys.length ys := by
  refine Kd.C_of_reads (d := (0 : Int)) (h1 := fun _ => rfl) ⟨rfl, by omega, fun _ => ⟨_, rfl, fun j hj => ?_⟩⟩
  have h1 := h j (.int .u8 (ys[j]'hj)) (by unfold nums; rw [List.getElem?_map, List.getElem?_eq_getElem hj]; rfl)
  rw [h1]
  simp [List.getElem?_eq_getElem hj]
end
/-! ### what an object is put as -/
def entB (e : EM) : List Int := (putNum e.nm.size ++ bytesOf e.nm) ++ [bit e.d] ++ e.id
def bodyO (x : OM) : List Int :=
  if x.k = 1 then putNum x.b.length ++ x.b else
  if x.k = 2 then putNum x.n ++ putNum x.ids.length ++ x.ids.flatten else
  if x.k = 3 then putNum x.es.length ++ (x.es.map entB).flatten else
  putNum x.n ++ x.ids.flatten ++ (putNum x.s.size ++ bytesOf x.s)
def putO (x : OM) : List Int := putNum x.k ++ bodyO x
end Go.Proofs.YtgjdcdhfijkoiaaDoor.Obj
end
section
namespace Go.Proofs.YtgjdcdhfijkoiaaDoor.Obj
open Go.RowKit Go.Proofs.YtgjdcdhfijkoiaaDoorW.PrintWords Go.Proofs.YtgjdcdhfijkoiaaDoorW.PrintLast Go.Proofs.YtgjdcdhfijkoiaaDoorW.PrintMore Go.Proofs.YtgjdcdhfijkoiaaDoor.Mem Go.Proofs.YtgjdcdhfijkoiaaDoor.Cod Go.Proofs.YtgjdcdhfijkoiaaDoor.PCod Go.Proofs.YtgjdcdhfijkoiaaDoor.Str Go.Proofs.YtgjdcdhfijkoiaaDoor.Open
set_option linter.unusedVariables false
set_option linter.unusedSimpArgs false
/-- What an object that came in leads to. -/
structure InO (w : World) (x : OM) (A Y E : Option Addr) : Prop where
  bC : Kd.C (Kd.int .u8) w A x.b.length x.b
  yC : Kd.C kId w Y x.ids.length x.ids
  eC : Kd.C kE w E x.es.length x.es
  bb : Byt x.b
  bi : ∀ p ∈ x.ids, Byt p
  be : ∀ e ∈ x.es, Byt e.id
  k : 0 ≤ x.k ∧ x.k ≤ 255
  n : 0 ≤ x.n ∧ x.n ≤ 18446744073709551615
  bl : x.b.length ≤ 9223372036854775807
  yl : x.ids.length ≤ 9223372036854775807
  el : x.es.length ≤ 9223372036854775807
theorem InO.below {w w' : World} {x : OM} {A Y E : Option Addr} (h : InO w x A Y E) (hb : Below w.heap.size w w') : InO w' x A Y E :=
  ⟨Kd.C_below h.bC hb, Kd.C_below h.yC hb, Kd.C_below h.eC hb, h.bb, h.bi, h.be, h.k, h.n, h.bl, h.yl, h.el⟩
theorem err_0 {x : OM} (h : errC x = 0) : checkO x = true := by
  unfold errC at h
  split at h
  · assumption
  · exact absurd h (by decide)
theorem ok_1 {x : OM} (h : errC x = 0) (hk : x.k = 1) : x.b.length ≤ 32768 := by
  have h1 := err_0 h
  unfold checkO at h1
  rw [if_pos hk] at h1
  unfold pieceM at h1
  rw [Bool.and_eq_true, decide_eq_true_eq] at h1
  omega
theorem ok_2 {x : OM} (h : errC x = 0) (hk : x.k = 2) : x.ids.length ≤ 1000 := by
  have h1 := err_0 h
  unfold checkO at h1
  rw [if_neg (by omega), if_pos hk] at h1
  unfold listM at h1
  rw [Bool.and_eq_true, Bool.and_eq_true, Bool.and_eq_true, decide_eq_true_eq] at h1
  have := h1.1.1.2
  omega
theorem dirGo_ok : ∀ (l : List EM) (p : Option ByteArray), dirGo p l = true → ∀ e ∈ l, pathM e.nm = true
  | [], _, _, e, he => by cases he
  | a :: r, p, h, e, he => by
    rw [dirGo_cons, Bool.and_eq_true, Bool.and_eq_true, Bool.and_eq_true] at h
    rcases List.mem_cons.1 he with rfl | he
    · exact h.1.1.1
    · exact dirGo_ok r _ h.2 e he
theorem ok_3 {x : OM} (h : errC x = 0) (hk : x.k = 3) : x.es.length ≤ 500 ∧ ∀ e ∈ x.es, e.nm.size ≤ 255 := by
  have h1 := err_0 h
  unfold checkO at h1
  rw [if_neg (by omega), if_neg (by omega), if_pos hk] at h1
  unfold dirM at h1
  rw [Bool.and_eq_true, Bool.and_eq_true, decide_eq_true_eq] at h1
  have := h1.2.2
  exact ⟨by omega, fun e he => (pathM_size (dirGo_ok _ _ h1.1 e he)).2⟩
theorem ok_4 {x : OM} (h : errC x = 0) (hk : x.k = 4) : x.ids.length = 1 ∧ x.s.size ≤ 255 := by
  have h1 := err_0 h
  unfold checkO at h1
  rw [if_neg (by omega), if_neg (by omega), if_neg (by omega), if_pos hk] at h1
  unfold snapM at h1
  rw [Bool.and_eq_true, Bool.and_eq_true, decide_eq_true_eq, beq_iff_eq] at h1
  have := h1.1.2
  exact ⟨by omega, by have := h1.2; omega⟩
/-- Put under way: the object in block gb, the writer in g. -/
structure PO (w W : World) (gb base g : Nat) (Pr : Nat → Prop) (x : OM) (A Y E : Option Addr) (bc yc ec : Nat) (xs : List Int) : Prop where
  ob : OB W gb x A Y E bc yc ec
  lt : gb < base
  wp : WP w W base g Pr xs
section
variable {w W W' : World} {gb base g : Nat} {Pr : Nat → Prop} {x : OM} {A Y E : Option Addr} {bc yc ec : Nat} {xs zs : List Int}
theorem PO.of (h : PO w W gb base g Pr x A Y E bc yc ec xs) (q : WP w W' base g Pr zs ∧ Sv base Pr W W') : PO w W' gb base g Pr x A Y E bc yc ec zs := ⟨q.2.blk h.ob (.inl h.lt), h.lt, q.1⟩
theorem PO.below (h : PO w W gb base g Pr x A Y E bc yc ec xs) (hb : Below W.heap.size W W') : PO w W' gb base g Pr x A Y E bc yc ec xs := ⟨h.ob.below hb, h.lt, h.wp.below hb⟩
theorem PO.more (h : PO w W gb base g Pr x A Y E bc yc ec xs) (hb : Below W.heap.size W W') : PO w W' gb base g (fun k => Pr k ∨ (W.heap.size ≤ k ∧ k < W'.heap.size)) x A Y E bc yc ec xs := ⟨h.ob.below hb, h.lt, h.wp.more hb⟩
theorem PO.less (h : PO w W gb base g Pr x A Y E bc yc ec xs) {Pr' : Nat → Prop} (hp : ∀ k, Pr' k → Pr k) : PO w W gb base g Pr' x A Y E bc yc ec xs := ⟨h.ob, h.lt, h.wp.less hp⟩
end
theorem memGet {α : Type} {l : List α} {i : Nat} {d : α} (h : i < l.length) : l.getD i d ∈ l := by
  rw [List.getD_eq_getElem?_getD, List.getElem?_eq_getElem h]
  exact List.getElem_mem h
theorem takeG {α : Type} {l : List α} {i : Nat} (d : α) (h : i < l.length) : l.take (i + 1) = l.take i ++ [l.getD i d] := by
  rw [List.take_add_one, List.getD_eq_getElem?_getD, List.getElem?_eq_getElem h]
  rfl
def zid : Array Value := (nums .u8 (List.replicate 32 0)).toArray
def idFit (p : List Int) : Prop := (Tryd.prog.info? 74).map (·.size) = some (nums .u8 p).toArray.size ∧ zid.size = (nums .u8 p).toArray.size ∧ (nums .u8 p).toArray.all (·.oneCell') = true
theorem id_fit {p : List Int} (h : p.length = 32) : idFit p := by
  refine ⟨by rw [List.size_toArray, nums_length, h]; kernel_rfl, by show 32 = _; rw [List.size_toArray, nums_length, h], ?_⟩
  rw [Array.all_eq_true_iff_forall_mem]
  intro v hv
  exact nums_one p v (List.mem_toArray.1 hv)
theorem add_0 (b o j : Nat) : (⟨b, o, none⟩ : Addr).add j = ⟨b, o + j, none⟩ := by unfold Addr.add; split <;> simp_all
theorem box_row {W : World} {g : Nat} {t : TypeId} {p : List Int} (h : W.heap[g]? = some (.cells (nums .u8 p).toArray t (0, 0))) (hl : p.length = 32) : Kd.C (Kd.int .u8) W (some ⟨g, 0, none⟩) p.length p :=
  cells_row (by omega) (fun j v hj => by rw [add_0, Nat.zero_add, blk_cell h, List.getElem?_toArray]; exact hj)
theorem ent_row {W : World} {g : Nat} {e : EM} (h : EAt W g e) (hl : e.id.length = 32) : Kd.C (Kd.int .u8) W (some ⟨g, 2, none⟩) e.id.length e.id :=
  cells_row (by omega) (fun j v hj => by rw [add_0, blk_cell h, List.getElem?_toArray, Nat.add_comm]; exact hj)
theorem ent_cells {W : World} {g : Nat} {e : EM} (h : EAt W g e) : W.cell? ⟨g, 0, none⟩ = some (.string e.nm) ∧ W.cell? ⟨g, 1, none⟩ = some (.bool e.d) := ⟨(blk_cell h 0).trans rfl, (blk_cell h 1).trans rfl⟩
section
variable {w : World} {x : OM} {cs : Array Value} {A Y E : Option Addr} {bc yc ec : Nat}
set_option maxRecDepth 100000 in
set_option maxHeartbeats 8000000 in
theorem oput_1 (hcs : OV cs x A Y E bc yc ec) (hI : InO w x A Y E) (h0 : errC x = 0) (hk : x.k = 1) :
    Calls Tryd.prog 30 #[.agg cs] w fun e w' => ∃ v, e = .returned (.tuple #[v, .int .i64 0]) ∧ Kd.R (Kd.int .u8) 5 w' w.heap.size (fun _ => True) v (putO x) ∧ Below w.heap.size w w' := by
  have HCS := Aside0.mk (And.intro hcs (And.intro hI h0))
  have HK := Aside0.mk hk
  have hput : putO x = putNum 1 ++ bodyO x := by unfold putO; rw [hk]
  have hwk : IntKind.u64.wrap (1 : Int) = 1 := rfl
  have hbl := ok_1 h0 hk
  have hbody : bodyO x = putNum x.b.length ++ x.b := by unfold bodyO; rw [if_pos hk]
  have HB := Aside0.mk (And.intro hbl (hput.trans (by rw [hbody])))
  clear hcs hI h0 hk hput hbl hbody
  go_enter Tryd.func30, Tryd.ntmps30
  go_wp2_with (first
    | ((with_reducible refine gate_dst (N := 1) rfl ?_); refine box_event ?hg (N := 1) ?hd (cs := cs) (t := 57) ?hr ?_; (case hd => rfl); (case hg => rfl); (case hr => exact exec_box _ _ _ rfl cs rfl); intro gb hgb w1 hbox hb1; have H1 := Aside0.mk (show OB w1 gb x A Y E bc yc ec ∧ Below w.heap.size w w1 from And.intro (OB.of HCS.out.1 hbox) hb1); clear hbox hb1 hgb)
    | ((with_reducible refine gate_dst (N := 10) rfl ?_); refine Kd.event_run rfl (v := .agg cs) (w1 := w1) ?hr ?_; (case hr => exact H1.out.1.load HCS.out.1 (.tmp 1) rfl rfl))
    | (go_at_call 33; go_loud (have hx := ocheck_calls (w := w1) HCS.out.1 (Kd.C_below HCS.out.2.1.eC H1.out.2) HCS.out.2.1.el HCS.out.2.1.k; rw [HCS.out.2.2] at hx; refine hx.mono ?_; clear hx; rintro e w2 ⟨rfl, hb2⟩; have H2 := Aside0.mk (show OB w2 gb x A Y E bc yc ec ∧ Below w.heap.size w w2 from And.intro (H1.out.1.below hb2) (below_step H1.out.2 hb2)); clear hb2))
    | (go_at_call 39; go_loud (refine (wp_new w w2 H2.out.2).mono ?_; rintro e w3 ⟨rfl, hp3, hb3⟩; obtain ⟨gw, hgw⟩ : ∃ g, g = w2.heap.size := ⟨_, rfl⟩; rw [← hgw] at hp3 ⊢; have H3 := Aside0.mk (show PO w w3 gb gw gw (fun _ => False) x A Y E bc yc ec [] from ⟨H2.out.1.below hb3, by rw [hgw]; exact blk_lt H2.out.1, hp3⟩); have a0 := H3.out.ob.cells.1; rw [HK.out] at a0; clear hp3 hb3 hgw))
    | (go_at_call 40; go_loud (refine (H3.out.wp.uint 1 (by omega) (by omega) (by simp)).mono ?_; rintro e w4 ⟨rfl, q⟩; have H4 := Aside0.mk (H3.out.of q); obtain ⟨a0, a1, a2, a3, a4, a5⟩ := H4.out.ob.cells; rw [HK.out] at a0; rw [List.nil_append] at H4; clear q))
    | (go_at_call 41; go_loud (refine (H4.out.wp.bytes A x.b.length bc rfl (H4.out.wp.came HCS.out.2.1.bC) (by have := HB.out.1; have := (putNum_len 1).1; omega) HCS.out.2.1.bb).mono ?_; rintro e w5 ⟨rfl, q⟩; have H5 := Aside0.mk (H4.out.of q); clear q))
    | (go_at_call 42; go_loud (refine H5.out.wp.out.mono ?_; rintro e w9 ⟨v9, rfl, hv9, hb9⟩; have H9 := Aside0.mk (And.intro (Kd.R_lower hv9 H5.out.wp.bl.size) (below_step H5.out.wp.bl hb9)); clear hv9 hb9)))
  go_ret2
  exact ⟨_, rfl, by rw [HB.out.2]; exact H9.out.1, H9.out.2⟩
set_option maxRecDepth 100000 in
set_option maxHeartbeats 8000000 in
theorem oput_2 (hcs : OV cs x A Y E bc yc ec) (hI : InO w x A Y E) (h0 : errC x = 0) (hk : x.k = 2) :
    Calls Tryd.prog 30 #[.agg cs] w fun e w' => ∃ v, e = .returned (.tuple #[v, .int .i64 0]) ∧ Kd.R (Kd.int .u8) 5 w' w.heap.size (fun _ => True) v (putO x) ∧ Below w.heap.size w w' := by
  have HCS := Aside0.mk (And.intro hcs (And.intro hI h0))
  have HK := Aside0.mk hk
  have hput : putO x = putNum 2 ++ bodyO x := by unfold putO; rw [hk]
  have hwk : IntKind.u64.wrap (2 : Int) = 2 := rfl
  have hbl := ok_2 h0 hk
  have hbody : bodyO x = putNum x.n ++ putNum x.ids.length ++ x.ids.flatten := by unfold bodyO; rw [if_neg (by omega), if_pos hk]
  have h32 : ∀ i, i < x.ids.length → (x.ids.getD i []).length = 32 := fun i hi => (at_id hI.yC hi).choose_spec.2.1
  have hfl : ∀ i, i ≤ x.ids.length → (x.ids.take i).flatten.length = i * 32 := by
    intro i
    induction i with
    | zero => intro _; simp
    | succ i ih => intro hi; rw [takeG [] (by omega), List.flatten_append, List.length_append, ih (by omega), List.flatten_cons, List.flatten_nil, List.append_nil, h32 i (by omega)]; omega
  obtain ⟨yl, hyl⟩ : ∃ k, k = x.ids.length := ⟨_, rfl⟩
  have HB := Aside0.mk (And.intro hbl (And.intro (hput.trans (by rw [hbody])) (And.intro hfl hyl)))
  have hwy : IntKind.u64.wrap (yl : Int) = yl := wraps_u64 _ (by omega) (by omega)
  clear hcs hI h0 hk hput hbl hbody h32 hfl hyl
  go_enter Tryd.func30, Tryd.ntmps30
  go_wp2_with (first
    | ((with_reducible refine gate_dst (N := 1) rfl ?_); refine box_event ?hg (N := 1) ?hd (cs := cs) (t := 57) ?hr ?_; (case hd => rfl); (case hg => rfl); (case hr => exact exec_box _ _ _ rfl cs rfl); intro gb hgb w1 hbox hb1; have H1 := Aside0.mk (show OB w1 gb x A Y E bc yc ec ∧ Below w.heap.size w w1 from And.intro (OB.of HCS.out.1 hbox) hb1); clear hbox hb1 hgb)
    | ((with_reducible refine gate_dst (N := 10) rfl ?_); refine Kd.event_run rfl (v := .agg cs) (w1 := w1) ?hr ?_; (case hr => exact H1.out.1.load HCS.out.1 (.tmp 1) rfl rfl))
    | (go_at_call 33; go_loud (have hx := ocheck_calls (w := w1) HCS.out.1 (Kd.C_below HCS.out.2.1.eC H1.out.2) HCS.out.2.1.el HCS.out.2.1.k; rw [HCS.out.2.2] at hx; refine hx.mono ?_; clear hx; rintro e w2 ⟨rfl, hb2⟩; have H2 := Aside0.mk (show OB w2 gb x A Y E bc yc ec ∧ Below w.heap.size w w2 from And.intro (H1.out.1.below hb2) (below_step H1.out.2 hb2)); clear hb2))
    | (go_at_call 39; go_loud (refine (wp_new w w2 H2.out.2).mono ?_; rintro e w3 ⟨rfl, hp3, hb3⟩; obtain ⟨gw, hgw⟩ : ∃ g, g = w2.heap.size := ⟨_, rfl⟩; rw [← hgw] at hp3 ⊢; have H3 := Aside0.mk (show PO w w3 gb gw gw (fun _ => False) x A Y E bc yc ec [] from ⟨H2.out.1.below hb3, by rw [hgw]; exact blk_lt H2.out.1, hp3⟩); have a0 := H3.out.ob.cells.1; rw [HK.out] at a0; clear hp3 hb3 hgw))
    | (go_at_call 40; have _t := H5; go_loud (clear _t; refine (H5.out.wp.uint (yl : Int) (by omega) (by have := HB.out.1; have := HB.out.2.2.2; omega) (by have h1 := (putNum_len 2).1; have h2 := (putNum_len x.n).1; rw [List.length_append]; omega)).mono ?_; rintro e w6 ⟨rfl, q⟩; have H6 := Aside0.mk (H5.out.of q); obtain ⟨_, _, _, a3, _, _⟩ := H6.out.ob.cells; rw [← HB.out.2.2.2] at a3; clear q))
    | (go_at_call 40; have _t := H4; go_loud (clear _t; refine (H4.out.wp.uint x.n HCS.out.2.1.n.1 (by have := HCS.out.2.1.n.2; omega) (by have h1 := (putNum_len 2).1; omega)).mono ?_; rintro e w5 ⟨rfl, q⟩; have H5 := Aside0.mk (H4.out.of q); obtain ⟨_, _, _, a3, _, _⟩ := H5.out.ob.cells; rw [← HB.out.2.2.2] at a3; clear q))
    | (go_at_call 40; go_loud (refine (H3.out.wp.uint 2 (by omega) (by omega) (by simp)).mono ?_; rintro e w4 ⟨rfl, q⟩; have H4 := Aside0.mk (H3.out.of q); obtain ⟨a0, a1, a2, a3, a4, a5⟩ := H4.out.ob.cells; rw [HK.out] at a0; rw [List.nil_append] at H4; clear q)))
  clear a0 a1 a2 a3 a4 a5
  have HQ0 : Aside0 (PO w w6 gb gw gw (fun _ => False) x A Y E bc yc ec (putNum 2 ++ putNum x.n ++ putNum yl ++ (x.ids.take 0).flatten)) := ⟨by rw [List.take_zero, List.flatten_nil, List.append_nil]; exact H6.out⟩
  clear H1 H2 H3 H4 H5 H6
  go_loopg [59] yl (fun q v59 wr => ∃ i : Nat, v59 = .int .i64 i ∧ q + i = yl ∧ Aside0 (PO w wr gb gw gw (fun _ => False) x A Y E bc yc ec (putNum 2 ++ putNum x.n ++ putNum yl ++ (x.ids.take i).flatten)))
  case atStart => exact ⟨0, rfl, by omega, HQ0⟩
  case round =>
    clear HQ0
    obtain ⟨i, rfl, hq, hI⟩ := hrel
    by_cases hlt : i < yl
    · have d2 : decide ((i : Int) < (yl : Int)) = true := decide_eq_true (by omega)
      have hil : i < x.ids.length := by have := HB.out.2.2.2; omega
      have hib : i ≤ 1000 := by have := HB.out.1; omega
      obtain ⟨ad, e0, h32, hcell⟩ := at_id HCS.out.2.1.yC hil
      cases e0
      have hby := HCS.out.2.1.bi _ (memGet (d := []) hil)
      have hnx := takeG [] hil
      obtain ⟨id, hid⟩ : ∃ id, id = x.ids.getD i [] := ⟨_, rfl⟩
      rw [← hid] at h32 hcell hby hnx
      have hcw : ∀ (j : Nat) (v : Value), (nums .u8 id)[j]? = some v → wr.cell? ((ad.add (i * 32)).add j) = some v := fun j v hv => by
        have h := hcell j v hv
        rw [Go.Deep.add_add]
        exact (hI.out.wp.bl.cell (World.block_lt_of_cell? w _ h)).trans h
      have HZ := Aside0.mk (And.intro hcw (And.intro (id_fit h32) (And.intro h32 (And.intro hby hnx))))
      clear hcw h32 hcell hby hnx hid
      go_wp2_with (first
        | ((with_reducible refine gate_dst (N := 62) rfl ?_); refine Kd.event_run rfl (v := .agg (nums .u8 id).toArray) (w1 := wr) ?hr ?_; (case hr => exact exec_load_any wr 74 (.tmp 61) rfl (ad.add (i * 32)) rfl (nums .u8 id) _ HZ.out.1 Tryd.underlying74 rfl (by rw [nums_length, HZ.out.2.2.1]; kernel_rfl)))
        | ((with_reducible refine gate_dst (N := 7) rfl ?_); go_loud (refine Kd.event_run (v := .pointer (some ⟨wr.heap.size, 0, none⟩)) (w1 := wr.alloc (.cells zid 74)) rfl ?hr ?_; (case hr => first | kernel_rfl | (go_simp; done) | (go_simp; rfl))))
        | ((with_reducible refine gate_store (ty := 74) (x := .tmp 7) (y := .tmp 62) rfl ?_); refine wpList_store_row rfl 74 (.tmp 7) (.tmp 62) rfl wr.heap.size (nums .u8 id).toArray rfl rfl 74 zid (blk_new wr _) HZ.out.2.1.1 HZ.out.2.1.2.1 HZ.out.2.1.2.2 ?_; go_loud (refine wpName (fun W5 hW5 => ?_); have hb5 : Below wr.heap.size wr W5 := (by rw [hW5]; exact below_setRow (below_alloc (Below.refl _ _) _) (Nat.le_refl _) _); have hr5 : W5.heap[wr.heap.size]? = some (.cells (nums .u8 id).toArray 74 (0, 0)) := (by rw [hW5]; exact setRow_heap _ _ _ _ _ _ (blk_new wr _)); have H5 := Aside0.mk (And.intro (hI.out.below hb5) hr5); clear hW5 hb5 hr5))
        | (go_at_call 60; go_loud (refine (H5.out.1.wp.fixed (some ⟨wr.heap.size, 0, none⟩) 32 32 HZ.out.2.2.1.symm (box_row H5.out.2 HZ.out.2.2.1) (by have h1 := (putNum_len 2).1; have h2 := (putNum_len x.n).1; have h3 := (putNum_len (yl : Int)).1; have h4 := HB.out.2.2.1 i (by have := HB.out.2.2.2; omega); have h5 := HZ.out.2.2.1; have h6 := HB.out.1; have h7 := HB.out.2.2.2; simp only [List.length_append]; omega) HZ.out.2.2.2.1).mono ?_; rintro e w6 ⟨rfl, q⟩; have H6 := Aside0.mk (H5.out.1.of q); clear q)))
      go_roundg (yl - (i + 1))
      case measure => omega
      case rel => exact ⟨i + 1, by go_num, by omega, ⟨by rw [HZ.out.2.2.2.2, List.flatten_append, ← List.append_assoc]; simpa using H6.out⟩⟩
    · have d2 : decide ((i : Int) < (yl : Int)) = false := decide_eq_false (by omega)
      have hlast : PO w wr gb gw gw (fun _ => False) x A Y E bc yc ec (putO x) := by
        have h := hI.out
        rw [List.take_of_length_le (by have := HB.out.2.2.2; omega)] at h
        rw [HB.out.2.1, ← HB.out.2.2.2]
        simpa only [List.append_assoc] using h
      have HL := Aside0.mk hlast
      clear hlast
      go_wp2_with (first
        | (go_at_call 42; go_loud (refine HL.out.wp.out.mono ?_; rintro e w9 ⟨v9, rfl, hv9, hb9⟩; have H9 := Aside0.mk (And.intro (Kd.R_lower hv9 HL.out.wp.bl.size) (below_step HL.out.wp.bl hb9)); clear hv9 hb9)))
      go_ret2
      exact ⟨_, rfl, H9.out.1, H9.out.2⟩
set_option maxRecDepth 100000 in
set_option maxHeartbeats 8000000 in
theorem oput_3 (hcs : OV cs x A Y E bc yc ec) (hI : InO w x A Y E) (h0 : errC x = 0) (hk : x.k = 3) :
    Calls Tryd.prog 30 #[.agg cs] w fun e w' => ∃ v, e = .returned (.tuple #[v, .int .i64 0]) ∧ Kd.R (Kd.int .u8) 5 w' w.heap.size (fun _ => True) v (putO x) ∧ Below w.heap.size w w' := by
  have HCS := Aside0.mk (And.intro hcs (And.intro hI h0))
  have HK := Aside0.mk hk
  have hput : putO x = putNum 3 ++ bodyO x := by unfold putO; rw [hk]
  have hwk : IntKind.u64.wrap (3 : Int) = 3 := rfl
  obtain ⟨hbl, hnm⟩ := ok_3 h0 hk
  have hbody : bodyO x = putNum x.es.length ++ (x.es.map entB).flatten := by unfold bodyO; rw [if_neg (by omega), if_neg (by omega), if_pos hk]
  have h32 : ∀ i, i < x.es.length → (x.es.getD i eNone).id.length = 32 := fun i hi => (at_e hI.eC hi).choose_spec.2.1
  have hfl : ∀ i, i ≤ x.es.length → ((x.es.take i).map entB).flatten.length ≤ i * 300 := by
    intro i
    induction i with
    | zero => intro _; simp
    | succ i ih =>
      intro hi
      have h1 := ih (by omega)
      have h2 := hnm _ (memGet (d := eNone) (show i < x.es.length by omega))
      have h3 := h32 i (by omega)
      have h4 := (putNum_len ((x.es.getD i eNone).nm.size : Int)).1
      have h5 : (entB (x.es.getD i eNone)).length ≤ 300 := by
        unfold entB
        simp only [List.length_append, List.length_cons, List.length_nil, Str.bytesOf_length]
        omega
      rw [takeG eNone (by omega), List.map_append, List.flatten_append, List.length_append, List.map_cons, List.map_nil, List.flatten_cons, List.flatten_nil, List.append_nil]
      omega
  obtain ⟨el, hel⟩ : ∃ k, k = x.es.length := ⟨_, rfl⟩
  have HB := Aside0.mk (And.intro hbl (And.intro (hput.trans (by rw [hbody])) (And.intro hfl (And.intro hel hnm))))
  have hwy : IntKind.u64.wrap (el : Int) = el := wraps_u64 _ (by omega) (by omega)
  clear hcs hI h0 hk hput hbl hbody h32 hfl hel hnm
  go_enter Tryd.func30, Tryd.ntmps30
  go_wp2_with (first
    | ((with_reducible refine gate_dst (N := 1) rfl ?_); refine box_event ?hg (N := 1) ?hd (cs := cs) (t := 57) ?hr ?_; (case hd => rfl); (case hg => rfl); (case hr => exact exec_box _ _ _ rfl cs rfl); intro gb hgb w1 hbox hb1; have H1 := Aside0.mk (show OB w1 gb x A Y E bc yc ec ∧ Below w.heap.size w w1 from And.intro (OB.of HCS.out.1 hbox) hb1); clear hbox hb1 hgb)
    | ((with_reducible refine gate_dst (N := 10) rfl ?_); refine Kd.event_run rfl (v := .agg cs) (w1 := w1) ?hr ?_; (case hr => exact H1.out.1.load HCS.out.1 (.tmp 1) rfl rfl))
    | (go_at_call 33; go_loud (have hx := ocheck_calls (w := w1) HCS.out.1 (Kd.C_below HCS.out.2.1.eC H1.out.2) HCS.out.2.1.el HCS.out.2.1.k; rw [HCS.out.2.2] at hx; refine hx.mono ?_; clear hx; rintro e w2 ⟨rfl, hb2⟩; have H2 := Aside0.mk (show OB w2 gb x A Y E bc yc ec ∧ Below w.heap.size w w2 from And.intro (H1.out.1.below hb2) (below_step H1.out.2 hb2)); clear hb2))
    | (go_at_call 39; go_loud (refine (wp_new w w2 H2.out.2).mono ?_; rintro e w3 ⟨rfl, hp3, hb3⟩; obtain ⟨gw, hgw⟩ : ∃ g, g = w2.heap.size := ⟨_, rfl⟩; rw [← hgw] at hp3 ⊢; have H3 := Aside0.mk (show PO w w3 gb gw gw (fun _ => False) x A Y E bc yc ec [] from ⟨H2.out.1.below hb3, by rw [hgw]; exact blk_lt H2.out.1, hp3⟩); have a0 := H3.out.ob.cells.1; rw [HK.out] at a0; clear hp3 hb3 hgw))
    | (go_at_call 40; have _t := H4; go_loud (clear _t; refine (H4.out.wp.uint (el : Int) (by omega) (by have := HB.out.1; have := HB.out.2.2.2.1; omega) (by have h1 := (putNum_len 3).1; omega)).mono ?_; rintro e w6 ⟨rfl, q⟩; have H6 := Aside0.mk (H4.out.of q); obtain ⟨_, _, _, _, a4, _⟩ := H6.out.ob.cells; rw [← HB.out.2.2.2.1] at a4; clear q))
    | (go_at_call 40; go_loud (refine (H3.out.wp.uint 3 (by omega) (by omega) (by simp)).mono ?_; rintro e w4 ⟨rfl, q⟩; have H4 := Aside0.mk (H3.out.of q); obtain ⟨a0, a1, a2, a3, a4, a5⟩ := H4.out.ob.cells; rw [HK.out] at a0; rw [List.nil_append] at H4; rw [← HB.out.2.2.2.1] at a4; clear q)))
  clear a0 a1 a2 a3 a4 a5
  have HQ0 : Aside0 (PO w w6 gb gw gw (fun _ => False) x A Y E bc yc ec (putNum 3 ++ putNum el ++ ((x.es.take 0).map entB).flatten)) := ⟨by rw [List.take_zero, List.map_nil, List.flatten_nil, List.append_nil]; exact H6.out⟩
  clear H1 H2 H3 H4 H6
  go_loopg [78] el (fun q v78 wr => ∃ i : Nat, v78 = .int .i64 i ∧ q + i = el ∧ Aside0 (PO w wr gb gw gw (fun _ => False) x A Y E bc yc ec (putNum 3 ++ putNum el ++ ((x.es.take i).map entB).flatten)))
  case atStart => exact ⟨0, rfl, by omega, HQ0⟩
  case round =>
    clear HQ0
    obtain ⟨i, rfl, hq, hI⟩ := hrel
    by_cases hlt : i < el
    · have d2 : decide ((i : Int) < (el : Int)) = true := decide_eq_true (by omega)
      have hil : i < x.es.length := by have := HB.out.2.2.2.1; omega
      have hib : i ≤ 500 := by have := HB.out.1; omega
      obtain ⟨ad, e0, h32, hcell, _⟩ := at_e HCS.out.2.1.eC hil
      cases e0
      have hby := HCS.out.2.1.be _ (memGet (d := eNone) hil)
      have hnm := HB.out.2.2.2.2 _ (memGet (d := eNone) hil)
      have hnx := takeG eNone hil
      obtain ⟨en, hen⟩ : ∃ en, en = x.es.getD i eNone := ⟨_, rfl⟩
      rw [← hen] at h32 hcell hby hnx hnm
      obtain ⟨nm, hnm2⟩ : ∃ z, z = en.nm := ⟨_, rfl⟩
      obtain ⟨pre, hpre⟩ : ∃ z, z = putNum 3 ++ putNum el ++ ((x.es.take i).map entB).flatten := ⟨_, rfl⟩
      have hpl : pre.length ≤ 200000 := by
        have h1 := (putNum_len 3).1
        have h2 := (putNum_len (el : Int)).1
        have h3 := HB.out.2.2.1 i (by omega)
        rw [hpre, List.length_append, List.length_append]
        omega
      have hcw : ∀ (j : Nat) (v : Value), (ecells en)[j]? = some v → wr.cell? ((ad.add (i * 34)).add j) = some v := fun j v hv => by
        have h := hcell j v hv
        rw [Go.Deep.add_add]
        exact (hI.out.wp.bl.cell (World.block_lt_of_cell? w _ h)).trans h
      have HI : Aside0 (PO w wr gb gw gw (fun _ => False) x A Y (some ad) bc yc ec pre) := ⟨by rw [hpre]; exact hI.out⟩
      have HZ := Aside0.mk (And.intro hcw (And.intro (ecells_fit h32) (And.intro h32 (And.intro hby (And.intro hnx (And.intro hnm2 (And.intro (show nm.size ≤ 255 by rw [hnm2]; exact hnm) (And.intro hpre hpl))))))))
      clear hcw h32 hcell hby hnx hen hnm hnm2 hI hpre hpl
      go_wp2_with (first
        | ((with_reducible refine gate_dst (N := 81) rfl ?_); refine Kd.event_run rfl (v := .agg (ecells en).toArray) (w1 := wr) ?hr ?_; (case hr => exact exec_load_any wr 76 (.tmp 80) rfl (ad.add (i * 34)) rfl (ecells en) _ HZ.out.1 Tryd.underlying76 rfl (by rw [ecells_len HZ.out.2.2.1]; kernel_rfl)))
        | ((with_reducible refine gate_dst (N := 9) rfl ?_); go_loud (refine Kd.event_run (v := .pointer (some ⟨wr.heap.size, 0, none⟩)) (w1 := wr.alloc (.cells ez34 76)) rfl ?hr ?_; (case hr => first | kernel_rfl | (go_simp; done) | (go_simp; rfl))))
        | ((with_reducible refine gate_store (ty := 76) (x := .tmp 9) (y := .tmp 81) rfl ?_); refine wpList_store_row rfl 76 (.tmp 9) (.tmp 81) rfl wr.heap.size (ecells en).toArray rfl rfl 76 ez34 (blk_new wr _) HZ.out.2.1.1 HZ.out.2.1.2.1 HZ.out.2.1.2.2 ?_; go_loud (refine wpName (fun W5 hW5 => ?_); obtain ⟨g9, hg9⟩ : ∃ g, g = wr.heap.size := ⟨_, rfl⟩; have hb5 : Below wr.heap.size wr W5 := (by rw [hW5]; exact below_setRow (below_alloc (Below.refl _ _) _) (Nat.le_refl _) _); have hr5 : EAt W5 g9 en := (by rw [hW5, hg9]; exact setRow_heap _ _ _ _ _ _ (blk_new wr _)); have H5 := Aside0.mk (show PO w W5 gb gw gw (fun k => k = g9) x A Y (some ad) bc yc ec pre ∧ EAt W5 g9 en from ⟨(HI.out.more hb5).less (fun k hk => .inr ⟨by rw [hk, hg9]; exact Nat.le_refl _, by rw [hk]; exact blk_lt hr5⟩), hr5⟩); rw [← hg9]; obtain ⟨b0, b1⟩ := ent_cells hr5; rw [← HZ.out.2.2.2.2.2.1] at b0; clear hW5 hb5 hr5 hg9))
        | ((with_reducible refine gate_dst (N := 85) rfl ?_); go_loud (refine str_event (s := nm) (w0 := W5) (base := W5.heap.size) rfl rfl rfl Tryd.underlying9 Tryd.underlying27 Tryd.underlying5 (by have := HZ.out.2.2.2.2.2.2.1; omega) (Below.refl _ _) (Nat.le_refl _) ?_; intro w8 c8 hb8 _ hc8 hs8 hC8 _; have H8 := Aside0.mk (show PO w w8 gb gw gw (fun k => k = g9 ∨ k = W5.heap.size) x A Y (some ad) bc yc ec pre ∧ EAt w8 g9 en ∧ Kd.C (Kd.int .u8) w8 (some ⟨W5.heap.size, 0, none⟩) nm.size (bytesOf nm) from ⟨(H5.out.1.more hb8).less (fun k hk => hk.imp id (fun h => ⟨by rw [h]; exact Nat.le_refl _, by rw [h]; exact hs8⟩)), H5.out.2.below hb8, hC8⟩); clear hb8 hc8 hs8 hC8))
        | (go_at_call 41; go_loud (refine (H8.out.1.wp.bytes (some ⟨W5.heap.size, 0, none⟩) nm.size c8 (ys := bytesOf nm) (Str.bytesOf_length nm).symm (fun W2 hk => by rw [Str.bytesOf_length]; exact Cod.C_kept H8.out.2.2 hk (fun ad e h => by cases e; exact h.2.2 (.inr rfl))) (by have h1 := HZ.out.2.2.2.2.2.2.1; have h2 := HZ.out.2.2.2.2.2.2.2.2; rw [Str.bytesOf_length]; omega) (bytesOf_byt nm)).mono ?_; rintro e w9 ⟨rfl, q⟩; have he9 := q.2.blk H8.out.2.1 (.inr (.inl rfl)); have H9 := Aside0.mk (And.intro (H8.out.1.of q) (show EAt w9 g9 en from he9)); obtain ⟨_, b1⟩ := ent_cells H9.out.2; clear q he9))
        | (go_at_call 61; go_loud (refine (H9.out.1.wp.bool en.d (by have h1 := HZ.out.2.2.2.2.2.2.1; have h2 := HZ.out.2.2.2.2.2.2.2.2; have h3 := (putNum_len ((bytesOf nm).length : Int)).1; simp only [List.length_append, Str.bytesOf_length] at h3 ⊢; omega)).mono ?_; rintro e w10 ⟨rfl, q⟩; have he10 := q.2.blk H9.out.2 (.inr (.inl rfl)); have H10 := Aside0.mk (And.intro (H9.out.1.of q) (show EAt w10 g9 en from he10)); clear q he10))
        | (go_at_call 60; go_loud (refine (H10.out.1.wp.fixed (some ⟨g9, 2, none⟩) 32 32 HZ.out.2.2.1.symm (ent_row H10.out.2 HZ.out.2.2.1) (by have h1 := HZ.out.2.2.2.2.2.2.1; have h2 := HZ.out.2.2.2.2.2.2.2.2; have h3 := (putNum_len ((bytesOf nm).length : Int)).1; have h4 := HZ.out.2.2.1; simp only [List.length_append, List.length_cons, List.length_nil, Str.bytesOf_length] at h3 ⊢; omega) HZ.out.2.2.2.1).mono ?_; rintro e w11 ⟨rfl, q⟩; have H11 := Aside0.mk ((H10.out.1.of q).less (Pr' := fun _ => False) (fun _ h => h.elim)); clear q)))
      go_roundg (el - (i + 1))
      case measure => omega
      case rel =>
        refine ⟨i + 1, by go_num, by omega, ⟨?_⟩⟩
        have h := H11.out
        rw [HZ.out.2.2.2.2.1, List.map_append, List.flatten_append, ← List.append_assoc, ← HZ.out.2.2.2.2.2.2.2.1]
        unfold entB
        rw [HZ.out.2.2.2.2.2.1, Str.bytesOf_length] at h
        simpa only [List.append_assoc, List.map_cons, List.map_nil, List.flatten_cons, List.flatten_nil, List.append_nil] using h
    · have d2 : decide ((i : Int) < (el : Int)) = false := decide_eq_false (by omega)
      have hlast : PO w wr gb gw gw (fun _ => False) x A Y E bc yc ec (putO x) := by
        have h := hI.out
        rw [List.take_of_length_le (by have := HB.out.2.2.2.1; omega)] at h
        rw [HB.out.2.1, ← HB.out.2.2.2.1]
        simpa only [List.append_assoc] using h
      have HL := Aside0.mk hlast
      clear hlast
      go_wp2_with (first
        | (go_at_call 42; go_loud (refine HL.out.wp.out.mono ?_; rintro e w9 ⟨v9, rfl, hv9, hb9⟩; have H9 := Aside0.mk (And.intro (Kd.R_lower hv9 HL.out.wp.bl.size) (below_step HL.out.wp.bl hb9)); clear hv9 hb9)))
      go_ret2
      exact ⟨_, rfl, H9.out.1, H9.out.2⟩
set_option maxRecDepth 100000 in
set_option maxHeartbeats 8000000 in
theorem oput_4 (hcs : OV cs x A Y E bc yc ec) (hI : InO w x A Y E) (h0 : errC x = 0) (hk : x.k = 4) :
    Calls Tryd.prog 30 #[.agg cs] w fun e w' => ∃ v, e = .returned (.tuple #[v, .int .i64 0]) ∧ Kd.R (Kd.int .u8) 5 w' w.heap.size (fun _ => True) v (putO x) ∧ Below w.heap.size w w' := by
  have HCS := Aside0.mk (And.intro hcs (And.intro hI h0))
  have HK := Aside0.mk hk
  have hput : putO x = putNum 4 ++ bodyO x := by unfold putO; rw [hk]
  have hwk : IntKind.u64.wrap (4 : Int) = 4 := rfl
  obtain ⟨hbl, hsl⟩ := ok_4 h0 hk
  have hbody : bodyO x = putNum x.n ++ x.ids.flatten ++ (putNum x.s.size ++ bytesOf x.s) := by unfold bodyO; rw [if_neg (by omega), if_neg (by omega), if_neg (by omega)]
  obtain ⟨ad, e0, h32, hcell⟩ := at_id hI.yC (i := 0) (by omega)
  cases e0
  obtain ⟨id, hid⟩ : ∃ id, id = x.ids.getD 0 [] := ⟨_, rfl⟩
  have hfl : x.ids.flatten = id := by
    have h := takeG [] (show 0 < x.ids.length by omega)
    rw [List.take_of_length_le (by omega), ← hid] at h
    rw [h]
    simp
  rw [← hid] at h32 hcell
  have hby : Byt id := by rw [hid]; exact hI.bi _ (memGet (by omega))
  rw [hfl] at hbody
  have HB := Aside0.mk (And.intro hbl (And.intro (hput.trans (by rw [hbody])) (And.intro hsl (And.intro h32 (And.intro hby hcell)))))
  clear hcs hI h0 hk hput hbl hbody h32 hcell hfl hid hby hsl
  go_enter Tryd.func30, Tryd.ntmps30
  go_wp2_with (first
    | ((with_reducible refine gate_dst (N := 1) rfl ?_); refine box_event ?hg (N := 1) ?hd (cs := cs) (t := 57) ?hr ?_; (case hd => rfl); (case hg => rfl); (case hr => exact exec_box _ _ _ rfl cs rfl); intro gb hgb w1 hbox hb1; have H1 := Aside0.mk (show OB w1 gb x A (some ad) E bc yc ec ∧ Below w.heap.size w w1 from And.intro (OB.of HCS.out.1 hbox) hb1); clear hbox hb1 hgb)
    | ((with_reducible refine gate_dst (N := 10) rfl ?_); refine Kd.event_run rfl (v := .agg cs) (w1 := w1) ?hr ?_; (case hr => exact H1.out.1.load HCS.out.1 (.tmp 1) rfl rfl))
    | (go_at_call 33; go_loud (have hx := ocheck_calls (w := w1) HCS.out.1 (Kd.C_below HCS.out.2.1.eC H1.out.2) HCS.out.2.1.el HCS.out.2.1.k; rw [HCS.out.2.2] at hx; refine hx.mono ?_; clear hx; rintro e w2 ⟨rfl, hb2⟩; have H2 := Aside0.mk (show OB w2 gb x A (some ad) E bc yc ec ∧ Below w.heap.size w w2 from And.intro (H1.out.1.below hb2) (below_step H1.out.2 hb2)); clear hb2))
    | (go_at_call 39; go_loud (refine (wp_new w w2 H2.out.2).mono ?_; rintro e w3 ⟨rfl, hp3, hb3⟩; obtain ⟨gw, hgw⟩ : ∃ g, g = w2.heap.size := ⟨_, rfl⟩; rw [← hgw] at hp3 ⊢; have H3 := Aside0.mk (show PO w w3 gb gw gw (fun _ => False) x A (some ad) E bc yc ec [] from ⟨H2.out.1.below hb3, by rw [hgw]; exact blk_lt H2.out.1, hp3⟩); have a0 := H3.out.ob.cells.1; rw [HK.out] at a0; clear hp3 hb3 hgw))
    | (go_at_call 40; have _t := H4; go_loud (clear _t; refine (H4.out.wp.uint x.n HCS.out.2.1.n.1 (by have := HCS.out.2.1.n.2; omega) (by have h1 := (putNum_len 4).1; omega)).mono ?_; rintro e w5 ⟨rfl, q⟩; have H5 := Aside0.mk (H4.out.of q); obtain ⟨_, _, _, a3, _, a5⟩ := H5.out.ob.cells; rw [HB.out.1] at a3; clear q))
    | (go_at_call 40; go_loud (refine (H3.out.wp.uint 4 (by omega) (by omega) (by simp)).mono ?_; rintro e w4 ⟨rfl, q⟩; have H4 := Aside0.mk (H3.out.of q); obtain ⟨a0, a1, a2, a3, a4, a5⟩ := H4.out.ob.cells; rw [HK.out] at a0; rw [List.nil_append] at H4; clear q))
    | (go_at_call 60; go_loud (refine (H5.out.wp.fixed (some ad) 32 32 HB.out.2.2.2.1.symm (cells_row (by have := HB.out.2.2.2.1; omega) (fun j v hj => by have h := HB.out.2.2.2.2.2 j v hj; rw [Nat.zero_mul, Nat.zero_add] at h; exact (H5.out.wp.bl.cell (World.block_lt_of_cell? w _ h)).trans h)) (by have h1 := (putNum_len 4).1; have h2 := (putNum_len x.n).1; have h3 := HB.out.2.2.2.1; simp only [List.length_append]; omega) HB.out.2.2.2.2.1).mono ?_; rintro e w6 ⟨rfl, q⟩; have H6 := Aside0.mk (H5.out.of q); obtain ⟨_, _, _, _, _, a5⟩ := H6.out.ob.cells; clear q))
    | ((with_reducible refine gate_dst (N := 36) rfl ?_); go_loud (refine str_event (s := x.s) (w0 := w6) (base := w6.heap.size) rfl rfl rfl Tryd.underlying9 Tryd.underlying27 Tryd.underlying5 (by have := HB.out.2.2.1; omega) (Below.refl _ _) (Nat.le_refl _) ?_; intro w8 c8 hb8 _ hc8 hs8 hC8 _; have H8 := Aside0.mk (show PO w w8 gb gw gw (fun k => k = w6.heap.size) x A (some ad) E bc yc ec _ ∧ Kd.C (Kd.int .u8) w8 (some ⟨w6.heap.size, 0, none⟩) x.s.size (bytesOf x.s) from ⟨(H6.out.more hb8).less (fun k hk => .inr ⟨by rw [hk]; exact Nat.le_refl _, by rw [hk]; exact hs8⟩), hC8⟩); clear hb8 hc8 hs8 hC8))
    | (go_at_call 41; go_loud (refine (H8.out.1.wp.bytes (some ⟨w6.heap.size, 0, none⟩) x.s.size c8 (ys := bytesOf x.s) (Str.bytesOf_length x.s).symm (fun W2 hk => by rw [Str.bytesOf_length]; exact Cod.C_kept H8.out.2 hk (fun ad e h => by cases e; exact h.2.2 rfl)) (by have h1 := HB.out.2.2.1; have h2 := (putNum_len 4).1; have h3 := (putNum_len x.n).1; have h4 := HB.out.2.2.2.1; simp only [List.length_append, Str.bytesOf_length]; omega) (bytesOf_byt x.s)).mono ?_; rintro e w9 ⟨rfl, q⟩; have HX := Aside0.mk (H8.out.1.of q); clear q))
    | (go_at_call 42; go_loud (refine HX.out.wp.out.mono ?_; rintro e w12 ⟨v12, rfl, hv12, hb9⟩; have H12 := Aside0.mk (And.intro (Kd.R_lower hv12 HX.out.wp.bl.size) (below_step HX.out.wp.bl hb9)); clear hv12 hb9)))
  go_ret2
  refine ⟨v12, rfl, ?_, H12.out.2⟩
  rw [HB.out.2.1]
  have h := H12.out.1
  rw [Str.bytesOf_length] at h
  simpa only [List.append_assoc] using h
theorem err_or (x : OM) : errC x = 0 ∨ errC x = 1 := by
  unfold errC
  split
  · exact .inl rfl
  · exact .inr rfl
theorem oput_ok (hcs : OV cs x A Y E bc yc ec) (hI : InO w x A Y E) (h0 : errC x = 0) :
    Calls Tryd.prog 30 #[.agg cs] w fun e w' => ∃ v, e = .returned (.tuple #[v, .int .i64 0]) ∧ Kd.R (Kd.int .u8) 5 w' w.heap.size (fun _ => True) v (putO x) ∧ Below w.heap.size w w' := by
  have h1 := err_0 h0
  unfold checkO at h1
  by_cases k1 : x.k = 1
  · exact oput_1 hcs hI h0 k1
  by_cases k2 : x.k = 2
  · exact oput_2 hcs hI h0 k2
  by_cases k3 : x.k = 3
  · exact oput_3 hcs hI h0 k3
  by_cases k4 : x.k = 4
  · exact oput_4 hcs hI h0 k4
  · rw [if_neg k1, if_neg k2, if_neg k3, if_neg k4] at h1
    cases h1
set_option maxRecDepth 100000 in
set_option maxHeartbeats 8000000 in
theorem oput_no (hcs : OV cs x A Y E bc yc ec) (hI : InO w x A Y E) (h0 : errC x = 1) :
    Calls Tryd.prog 30 #[.agg cs] w fun e w' => ∃ v, e = .returned (.tuple #[v, .int .i64 1]) ∧ Kd.R (Kd.int .u8) 5 w' w.heap.size (fun _ => True) v [] ∧ Below w.heap.size w w' := by
  have HCS := Aside0.mk (And.intro hcs (And.intro hI h0))
  clear hcs hI h0
  go_enter Tryd.func30, Tryd.ntmps30
  go_wp2_with (first
    | ((with_reducible refine gate_dst (N := 1) rfl ?_); refine box_event ?hg (N := 1) ?hd (cs := cs) (t := 57) ?hr ?_; (case hd => rfl); (case hg => rfl); (case hr => exact exec_box _ _ _ rfl cs rfl); intro gb hgb w1 hbox hb1; have H1 := Aside0.mk (show OB w1 gb x A Y E bc yc ec ∧ Below w.heap.size w w1 from And.intro (OB.of HCS.out.1 hbox) hb1); clear hbox hb1 hgb)
    | ((with_reducible refine gate_dst (N := 10) rfl ?_); refine Kd.event_run rfl (v := .agg cs) (w1 := w1) ?hr ?_; (case hr => exact H1.out.1.load HCS.out.1 (.tmp 1) rfl rfl))
    | (go_at_call 33; go_loud (have hx := ocheck_calls (w := w1) HCS.out.1 (Kd.C_below HCS.out.2.1.eC H1.out.2) HCS.out.2.1.el HCS.out.2.1.k; rw [HCS.out.2.2] at hx; refine hx.mono ?_; clear hx; rintro e w2 ⟨rfl, hb2⟩; have H2 := Aside0.mk (below_step H1.out.2 hb2); clear hb2)))
  go_ret2
  exact ⟨_, rfl, Kd.R_nil _ _ _ _ _, H2.out⟩
theorem oput_calls (hcs : OV cs x A Y E bc yc ec) (hI : InO w x A Y E) :
    Calls Tryd.prog 30 #[.agg cs] w fun e w' => ∃ v, e = .returned (.tuple #[v, .int .i64 (errC x)]) ∧ Kd.R (Kd.int .u8) 5 w' w.heap.size (fun _ => True) v (if errC x = 0 then putO x else []) ∧ Below w.heap.size w w' := by
  rcases err_or x with h | h
  · rw [h, if_pos rfl]; exact oput_ok hcs hI h
  · rw [h, if_neg (by decide)]; exact oput_no hcs hI h
end
end Go.Proofs.YtgjdcdhfijkoiaaDoor.Obj
end
