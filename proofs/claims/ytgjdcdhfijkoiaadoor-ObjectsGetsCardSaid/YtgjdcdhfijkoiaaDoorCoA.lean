/- Memory that is owned piece by piece: what a call keeps, sets of blocks that are apart, bytes as cells. -/
import Derived.Test.YtgjdcdhfijkoiaaDoorProg
import Derived.Test.YtgjdcdhfijkoiaaDoorWWa
import Derived.Lib.Bytes
import Derived.Laws.CopyOwn
import Derived.Lib.SliceRun
import Derived.Deep.DeepMust
import Derived.Laws.Rows
section
namespace Go.Proofs.YtgjdcdhfijkoiaaDoor.Mem
open Go.RowKit Go.Proofs.YtgjdcdhfijkoiaaDoorW.PrintWords Go.Proofs.YtgjdcdhfijkoiaaDoorW.PrintLast Go.Proofs.YtgjdcdhfijkoiaaDoorW.PrintMore
set_option linter.unusedVariables false
set_option linter.unusedSimpArgs false

/-! ### sets of blocks -/
/-- Nothing is in both. -/
def Apart (F G : Nat → Prop) : Prop := ∀ k, F k → ¬ G k
theorem Apart.symm {F G : Nat → Prop} (h : Apart F G) : Apart G F := fun k hg hf => h k hf hg
/-- All of it lies from 'base' on and below the heap's end. -/
def In (base : Nat) (w : World) (F : Nat → Prop) : Prop := ∀ k, F k → base ≤ k ∧ k < w.heap.size
/-- What was there, or is new since w. -/
def Or (F : Nat → Prop) (w : World) : Nat → Prop := fun k => F k ∨ w.heap.size ≤ k
theorem Apart.or {F G : Nat → Prop} {w : World} {b : Nat} (h : Apart F G) (hg : In b w G) : Apart (Or F w) G := by
  intro k hk hgk
  rcases hk with hk | hk
  · exact h k hk hgk
  · have := (hg k hgk).2; omega
theorem In.mono {b : Nat} {w w' : World} {F : Nat → Prop} (h : In b w F) (hs : w.heap.size ≤ w'.heap.size) : In b w' F := fun k hk => ⟨(h k hk).1, by have := (h k hk).2; omega⟩
/-- A set's part that lies in a world, from base on. -/
def Cut (base : Nat) (w : World) (F : Nat → Prop) : Nat → Prop := fun k => F k ∧ base ≤ k ∧ k < w.heap.size
theorem In.cut (base : Nat) (w : World) (F : Nat → Prop) : In base w (Cut base w F) := fun k hk => hk.2
theorem Apart.new {b : Nat} {w : World} {F G : Nat → Prop} (hf : In b w F) (hg : ∀ k, G k → w.heap.size ≤ k) : Apart F G := fun k h1 h2 => by
  have := (hf k h1).2
  have := hg k h2
  omega

/-! ### bytes as cells -/
def bc (s : ByteArray) : List Value := nums .u8 (bytesOf s)
def Byt (l : List Int) : Prop := ∀ x ∈ l, 0 ≤ x ∧ x ≤ 255
theorem byt_of_wf {l : List Int} (h : ∀ x ∈ l, (Lit.int .u8 x).wf = true) : Byt l := fun x hx => by
  simpa [Lit.wf, IntKind.min, IntKind.max, IntKind.signed, IntKind.bits] using h x hx
theorem bytesOf_str {l : List Int} (h : Byt l) : bytesOf (strOfNums l) = l := by
  unfold bytesOf
  rw [strOfNums_data, List.map_map]
  conv => rhs; rw [← List.map_id l]
  apply List.map_congr_left
  intro x hx
  have := h x hx
  simp only [Function.comp, UInt8.toNat_ofNat', id]
  omega
theorem str_bytesOf (s : ByteArray) : strOfNums (bytesOf s) = s := by
  apply ByteArray.ext
  apply Array.ext'
  show (strOfNums (bytesOf s)).data.toList = s.data.toList
  rw [strOfNums_data]
  unfold bytesOf
  rw [List.map_map]
  conv => rhs; rw [← List.map_id s.data.toList]
  apply List.map_congr_left
  intro x hx
  simp
/-! ### slices.Clone -/
theorem C_nil_list {α : Type} {d : Kd α} {w : World} {n : Nat} {xs : List α} (h : d.C w none n xs) : xs = [] := by
  rcases Nat.eq_zero_or_pos n with hz | hz
  · exact List.eq_nil_of_length_eq_zero (by rw [h.1, hz])
  · obtain ⟨ad, e, _⟩ := h.2.2 hz
    cases e
theorem info_u8 : (Tryd.prog.info? 5).map (fun i => (i.zero, i.size, i.bytes)) = some (some (.int .u8 0), 1, 1) := by kernel_rfl

set_option maxHeartbeats 1000000 in
/-- 's' in new memory; nil is handed back as nil, and nothing else is. -/
theorem clone_calls (A : Option Addr) (c : Nat) (xs : List Int) (w : World) (hr : Kd.C (Kd.int .u8) w A xs.length xs) (hc : xs.length ≤ c) (hl : xs.length < 140737488355328) :
    Calls Tryd.prog 72 #[.slice A xs.length c] w fun e w' => ∃ v : Value, e = .returned v ∧ Kd.R (Kd.int .u8) 5 w' w.heap.size (fun _ => True) v xs ∧ Below w.heap.size w w' ∧ (A = none → v = .slice none 0 0) ∧ (A ≠ none → v ≠ .slice none 0 0) := by
  have HR := Aside0.mk hr
  have HL := Aside0.mk hl
  clear hr hl hc
  rcases A with _ | ad
  · have HE := Aside0.mk (C_nil_list HR.out)
    have hq := fun W => Lib.run_eql_slice_nil (P := Tryd.prog) W 27 5 none xs.length c 0 0 Tryd.underlying27
    go_enter Tryd.func72, Tryd.ntmps72
    go_wp2
    go_ret
    exact ⟨_, rfl, by rw [HE.out]; exact Kd.R_nil _ _ _ _ _, Below.refl _ _, fun _ => rfl, fun h => absurd rfl h⟩
  · have hq := fun W => Lib.run_eql_slice_nil (P := Tryd.prog) W 27 5 (some ad) xs.length c 0 0 Tryd.underlying27
    go_enter Tryd.func72, Tryd.ntmps72
    go_wp2_with (first | ((with_reducible refine gate_dst (N := 5) rfl ?_); refine Kd.R_lit (Kd.int .u8) _ 5 ?hg (N := 5) ?hd (xs := ([] : List Int)) (inner := []) (ok := fun _ => True) (okp := fun _ => True) ?hr ?hp (fun _ hk => hk) trivial (Below.refl _ _) (Nat.le_refl _) (by simp) ?_; (case hd => rfl); (case hg => rfl); (case hr => first | (go_simp; done) | (go_simp; rfl)); (case hp => exact (Reps.none _ _)); intro v1 w1 ho1 hb1 hg_ hnew_; have HO := Aside0.mk ho1; have HB := Aside0.mk hb1; have HN := Aside0.mk hnew_; clear hg_ hnew_ ho1 hb1) | ((with_reducible refine gate_builtin (b := .append) (xs := #[.tmp 5, .tmp 6]) rfl ?_); at_builtin; refine Kd.R_append_rows (Kd.int .u8) (w0 := w) w.heap.size rfl (.tmp 5) (.tmp 6) 27 5 (.int .u8 0) 1 rfl Tryd.underlying27 info_u8 rfl (by decide) (by omega) _ [] xs _ _ _ (fun _ => True) (fun _ => False) rfl rfl HO.out (Kd.C_below HR.out HB.out) (fun _ _ h => h) (fun _ h => h.elim) (fun _ _ => trivial) HB.out (below_size HB.out) ?aL ?_; (case aL => have := HL.out; simp only [List.length_nil]; omega); intro v2 w2 ho2 hb2 hg2 hat2; have HO2 := Aside0.mk ho2; have HB2 := Aside0.mk hb2; have HA2 := Aside0.mk hat2; clear ho2 hb2 hg2 hat2))
    go_ret
    refine ⟨_, rfl, by simpa using HO2.out, HB2.out, fun h => (by cases h), fun _ hv => ?_⟩
    subst hv
    obtain ⟨b, hb, _⟩ := HN.out
    rcases HA2.out with h | ⟨b2, h, _⟩
    · have h' : (Value.slice none 0 0).ownBlock = v1.ownBlock := h
      rw [hb] at h'
      cases h'
    · cases h

theorem clone_n {n : Nat} (A : Option Addr) (c : Nat) (xs : List Int) (w : World) (hn : xs.length = n) (hr : Kd.C (Kd.int .u8) w A xs.length xs) (hc : n ≤ c) (hl : n < 140737488355328) :
    Calls Tryd.prog 72 #[.slice A n c] w fun e w' => ∃ v : Value, e = .returned v ∧ Kd.R (Kd.int .u8) 5 w' w.heap.size (fun _ => True) v xs ∧ Below w.heap.size w w' ∧ (A = none → v = .slice none 0 0) ∧ (A ≠ none → v ≠ .slice none 0 0) := by
  subst hn
  exact clone_calls A c xs w hr hc hl

/-! ### copy, as an event -/
section
variable {P : Program} {ops : Array Oper} {rest : List Oper} {o : Oper} {a : Act} {Q : Exit → Act → World → Prop}
end

/-! ### bytes, cut and put together -/
theorem bytesOf_extract (s : ByteArray) (a b : Nat) : bytesOf (s.extract a b) = ((bytesOf s).take b).drop a := by
  unfold bytesOf
  rw [← List.map_take, ← List.map_drop]
  congr 1
  have h := Lib.extract_data s a b
  rw [h, List.drop_take]
end Go.Proofs.YtgjdcdhfijkoiaaDoor.Mem
end
section
namespace Go.Proofs.YtgjdcdhfijkoiaaDoor.Cod
open Go.RowKit Go.Proofs.YtgjdcdhfijkoiaaDoorW.PrintWords Go.Proofs.YtgjdcdhfijkoiaaDoorW.PrintLast Go.Proofs.YtgjdcdhfijkoiaaDoorW.PrintMore Go.Proofs.YtgjdcdhfijkoiaaDoor.Mem
set_option linter.unusedVariables false
set_option linter.unusedSimpArgs false

/-- A reader's state: the bytes that are left, the first error. -/
structure RM where
  b : List Int
  e : Int

/-- The reader behind a pointer to block g; it lies in F. -/
def RdAt (w : World) (F : Nat → Prop) (g : Nat) (R : RM) : Prop :=
  ∃ A c, F g ∧ (∀ ad, A = some ad → F ad.block ∧ ad.block ≠ g) ∧ w.heap[g]? = some (.cells #[.slice A R.b.length c, .int .i64 R.e] 130 (0, 0)) ∧ Kd.C (Kd.int .u8) w A R.b.length R.b ∧ R.b.length ≤ c ∧ R.b.length < 140737488355328 ∧ c ≤ 9223372036854775807 ∧ Byt R.b

theorem C_kept {w w' : World} {S : Nat → Prop} {A : Option Addr} {n : Nat} {xs : List Int} (h : Kd.C (Kd.int .u8) w A n xs) (hk : Kept w w' S) (hs : ∀ ad, A = some ad → ¬ S ad.block) : Kd.C (Kd.int .u8) w' A n xs := by
  refine ⟨h.1, h.2.1, fun hn => ?_⟩
  obtain ⟨ad, e, hc⟩ := h.2.2 hn
  refine ⟨ad, e, fun j p hj => ?_⟩
  obtain ⟨cs, h1, h2, h3⟩ := hc j p hj
  refine ⟨cs, h1, h2, fun i u hu => ?_⟩
  have hb : (ad.add (j * (Kd.int IntKind.u8).sz + i)).block = ad.block := by unfold Addr.add; split <;> rfl
  exact cell_kept (h3 i u hu) hk (by rw [hb]; exact hs ad e)

theorem RdAt.kept {w w' : World} {F S : Nat → Prop} {g : Nat} {R : RM} (h : RdAt w F g R) (hk : Kept w w' S) (ha : Apart F S) : RdAt w' F g R := by
  obtain ⟨A, c, h1, h2, h3, h4, h5⟩ := h
  exact ⟨A, c, h1, h2, blk_kept h3 hk (ha g h1), C_kept h4 hk (fun ad e => ha _ (h2 ad e).1), h5⟩
theorem RdAt.below {w w' : World} {F : Nat → Prop} {g : Nat} {R : RM} (h : RdAt w F g R) (hb : Below w.heap.size w w') : RdAt w' F g R := h.kept (Kept.of_below hb (fun _ => False)) (fun _ _ h => h)

def RM.fail (R : RM) (e : Int) : RM := if R.e = 0 then { R with e := e } else R

section
variable {w : World} {F : Nat → Prop} {g : Nat} {R : RM}
theorem err_calls (hd : RdAt w F g R) : Calls Tryd.prog 51 #[.pointer (some ⟨g, 0, none⟩)] w fun e w' => e = .returned (.int .i64 R.e) ∧ w = w' := by
  obtain ⟨A, c, _, _, h3, _⟩ := hd
  have c1 : w.cell? ⟨g, 1, none⟩ = some (.int .i64 R.e) := (blk_cell h3 1).trans rfl
  clear h3
  go_enter Tryd.func51, Tryd.ntmps51
  go_wp2
  go_ret
  exact ⟨rfl, rfl⟩
theorem rd_set {A : Option Addr} {c : Nat} {x : Int} (h1 : F g) (h2 : ∀ ad, A = some ad → F ad.block ∧ ad.block ≠ g) (h3 : w.heap[g]? = some (.cells #[.slice A R.b.length c, .int .i64 R.e] 130 (0, 0))) (h4 : Kd.C (Kd.int .u8) w A R.b.length R.b) (h5 : R.b.length ≤ c ∧ R.b.length < 140737488355328 ∧ c ≤ 9223372036854775807 ∧ Byt R.b) :
    RdAt (w.setCell ⟨g, 1, none⟩ (.int .i64 x)) F g ⟨R.b, x⟩ := by
  refine ⟨A, c, h1, h2, by simpa using blk_set h3 1 (.int .i64 x), ?_, h5⟩
  exact C_kept h4 ((Kept.refl w (fun k => k = g)).setCell (p := ⟨g, 1, none⟩) (.inl rfl) _) (fun ad e => (h2 ad e).2)
theorem fail_calls {w0 : World} (hB : Below w0.heap.size w0 w) (hF : ∀ k, F k → w0.heap.size ≤ k) (hd : RdAt w F g R) (x : Int) :
    Calls Tryd.prog 75 #[.pointer (some ⟨g, 0, none⟩), .int .i64 x] w fun e w' => e = .returned (.tuple #[]) ∧ RdAt w' F g (R.fail x) ∧ Below w0.heap.size w0 w' ∧ Kept w w' (fun k => k = g) := by
  obtain ⟨A, c, h1, h2, h3, h4, h5⟩ := hd
  have hd : RdAt w F g R := ⟨A, c, h1, h2, h3, h4, h5⟩
  have c1 : w.cell? ⟨g, 1, none⟩ = some (.int .i64 R.e) := (blk_cell h3 1).trans rfl
  have f1 : w.frozen? ⟨g, 1, none⟩ = false := blk_frozen h3 1
  have hz := rd_set (x := x) h1 h2 h3 h4 h5
  have HX := Aside0.mk (And.intro hd (And.intro hz (And.intro hB (hF g h1))))
  clear hd hz hB hF h1 h2 h3 h4 h5
  obtain ⟨e, he⟩ : ∃ e, e = R.e := ⟨_, rfl⟩
  rw [← he] at c1
  have HE := Aside0.mk he
  clear he
  by_cases h : e = 0
  · subst h
    go_enter Tryd.func75, Tryd.ntmps75
    go_wp2
    go_end0
    refine ⟨rfl, ?_, below_set HX.out.2.2.1 HX.out.2.2.2, (Kept.refl w (fun k => k = g)).setCell (p := ⟨g, 1, none⟩) (.inl rfl) _⟩
    unfold RM.fail
    rw [if_pos HE.out.symm]
    exact HX.out.2.1
  · have hb : (e == 0) = false := beq_eq_false_iff_ne.2 h
    go_enter Tryd.func75, Tryd.ntmps75
    go_wp2
    go_end0
    refine ⟨rfl, ?_, HX.out.2.2.1, Kept.refl _ _⟩
    unfold RM.fail
    rw [if_neg (by rw [← HE.out]; exact h)]
    exact HX.out.1

/-! ### take -/
theorem take_err (hd : RdAt w F g R) (he : R.e ≠ 0) (n : Int) : Calls Tryd.prog 74 #[.pointer (some ⟨g, 0, none⟩), .int .i64 n] w fun e w' => e = .returned (.slice none 0 0) ∧ w = w' := by
  have h1 := err_calls hd
  obtain ⟨q, hq⟩ : ∃ q, q = R.e := ⟨_, rfl⟩
  rw [← hq] at h1 he
  clear hq hd
  have hb : (q != 0) = true := bne_iff_ne.2 he
  go_enter Tryd.func74, Tryd.ntmps74
  go_wp2_with (go_at_call 51; refine h1.mono ?_; rintro e w' ⟨rfl, rfl⟩)
  go_ret
  exact ⟨rfl, rfl⟩
theorem take_neg {w0 : World} (hB : Below w0.heap.size w0 w) (hF : ∀ k, F k → w0.heap.size ≤ k) (hd : RdAt w F g R) (he : R.e = 0) (n : Int) (hn : n < 0) :
    Calls Tryd.prog 74 #[.pointer (some ⟨g, 0, none⟩), .int .i64 n] w fun e w' => e = .returned (.slice none 0 0) ∧ RdAt w' F g ⟨R.b, 1⟩ ∧ Below w0.heap.size w0 w' ∧ Kept w w' (fun k => k = g) := by
  have h1 := err_calls hd
  rw [he] at h1
  have h2 := fail_calls hB hF hd 1
  rw [show R.fail 1 = ⟨R.b, 1⟩ by unfold RM.fail; rw [if_pos he]] at h2
  clear he hd hB hF
  have hb : decide (n < 0) = true := decide_eq_true hn
  go_enter Tryd.func74, Tryd.ntmps74
  go_wp2_with (first | (go_at_call 51; refine h1.mono ?_; rintro e w' ⟨rfl, rfl⟩) | (go_at_call 75; refine h2.mono ?_; rintro e w1 ⟨rfl, h3, h4, h5⟩; have H := Aside0.mk (And.intro h3 (And.intro h4 h5)); clear h3 h4 h5))
  go_ret
  exact ⟨rfl, H.out⟩
theorem take_short {w0 : World} (hB : Below w0.heap.size w0 w) (hF : ∀ k, F k → w0.heap.size ≤ k) (hd : RdAt w F g R) (he : R.e = 0) (n : Int) (hn : (R.b.length : Int) < n) :
    Calls Tryd.prog 74 #[.pointer (some ⟨g, 0, none⟩), .int .i64 n] w fun e w' => e = .returned (.slice none 0 0) ∧ RdAt w' F g ⟨R.b, 10⟩ ∧ Below w0.heap.size w0 w' ∧ Kept w w' (fun k => k = g) := by
  have h1 := err_calls hd
  rw [he] at h1
  have h2 := fail_calls hB hF hd 10
  rw [show R.fail 10 = ⟨R.b, 10⟩ by unfold RM.fail; rw [if_pos he]] at h2
  obtain ⟨A, c, _, _, h3, _⟩ := hd
  have c0 : w.cell? ⟨g, 0, none⟩ = some (.slice A R.b.length c) := (blk_cell h3 0).trans rfl
  clear he hB hF h3
  obtain ⟨m, hm⟩ : ∃ m, m = R.b.length := ⟨_, rfl⟩
  rw [← hm] at c0 hn
  clear hm
  have hb : decide (n < 0) = false := decide_eq_false (by omega)
  have hb : decide ((m : Int) < n) = true := decide_eq_true hn
  go_enter Tryd.func74, Tryd.ntmps74
  go_wp2_with (first | (go_at_call 51; refine h1.mono ?_; rintro e w' ⟨rfl, rfl⟩) | (go_at_call 75; refine h2.mono ?_; rintro e w1 ⟨rfl, h3, h4, h5⟩; have H := Aside0.mk (And.intro h3 (And.intro h4 h5)); clear h3 h4 h5))
  go_ret
  exact ⟨rfl, H.out⟩
theorem info_u8s : (Tryd.prog.info? 5).map (·.size) = some 1 := by kernel_rfl
theorem cut_two (A : Option Addr) (n c : Nat) (j : Nat) (hm : j ≤ c) :
    ∀ W : World, (Instr.slice 27 (.slice A n c) none (some (.int .i64 (j : Int))) (some (.int .i64 (j : Int)))).run Tryd.prog W = .ok (.slice A j j) W := by
  intro W
  obtain ⟨i, hi, hz⟩ := Option.map_eq_some_iff.1 info_u8s
  have hel : Tryd.prog.elem 27 = 5 := by simp [Program.elem, Tryd.underlying27]
  have hu : Tryd.prog.underlying 27 = some (.slice (Tryd.prog.elem 27)) := by rw [hel]; exact Tryd.underlying27
  have ha : (A.map fun x => x.add 0) = A := by cases A <;> simp [Addr.add]
  simp [Instr.slice, run_underlying hu, Instr.sliceBounds, run_sliceBound, hm, hel, sizeOf, typeInfo, hi]
  exact fun _ => ha
theorem cut_rest (A : Option Addr) (n c : Nat) (j : Nat) (hm : j ≤ n) :
    ∀ W : World, (Instr.slice 27 (.slice A n c) (some (.int .i64 (j : Int))) none none).run Tryd.prog W = .ok (.slice (if c = j then A else A.map (·.add (j * 1))) (n - j) (c - j)) W := by
  obtain ⟨i, hi, hz⟩ := Option.map_eq_some_iff.1 info_u8s
  have h := cut_from (P := Tryd.prog) 27 5 .i64 Tryd.underlying27 hi 1 hz A n c (j : Int) (by omega) (by omega)
  simpa using h
theorem add_block (a : Addr) (i : Nat) : (a.add i).block = a.block := by unfold Addr.add; split <;> rfl
set_option maxRecDepth 100000 in
theorem take_ok {w0 : World} (hB : Below w0.heap.size w0 w) (hF : ∀ k, F k → w0.heap.size ≤ k) (hd : RdAt w F g R) (he : R.e = 0) (n : Nat) (hn : n ≤ R.b.length) :
    Calls Tryd.prog 74 #[.pointer (some ⟨g, 0, none⟩), .int .i64 n] w fun e w' => ∃ A, e = .returned (.slice A n n) ∧ (∀ ad, A = some ad → F ad.block ∧ ad.block ≠ g) ∧ Kd.C (Kd.int .u8) w' A (R.b.take n).length (R.b.take n) ∧ RdAt w' F g ⟨R.b.drop n, 0⟩ ∧ Below w0.heap.size w0 w' ∧ Kept w w' (fun k => k = g) := by
  have h1 := err_calls hd
  rw [he] at h1
  obtain ⟨A, c, hf, ha, h3, h4, hc, hl, hx, hy⟩ := hd
  have c0 : w.cell? ⟨g, 0, none⟩ = some (.slice A R.b.length c) := (blk_cell h3 0).trans rfl
  have f0 : w.frozen? ⟨g, 0, none⟩ = false := blk_frozen h3 0
  have hs1 := cut_two A R.b.length c n (by omega)
  have hs2 := cut_rest A R.b.length c n (by omega)
  have hct := Kd.C_take h4 hn
  have hcd := Kd.C_drop (c := c) h4 hn hc
  have ha2 : ∀ ad, (if c = n then A else A.map (·.add (n * 1))) = some ad → F ad.block ∧ ad.block ≠ g := by
    intro ad hq
    split at hq
    · exact ha ad hq
    · obtain ⟨a0, h0, rfl⟩ := Option.map_eq_some_iff.1 hq
      rw [add_block]
      exact ha a0 h0
  obtain ⟨A2, hA2⟩ : ∃ A2, A2 = (if c = n then A else A.map (·.add (n * 1))) := ⟨_, rfl⟩
  rw [← hA2] at hs2 ha2
  have hcd2 : Kd.C (Kd.int .u8) w A2 (R.b.drop n).length (R.b.drop n) := by rw [hA2]; exact hcd
  have HX := Aside0.mk (And.intro hf (And.intro ha (And.intro h3 (And.intro hct (And.intro hcd2 (And.intro ha2 (And.intro hB hF)))))))
  have HY := Aside0.mk (And.intro hc (And.intro hl (And.intro hx (And.intro hy (And.intro he hn)))))
  clear he hB hF h3 hf ha h4 hy hct hcd hcd2 hA2 ha2
  obtain ⟨m, hm⟩ : ∃ m, m = R.b.length := ⟨_, rfl⟩
  rw [← hm] at c0 hn hc hl hs1 hs2
  have HM := Aside0.mk hm
  clear hm
  have hb : decide ((n : Int) < 0) = false := decide_eq_false (by omega)
  have hb2 : decide ((m : Int) < (n : Int)) = false := decide_eq_false (by omega)
  have hb3 : decide (m < n) = false := decide_eq_false (by omega)
  go_enter Tryd.func74, Tryd.ntmps74
  go_wp2_with (first | (go_at_call 51; refine h1.mono ?_; rintro e w' ⟨rfl, rfl⟩))
  go_ret
  obtain ⟨hf, ha, h3, hct, hcd2, ha2, hB, hF⟩ := HX.out
  obtain ⟨hc', hl', hx', hy, he, hn'⟩ := HY.out
  have hk := (Kept.refl w (fun k => k = g)).setCell (p := ⟨g, 0, none⟩) (.inl rfl) (.slice A2 (m - n) (c - n))
  refine ⟨A, rfl, ha, C_kept hct hk (fun ad e => (ha ad e).2), ⟨A2, c - n, hf, ha2, ?_, C_kept hcd2 hk (fun ad e => (ha2 ad e).2), ?_, ?_, ?_, fun x hx => hy x (List.mem_of_mem_drop hx)⟩, below_set hB (hF g hf), hk⟩
  · have h := blk_set h3 0 (.slice A2 (m - n) (c - n))
    rw [HM.out, he] at h
    simpa [HM.out] using h
  · simp only [List.length_drop]; omega
  · simp only [List.length_drop]; omega
  · omega

/-! ### take, whatever comes of it; Fixed -/
def RM.fixed (R : RM) (n : Int) : RM × List Int := if R.e ≠ 0 then (R, []) else if n < 0 then (⟨R.b, 1⟩, []) else if (R.b.length : Int) < n then (⟨R.b, 10⟩, []) else (⟨R.b.drop n.toNat, 0⟩, R.b.take n.toNat)
theorem take_any {w0 : World} (hB : Below w0.heap.size w0 w) (hF : ∀ k, F k → w0.heap.size ≤ k) (hd : RdAt w F g R) (n : Int) :
    Calls Tryd.prog 74 #[.pointer (some ⟨g, 0, none⟩), .int .i64 n] w fun e w' => ∃ A k c, e = .returned (.slice A k c) ∧ k = (R.fixed n).2.length ∧ k ≤ c ∧ k < 140737488355328 ∧ (∀ ad, A = some ad → F ad.block ∧ ad.block ≠ g) ∧ Kd.C (Kd.int .u8) w' A (R.fixed n).2.length (R.fixed n).2 ∧ RdAt w' F g (R.fixed n).1 ∧ Below w0.heap.size w0 w' ∧ Kept w w' (fun k => k = g) := by
  have hno : ∀ ad : Addr, (none : Option Addr) = some ad → F ad.block ∧ ad.block ≠ g := fun ad e => by cases e
  by_cases he : R.e = 0
  · by_cases hn : n < 0
    · have hq : R.fixed n = (⟨R.b, 1⟩, []) := by unfold RM.fixed; rw [if_neg (by simpa using he), if_pos hn]
      rw [hq]
      refine (take_neg hB hF hd he n hn).mono ?_
      rintro e w' ⟨rfl, h⟩
      exact ⟨none, 0, 0, rfl, rfl, Nat.le_refl _, by omega, hno, Kd.C_nil _ _, h⟩
    · by_cases hs : (R.b.length : Int) < n
      · have hq : R.fixed n = (⟨R.b, 10⟩, []) := by unfold RM.fixed; rw [if_neg (by simpa using he), if_neg hn, if_pos hs]
        rw [hq]
        refine (take_short hB hF hd he n hs).mono ?_
        rintro e w' ⟨rfl, h⟩
        exact ⟨none, 0, 0, rfl, rfl, Nat.le_refl _, by omega, hno, Kd.C_nil _ _, h⟩
      · have hq : R.fixed n = (⟨R.b.drop n.toNat, 0⟩, R.b.take n.toNat) := by unfold RM.fixed; rw [if_neg (by simpa using he), if_neg hn, if_neg hs]
        rw [hq]
        obtain ⟨m, rfl⟩ := Int.eq_ofNat_of_zero_le (show 0 ≤ n by omega)
        have hl : R.b.length < 140737488355328 := by obtain ⟨A, c, _, _, _, _, _, h, _⟩ := hd; exact h
        refine (take_ok hB hF hd he m (by omega)).mono ?_
        rintro e w' ⟨A, rfl, h1, h2, h3⟩
        refine ⟨A, m, m, rfl, ?_, Nat.le_refl _, by omega, h1, h2, h3⟩
        rw [Int.toNat_natCast, List.length_take]
        omega
  · have hq : R.fixed n = (R, []) := by unfold RM.fixed; rw [if_pos he]
    rw [hq]
    refine (take_err hd he n).mono ?_
    rintro e w' ⟨rfl, rfl⟩
    exact ⟨none, 0, 0, rfl, rfl, Nat.le_refl _, by omega, hno, Kd.C_nil _ _, hd, hB, Kept.refl _ _⟩
theorem fixed_calls {w0 : World} (hB : Below w0.heap.size w0 w) (hF : ∀ k, F k → w0.heap.size ≤ k) (hd : RdAt w F g R) (n : Int) :
    Calls Tryd.prog 76 #[.pointer (some ⟨g, 0, none⟩), .int .i64 n] w fun e w' => ∃ v, e = .returned v ∧ Kd.R (Kd.int .u8) 5 w' w.heap.size (fun _ => True) v (R.fixed n).2 ∧ RdAt w' F g (R.fixed n).1 ∧ Below w0.heap.size w0 w' ∧ Kept w w' (fun k => k = g) := by
  have h1 := Aside0.mk (take_any hB hF hd n)
  clear hB hF hd
  go_enter Tryd.func76, Tryd.ntmps76
  go_wp2_with (first | (go_at_call 74; go_loud (refine h1.out.mono ?_; rintro e w1 ⟨A, k, c, rfl, hk, hkc, hkm, _, hC, hd, hB, hK⟩; have HX := Aside0.mk (And.intro hk (And.intro hkc (And.intro hkm (And.intro hC (And.intro hd (And.intro hB hK)))))); clear hk hkc hkm hC hd hB hK)) | (go_at_call 72; go_loud (refine (clone_n A c (R.fixed n).2 _ HX.out.1.symm HX.out.2.2.2.1 HX.out.2.1 HX.out.2.2.1).mono ?_; rintro e w2 ⟨v, rfl, hv, hb, _⟩; have HV := Aside0.mk (And.intro hv hb); clear hv hb)))
  go_ret
  obtain ⟨_, _, _, _, hd, hB, hK⟩ := HX.out
  obtain ⟨hv, hb⟩ := HV.out
  exact ⟨_, rfl, Kd.R_lower hv hK.1, hd.below hb, below_step hB hb, hK.below hb⟩

/-! ### Uint -/
/-- A number's digits: what is left, the error, the number. -/
def rdNum (i : Nat) (x m : Int) : List Int → List Int × Int × Int
  | [] => ([], 10, 0)
  | c :: r => if (i = 9 ∧ 1 < c) ∨ (0 < i ∧ c = 0) then (r, 11, 0) else if c < 128 then (r, 0, x + m * (c % 128)) else rdNum (i + 1) (x + m * (c % 128)) (m * 128) r
def RM.uint (R : RM) : RM × Int := if R.e ≠ 0 then (R, 0) else (⟨(rdNum 0 0 1 R.b).1, (rdNum 0 0 1 R.b).2.1⟩, (rdNum 0 0 1 R.b).2.2)
theorem pow_128 (i : Nat) : (128 : Int) ^ (i + 1) = 128 ^ i * 128 := by rw [Int.pow_succ]
theorem pow_le : ∀ (i : Nat), i ≤ 9 → (128 : Int) ^ i ≤ 9223372036854775808 ∧ 1 ≤ (128 : Int) ^ i := by decide

theorem wraps_u64 (n : Int) (h0 : 0 ≤ n) (h1 : n < 2 ^ 64) : IntKind.u64.wrap n = n := by
  have e : IntKind.u64.wrap n = n % 18446744073709551616 := by simp [IntKind.wrap, IntKind.bits, IntKind.signed]
  rw [e]
  omega
theorem or_digit (i : Nat) (x c : Int) (hi : i ≤ 9) (h9 : i = 9 → c ≤ 1) (hx0 : 0 ≤ x) (hx1 : x < 128 ^ i) (hc0 : 0 ≤ c) (hc1 : c ≤ 255) :
    bits .or .u64 x (IntKind.u64.wrap (IntKind.u64.wrap (bits .and .u8 c 127) * 2 ^ (7 * i))) = x + 128 ^ i * (c % 128) ∧ 0 ≤ x + 128 ^ i * (c % 128) ∧ (i < 9 → x + 128 ^ i * (c % 128) < 128 ^ (i + 1)) ∧ x + 128 ^ i * (c % 128) ≤ 18446744073709551615 := by
  have e1 : bits .and .u8 c 127 = c % 128 := bits_mask .u8 8 (by decide) wraps_u8 7 (by decide) c hc0 (by omega)
  have e2 : (2 : Int) ^ (7 * i) = 128 ^ i := by rw [Int.pow_mul]; rfl
  have hm0 : 0 ≤ c % 128 := by omega
  have hm1 : c % 128 ≤ 127 := by omega
  have hp := pow_le i hi
  have hle : 128 ^ i * (c % 128) + 128 ^ i ≤ 18446744073709551616 := by
    by_cases h : i = 9
    · subst h
      have := h9 rfl
      have h3 : c % 128 ≤ 1 := by omega
      have h4 : (128 : Int) ^ 9 = 9223372036854775808 := by decide
      rw [h4]
      omega
    · have h3 : (128 : Int) ^ i ≤ 72057594037927936 := by
        have : ∀ i : Nat, i ≤ 8 → (128 : Int) ^ i ≤ 72057594037927936 := by decide
        exact this i (by omega)
      have h4 : 128 ^ i * (c % 128) ≤ 128 ^ i * 127 := Int.mul_le_mul_of_nonneg_left hm1 (by omega)
      omega
  have hnn : 0 ≤ 128 ^ i * (c % 128) := Int.mul_nonneg (by omega) hm0
  rw [e1, e2, wraps_u64 _ hm0 (by omega), Int.mul_comm (c % 128), wraps_u64 _ hnn (by omega)]
  refine ⟨?_, by omega, fun _ => ?_, by omega⟩
  · have hcomm : ∀ a b : Int, bits .or .u64 a b = bits .or .u64 b a := by
      intro a b
      simp only [bits]
      rw [BitVec.or_comm]
    rw [hcomm, Int.add_comm]
    refine bits_join .u64 64 (by decide) wraps_u64 (7 * i) _ _ hnn ?_ (by omega) hx0 (by rw [e2]; exact hx1) (by omega)
    rw [e2]
    exact Int.mul_emod_right _ _
  · rw [pow_128]
    have h4 : 128 ^ i * (c % 128) ≤ 128 ^ i * 127 := Int.mul_le_mul_of_nonneg_left hm1 (by omega)
    omega
theorem take_one {w0 : World} {c : Int} {r : List Int} (hB : Below w0.heap.size w0 w) (hF : ∀ k, F k → w0.heap.size ≤ k) (hd : RdAt w F g ⟨c :: r, 0⟩) :
    Calls Tryd.prog 74 #[.pointer (some ⟨g, 0, none⟩), .int .i64 1] w fun e w' => ∃ ad, e = .returned (.slice (some ad) 1 1) ∧ w'.cell? ad = some (.int .u8 c) ∧ RdAt w' F g ⟨r, 0⟩ ∧ Below w0.heap.size w0 w' ∧ Kept w w' (fun k => k = g) := by
  refine (take_ok hB hF hd rfl 1 (by simp)).mono ?_
  rintro e w' ⟨A, rfl, _, hC, h⟩
  obtain ⟨ad, rfl, hc⟩ := Kd.at_int (xs := [c]) hC 0 (by omega) (by simp)
  refine ⟨ad, rfl, ?_, h⟩
  have e0 : ad.add (0 : Int).toNat = ad := by unfold Addr.add; split <;> simp_all
  rw [e0] at hc
  exact hc
set_option maxHeartbeats 1000000 in
set_option maxRecDepth 100000 in
theorem uint_calls {w0 : World} (hB : Below w0.heap.size w0 w) (hF : ∀ k, F k → w0.heap.size ≤ k) (hd : RdAt w F g R) (he : R.e = 0) :
    Calls Tryd.prog 50 #[.pointer (some ⟨g, 0, none⟩)] w fun e w' => e = .returned (.int .u64 R.uint.2) ∧ RdAt w' F g R.uint.1 ∧ Below w0.heap.size w0 w' ∧ Kept w w' (fun k => k = g) := by
  have hq : R.uint = (⟨(rdNum 0 0 1 R.b).1, (rdNum 0 0 1 R.b).2.1⟩, (rdNum 0 0 1 R.b).2.2) := by unfold RM.uint; rw [if_neg (by simpa using he)]
  rw [hq]
  clear hq
  obtain ⟨b, e⟩ := R
  obtain rfl : e = 0 := he

  show Calls _ _ _ _ fun e w' => e = .returned (.int .u64 (rdNum 0 0 1 b).2.2) ∧ RdAt w' F g ⟨(rdNum 0 0 1 b).1, (rdNum 0 0 1 b).2.1⟩ ∧ Below w0.heap.size w0 w' ∧ Kept w w' (fun k => k = g)
  obtain ⟨z, hz⟩ : ∃ z, rdNum 0 0 1 b = z := ⟨_, rfl⟩
  rw [hz]
  have HD := Aside0.mk hd
  have HB := Aside0.mk hB
  have HF := Aside0.mk hF
  have HZ := Aside0.mk hz
  clear hd hB hF hz
  go_enter Tryd.func50, Tryd.ntmps50
  go_wp2
  go_step3
  go_wp2
  go_step3
  go_wp2
  go_loopg [3, 4, 5, 6] b.length (fun q v3 v4 v5 v6 wr => ∃ (i : Nat) (x : Int) (bs : List Int), v3 = .int .u64 x ∧ v4 = .int .i64 i ∧ q = bs.length ∧ i ≤ 9 ∧ 0 ≤ x ∧ x < 128 ^ i ∧ Aside0 (rdNum i x (128 ^ i) bs = z) ∧ Aside0 (RdAt wr F g ⟨bs, 0⟩) ∧ Aside0 (Below w0.heap.size w0 wr) ∧ Aside0 (Kept w wr (fun k => k = g)))
  case atStart => exact ⟨0, 0, b, rfl, rfl, rfl, by omega, by omega, by decide, HZ, HD, HB, ⟨Kept.refl _ _⟩⟩
  case round =>
    clear HD HB HZ
    obtain ⟨i, x, bs, rfl, rfl, rfl, hi, hx0, hx1, hz, hd, hb, hk⟩ := hrel
    have hpw := pow_le i hi
    have HX1 := Aside0.mk hx1
    clear hx1
    cases bs with
    | nil =>
      have ht := Aside0.mk (take_short hb.out HF.out hd.out rfl 1 (by simp))
      have hz2 : ([], 10, 0) = z := hz.out
      have hq0 := fun W => Lib.run_eql_slice_nil (P := Tryd.prog) W 27 5 none 0 0 0 0 Tryd.underlying27
      go_wp2_with (go_at_call 74; go_loud (refine ht.out.mono ?_; rintro e w1 ⟨rfl, hd1, hb1, hk1⟩; have HX := Aside0.mk (And.intro hd1 (And.intro hb1 (hk.out.then_ hk1 (fun k h => .inl h)))); clear hd1 hb1 hk1))
      rw [Exit.noGoto_ret]
      go_ret
      subst hz2
      exact ⟨rfl, HX.out⟩
    | cons c r =>
      have ht := Aside0.mk (take_one hb.out HF.out hd.out)
      have hc : 0 ≤ c ∧ c ≤ 255 := by obtain ⟨_, _, _, _, _, _, _, _, _, hy⟩ := hd.out; exact hy c (by simp)
      obtain ⟨hc0, hc1⟩ := hc
      have hnn := fun W ad => Lib.run_eql_slice_nil (P := Tryd.prog) W 27 5 (some ad) 1 1 0 0 Tryd.underlying27
      have hkk := Aside0.mk hk.out
      by_cases hbad : (i = 9 ∧ 1 < c) ∨ (0 < i ∧ c = 0)
      · have hz2 : (r, 11, 0) = z := by have := hz.out; unfold rdNum at this; rw [if_pos hbad] at this; exact this
        have HZ2 := Aside0.mk hz2
        clear hz2 hz hd hb hk
        rcases hbad with ⟨rfl, h1⟩ | ⟨h0, rfl⟩
        · have d1 : decide (1 < c) = true := decide_eq_true h1
          go_wp2_with (first | (go_at_call 74; go_loud (refine ht.out.mono ?_; rintro e w1 ⟨ad, rfl, hcell, hd1, hb1, hk1⟩; have HX := Aside0.mk (And.intro hd1 (And.intro hb1 (hkk.out.then_ hk1 (fun k h => .inl h)))); clear hd1 hb1 hk1)) | (go_at_call 75; go_loud (refine (fail_calls HX.out.2.1 HF.out HX.out.1 11).mono ?_; rintro e w2 ⟨rfl, hd2, hb2, hk2⟩; have HX2 := Aside0.mk (And.intro hd2 (And.intro hb2 (HX.out.2.2.then_ hk2 (fun k h => .inl h)))); clear hd2 hb2 hk2)))
          rw [Exit.noGoto_ret]
          go_ret
          have hz2 := HZ2.out
          subst hz2
          exact ⟨rfl, HX2.out⟩
        · have d0 : decide (0 < (i : Int)) = true := decide_eq_true (by omega)
          have dn : decide (0 < i) = true := decide_eq_true (by omega)
          by_cases h9 : i = 9
          all_goals
            first | (have d9 : ((i : Int) == 9) = true := by rw [h9]; rfl) | (have d9 : ((i : Int) == 9) = false := beq_eq_false_iff_ne.2 (by omega))
            clear h9
            go_wp2_with (first | (go_at_call 74; go_loud (refine ht.out.mono ?_; rintro e w1 ⟨ad, rfl, hcell, hd1, hb1, hk1⟩; have HX := Aside0.mk (And.intro hd1 (And.intro hb1 (hkk.out.then_ hk1 (fun k h => .inl h)))); clear hd1 hb1 hk1)) | (go_at_call 75; go_loud (refine (fail_calls HX.out.2.1 HF.out HX.out.1 11).mono ?_; rintro e w2 ⟨rfl, hd2, hb2, hk2⟩; have HX2 := Aside0.mk (And.intro hd2 (And.intro hb2 (HX.out.2.2.then_ hk2 (fun k h => .inl h)))); clear hd2 hb2 hk2)))
            rw [Exit.noGoto_ret]
            go_ret
            have hz2 := HZ2.out
            subst hz2
            exact ⟨rfl, HX2.out⟩
      · have hg1 : (i = 9 → c ≤ 1) ∧ (i ≠ 0 → c ≠ 0) := ⟨fun h => by omega, fun h => by omega⟩
        have hz2 : (if c < 128 then (r, 0, x + 128 ^ i * (c % 128)) else rdNum (i + 1) (x + 128 ^ i * (c % 128)) (128 ^ i * 128) r) = z := by have := hz.out; unfold rdNum at this; rw [if_neg hbad] at this; exact this
        have HZ2 := Aside0.mk hz2
        clear hz2 hz hd hb hk hbad
        have dpick : ((i : Int) == 9 && decide (1 < c)) = false := by
          by_cases h : i = 9
          · have := hg1.1 h
            rw [show decide (1 < c) = false from decide_eq_false (by omega)]; simp
          · rw [show ((i : Int) == 9) = false from beq_eq_false_iff_ne.2 (by omega)]; rfl
        obtain ⟨hor, hy0, hy1, hy2⟩ := or_digit i x c hi hg1.1 hx0 HX1.out hc0 hc1
        obtain ⟨y, hy⟩ : ∃ y, y = x + 128 ^ i * (c % 128) := ⟨_, rfl⟩
        rw [← hy] at hor hy0 hy1 hy2
        have HY := Aside0.mk hy
        have HY1 := Aside0.mk hy1
        have HG := Aside0.mk hg1
        have d1 : i = 9 → decide (1 < c) = false := fun h => decide_eq_false (by have := hg1.1 h; omega)
        have d2 : 0 < i → (c == 0) = false := fun h => beq_eq_false_iff_ne.2 (by have := hg1.2 (by omega); omega)
        have HD1 := Aside0.mk d1
        have HD2 := Aside0.mk d2
        clear hg1 dpick hy hy1 d1 d2
        have split3 : i = 0 ∨ (0 < i ∧ i ≠ 9) ∨ i = 9 := by omega
        by_cases hlt : c < 128
        · have d4 : decide (c < 128) = true := decide_eq_true hlt
          rcases split3 with h3 | ⟨h3, h4⟩ | h3
          · have d9 : ((i : Int) == 9) = false := beq_eq_false_iff_ne.2 (by omega)
            have d0 : decide (0 < (i : Int)) = false := decide_eq_false (by omega)
            have dn : decide (0 < i) = false := decide_eq_false (by omega)
            have H3 := Aside0.mk h3
            clear h3
            go_wp2_with (first | (go_at_call 74; go_loud (refine ht.out.mono ?_; rintro e w1 ⟨ad, rfl, hcell, hd1, hb1, hk1⟩; have HX := Aside0.mk (And.intro hd1 (And.intro hb1 (hkk.out.then_ hk1 (fun k h => .inl h)))); clear hd1 hb1 hk1)) | (go_at_call 75; go_loud (refine (fail_calls HX.out.2.1 HF.out HX.out.1 11).mono ?_; rintro e w2 ⟨rfl, hd2, hb2, hk2⟩; have HX2 := Aside0.mk (And.intro hd2 (And.intro hb2 (HX.out.2.2.then_ hk2 (fun k h => .inl h)))); clear hd2 hb2 hk2)))
            rw [Exit.noGoto_ret]
            go_ret
            have hz2 := HZ2.out
            rw [if_pos hlt, ← HY.out] at hz2
            subst hz2
            exact ⟨rfl, HX.out⟩
          · have d9 : ((i : Int) == 9) = false := beq_eq_false_iff_ne.2 (by omega)
            have d0 : decide (0 < (i : Int)) = true := decide_eq_true (by omega)
            have dn : decide (0 < i) = true := decide_eq_true (by omega)
            have dc := HD2.out h3
            go_wp2_with (first | (go_at_call 74; go_loud (refine ht.out.mono ?_; rintro e w1 ⟨ad, rfl, hcell, hd1, hb1, hk1⟩; have HX := Aside0.mk (And.intro hd1 (And.intro hb1 (hkk.out.then_ hk1 (fun k h => .inl h)))); clear hd1 hb1 hk1)) | (go_at_call 75; go_loud (refine (fail_calls HX.out.2.1 HF.out HX.out.1 11).mono ?_; rintro e w2 ⟨rfl, hd2, hb2, hk2⟩; have HX2 := Aside0.mk (And.intro hd2 (And.intro hb2 (HX.out.2.2.then_ hk2 (fun k h => .inl h)))); clear hd2 hb2 hk2)))
            rw [Exit.noGoto_ret]
            go_ret
            have hz2 := HZ2.out
            rw [if_pos hlt, ← HY.out] at hz2
            subst hz2
            exact ⟨rfl, HX.out⟩
          · have dc := HD2.out (by omega)
            have dc1 := HD1.out h3
            have d9 : ((i : Int) == 9) = true := beq_iff_eq.2 (by omega)
            have d0 : decide (0 < (i : Int)) = true := decide_eq_true (by omega)
            have dn : decide (0 < i) = true := decide_eq_true (by omega)
            clear h3
            go_wp2_with (first | (go_at_call 74; go_loud (refine ht.out.mono ?_; rintro e w1 ⟨ad, rfl, hcell, hd1, hb1, hk1⟩; have HX := Aside0.mk (And.intro hd1 (And.intro hb1 (hkk.out.then_ hk1 (fun k h => .inl h)))); clear hd1 hb1 hk1)) | (go_at_call 75; go_loud (refine (fail_calls HX.out.2.1 HF.out HX.out.1 11).mono ?_; rintro e w2 ⟨rfl, hd2, hb2, hk2⟩; have HX2 := Aside0.mk (And.intro hd2 (And.intro hb2 (HX.out.2.2.then_ hk2 (fun k h => .inl h)))); clear hd2 hb2 hk2)))
            rw [Exit.noGoto_ret]
            go_ret
            have hz2 := HZ2.out
            rw [if_pos hlt, ← HY.out] at hz2
            subst hz2
            exact ⟨rfl, HX.out⟩
        · have d4 : decide (c < 128) = false := decide_eq_false hlt
          have hz2 := HZ2.out
          rw [if_neg hlt, ← HY.out, ← pow_128] at hz2
          have HZ3 := Aside0.mk hz2
          clear HZ2 hz2
          rcases split3 with h3 | ⟨h3, h4⟩ | h3
          · have d9 : ((i : Int) == 9) = false := beq_eq_false_iff_ne.2 (by omega)
            have d0 : decide (0 < (i : Int)) = false := decide_eq_false (by omega)
            have dn : decide (0 < i) = false := decide_eq_false (by omega)
            have H3 := Aside0.mk h3
            clear h3
            go_wp2_with (first | (go_at_call 74; go_loud (refine ht.out.mono ?_; rintro e w1 ⟨ad, rfl, hcell, hd1, hb1, hk1⟩; have HX := Aside0.mk (And.intro hd1 (And.intro hb1 (hkk.out.then_ hk1 (fun k h => .inl h)))); clear hd1 hb1 hk1)) | (go_at_call 75; go_loud (refine (fail_calls HX.out.2.1 HF.out HX.out.1 11).mono ?_; rintro e w2 ⟨rfl, hd2, hb2, hk2⟩; have HX2 := Aside0.mk (And.intro hd2 (And.intro hb2 (HX.out.2.2.then_ hk2 (fun k h => .inl h)))); clear hd2 hb2 hk2)))
            go_roundg r.length
            case measure => simp
            case rel => exact ⟨i + 1, y, r, rfl, by go_num, rfl, by have := H3.out; omega, hy0, HY1.out (by have := H3.out; omega), HZ3, ⟨HX.out.1⟩, ⟨HX.out.2.1⟩, ⟨HX.out.2.2⟩⟩
          · have d9 : ((i : Int) == 9) = false := beq_eq_false_iff_ne.2 (by omega)
            have d0 : decide (0 < (i : Int)) = true := decide_eq_true (by omega)
            have dn : decide (0 < i) = true := decide_eq_true (by omega)
            have dc := HD2.out h3
            go_wp2_with (first | (go_at_call 74; go_loud (refine ht.out.mono ?_; rintro e w1 ⟨ad, rfl, hcell, hd1, hb1, hk1⟩; have HX := Aside0.mk (And.intro hd1 (And.intro hb1 (hkk.out.then_ hk1 (fun k h => .inl h)))); clear hd1 hb1 hk1)) | (go_at_call 75; go_loud (refine (fail_calls HX.out.2.1 HF.out HX.out.1 11).mono ?_; rintro e w2 ⟨rfl, hd2, hb2, hk2⟩; have HX2 := Aside0.mk (And.intro hd2 (And.intro hb2 (HX.out.2.2.then_ hk2 (fun k h => .inl h)))); clear hd2 hb2 hk2)))
            go_roundg r.length
            case measure => simp
            case rel => exact ⟨i + 1, y, r, rfl, by go_num, rfl, by omega, hy0, HY1.out (by omega), HZ3, ⟨HX.out.1⟩, ⟨HX.out.2.1⟩, ⟨HX.out.2.2⟩⟩
          · exact absurd (HG.out.1 h3) (by omega)
end
end Go.Proofs.YtgjdcdhfijkoiaaDoor.Cod
end
section
namespace Go.Proofs.YtgjdcdhfijkoiaaDoor.Cod
open Go.RowKit Go.Proofs.YtgjdcdhfijkoiaaDoorW.PrintWords Go.Proofs.YtgjdcdhfijkoiaaDoorW.PrintLast Go.Proofs.YtgjdcdhfijkoiaaDoorW.PrintMore Go.Proofs.YtgjdcdhfijkoiaaDoor.Mem
set_option linter.unusedVariables false
set_option linter.unusedSimpArgs false
section
variable {w : World} {F : Nat → Prop} {g : Nat} {R : RM}
theorem uint_err (hd : RdAt w F g R) (he : R.e ≠ 0) : Calls Tryd.prog 50 #[.pointer (some ⟨g, 0, none⟩)] w fun e w' => e = .returned (.int .u64 0) ∧ w = w' := by
  have hq0 := fun W => Lib.run_eql_slice_nil (P := Tryd.prog) W 27 5 none 0 0 0 0 Tryd.underlying27
  have ht := Aside0.mk (take_err hd he 1)
  clear hd he
  go_enter Tryd.func50, Tryd.ntmps50
  go_wp2
  go_step3
  go_wp2
  go_step3
  go_wp2
  go_loopg [3, 4, 5, 6] 1 (fun q v3 v4 v5 v6 wr => v3 = .int .u64 0 ∧ v4 = .int .i64 0 ∧ wr = w)
  case atStart => exact ⟨rfl, rfl, rfl⟩
  case round =>
    obtain ⟨rfl, rfl, rfl⟩ := hrel
    go_wp2_with (go_at_call 74; go_loud (refine ht.out.mono ?_; rintro e w1 ⟨rfl, rfl⟩))
    rw [Exit.noGoto_ret]
    go_ret
    exact ⟨rfl, rfl⟩
theorem uint_any {w0 : World} (hB : Below w0.heap.size w0 w) (hF : ∀ k, F k → w0.heap.size ≤ k) (hd : RdAt w F g R) :
    Calls Tryd.prog 50 #[.pointer (some ⟨g, 0, none⟩)] w fun e w' => e = .returned (.int .u64 R.uint.2) ∧ RdAt w' F g R.uint.1 ∧ Below w0.heap.size w0 w' ∧ Kept w w' (fun k => k = g) := by
  by_cases he : R.e = 0
  · exact uint_calls hB hF hd he
  · rw [show R.uint = (R, 0) by unfold RM.uint; rw [if_pos he]]
    refine (uint_err hd he).mono ?_
    rintro e w' ⟨rfl, rfl⟩
    exact ⟨rfl, hd, hB, Kept.refl _ _⟩
theorem rdNum_bd : ∀ (b : List Int) (i : Nat) (x : Int), Byt b → i ≤ 9 → 0 ≤ x → x < 128 ^ i → 0 ≤ (rdNum i x (128 ^ i) b).2.2 ∧ (rdNum i x (128 ^ i) b).2.2 ≤ 18446744073709551615 := by
  intro b
  induction b with
  | nil => intro i x _ _ _ _; unfold rdNum; exact ⟨by show (0 : Int) ≤ 0; omega, by show (0 : Int) ≤ _; omega⟩
  | cons c r ih =>
    intro i x hb hi h0 h1
    unfold rdNum
    have hc := hb c List.mem_cons_self
    split
    · exact ⟨by show (0 : Int) ≤ 0; omega, by show (0 : Int) ≤ _; omega⟩
    · rename_i hn
      obtain ⟨_, hy0, hy1, hy2⟩ := or_digit i x c hi (fun h => by omega) h0 h1 hc.1 hc.2
      split
      · exact ⟨hy0, hy2⟩
      · rename_i hlt
        have h9 : i ≠ 9 := fun h => by omega
        rw [← pow_128]
        exact ih (i + 1) _ (fun x hx => hb x (List.mem_cons_of_mem _ hx)) (by omega) hy0 (hy1 (by omega))
theorem RM.uint_bd (hd : Byt R.b) : 0 ≤ R.uint.2 ∧ R.uint.2 ≤ 18446744073709551615 := by
  unfold RM.uint
  split
  · exact ⟨by show (0 : Int) ≤ 0; omega, by show (0 : Int) ≤ _; omega⟩
  · exact rdNum_bd R.b 0 0 hd (by omega) (by omega) (by decide)
theorem RdAt.byt (h : RdAt w F g R) : Byt R.b := by obtain ⟨_, _, _, _, _, _, _, _, _, hy⟩ := h; exact hy

/-! ### Bytes -/
def RM.bytes (R : RM) (most : Int) : RM × List Int := if R.uint.1.e ≠ 0 then (R.uint.1, []) else if most < 0 ∨ most < R.uint.2 then (⟨R.uint.1.b, 13⟩, []) else R.uint.1.fixed R.uint.2
set_option maxHeartbeats 1000000 in
theorem bytes_calls {w0 : World} (hB : Below w0.heap.size w0 w) (hF : ∀ k, F k → w0.heap.size ≤ k) (hd : RdAt w F g R) (m : Int) (hm : m ≤ 9223372036854775807) :
    Calls Tryd.prog 52 #[.pointer (some ⟨g, 0, none⟩), .int .i64 m] w fun e w' => ∃ v, e = .returned v ∧ Kd.R (Kd.int .u8) 5 w' w.heap.size (fun _ => True) v (R.bytes m).2 ∧ RdAt w' F g (R.bytes m).1 ∧ Below w0.heap.size w0 w' ∧ Kept w w' (fun k => k = g) := by
  have h1 := Aside0.mk (uint_any hB hF hd)
  obtain ⟨hn0, hn1⟩ := RM.uint_bd hd.byt
  have HF := Aside0.mk hF
  unfold RM.bytes
  obtain ⟨u, hu⟩ : ∃ u, u = R.uint := ⟨_, rfl⟩
  rw [← hu] at h1 hn0 hn1 ⊢
  clear hB hF hd hu
  obtain ⟨R1, n⟩ := u
  have h2 : Aside0 (Calls Tryd.prog 50 #[.pointer (some ⟨g, 0, none⟩)] w fun e w' => e = .returned (.int .u64 n) ∧ RdAt w' F g R1 ∧ Below w0.heap.size w0 w' ∧ Kept w w' (fun k => k = g)) := h1
  clear h1
  obtain ⟨b1, e1⟩ := R1
  simp only at hn0 hn1 ⊢
  by_cases he : e1 = 0
  · subst he
    rw [if_neg (by simp)]
    by_cases hbad : m < 0 ∨ m < n
    · rw [if_pos hbad]
      rcases Int.lt_or_le m 0 with h | h
      · have d1 : decide (m < 0) = true := decide_eq_true h
        go_enter Tryd.func52, Tryd.ntmps52
        go_wp2_with (first | (go_at_call 50; go_loud (refine h2.out.mono ?_; rintro e w1 ⟨rfl, hd1, hb1, hk1⟩; have HX := Aside0.mk (And.intro hd1 (And.intro hb1 hk1)); clear hd1 hb1 hk1)) | (go_at_call 51; go_loud (refine (err_calls HX.out.1).mono ?_; rintro e w2 ⟨rfl, rfl⟩)) | (go_at_call 75; go_loud (refine (fail_calls HX.out.2.1 HF.out HX.out.1 13).mono ?_; rintro e w3 ⟨rfl, hd3, hb3, hk3⟩; have HX3 := Aside0.mk (And.intro hd3 (And.intro hb3 (HX.out.2.2.then_ hk3 (fun k h => .inl h)))); clear hd3 hb3 hk3)))
        go_ret
        exact ⟨_, rfl, Kd.R_nil _ _ _ _ _, HX3.out⟩
      · have h3 : m < n := by omega
        have d1 : decide (m < 0) = false := decide_eq_false (by omega)
        have hw : IntKind.u64.wrap m = m := wraps_u64 _ h (by omega)
        have d2 : decide (m < n) = true := decide_eq_true h3
        go_enter Tryd.func52, Tryd.ntmps52
        go_wp2_with (first | (go_at_call 50; go_loud (refine h2.out.mono ?_; rintro e w1 ⟨rfl, hd1, hb1, hk1⟩; have HX := Aside0.mk (And.intro hd1 (And.intro hb1 hk1)); clear hd1 hb1 hk1)) | (go_at_call 51; go_loud (refine (err_calls HX.out.1).mono ?_; rintro e w2 ⟨rfl, rfl⟩)) | (go_at_call 75; go_loud (refine (fail_calls HX.out.2.1 HF.out HX.out.1 13).mono ?_; rintro e w3 ⟨rfl, hd3, hb3, hk3⟩; have HX3 := Aside0.mk (And.intro hd3 (And.intro hb3 (HX.out.2.2.then_ hk3 (fun k h => .inl h)))); clear hd3 hb3 hk3)))
        go_ret
        exact ⟨_, rfl, Kd.R_nil _ _ _ _ _, HX3.out⟩
    · rw [if_neg hbad]
      have h : 0 ≤ m := by omega
      have h3 : n ≤ m := by omega
      have d1 : decide (m < 0) = false := decide_eq_false (by omega)
      have hw : IntKind.u64.wrap m = m := wraps_u64 _ h (by omega)
      have hw2 : wrap64 n = n := IntWalk.wrap64_in n ⟨by omega, by omega⟩
      have d2 : decide (m < n) = false := decide_eq_false (by omega)
      clear hbad
      go_enter Tryd.func52, Tryd.ntmps52
      go_wp2_with (first | (go_at_call 50; go_loud (refine h2.out.mono ?_; rintro e w1 ⟨rfl, hd1, hb1, hk1⟩; have HX := Aside0.mk (And.intro hd1 (And.intro hb1 hk1)); clear hd1 hb1 hk1)) | (go_at_call 51; go_loud (refine (err_calls HX.out.1).mono ?_; rintro e w2 ⟨rfl, rfl⟩)) | (go_at_call 76; go_loud (refine (fixed_calls HX.out.2.1 HF.out HX.out.1 n).mono ?_; rintro e w3 ⟨v, rfl, hv3, hd3, hb3, hk3⟩; have HX3 := Aside0.mk (And.intro (Kd.R_lower hv3 HX.out.2.2.1) (And.intro hd3 (And.intro hb3 (HX.out.2.2.then_ hk3 (fun k h => .inl h))))); clear hv3 hd3 hb3 hk3)))
      go_ret
      exact ⟨_, rfl, HX3.out⟩
  · rw [if_pos he]
    have hb : (e1 != 0) = true := bne_iff_ne.2 he
    clear he
    go_enter Tryd.func52, Tryd.ntmps52
    go_wp2_with (first | (go_at_call 50; go_loud (refine h2.out.mono ?_; rintro e w1 ⟨rfl, hd1, hb1, hk1⟩; have HX := Aside0.mk (And.intro hd1 (And.intro hb1 hk1)); clear hd1 hb1 hk1)) | (go_at_call 51; go_loud (refine (err_calls HX.out.1).mono ?_; rintro e w2 ⟨rfl, rfl⟩)))
    go_ret
    exact ⟨_, rfl, Kd.R_nil _ _ _ _ _, HX.out⟩

/-! ### Bool -/
def RM.bool (R : RM) : RM × Bool := if R.e ≠ 0 then (R, false) else match R.b with
  | [] => (⟨[], 10⟩, false)
  | c :: r => (⟨r, if 1 < c then 11 else 0⟩, c == 1)
theorem take_one' {w0 : World} {c : Int} {r : List Int} (hB : Below w0.heap.size w0 w) (hF : ∀ k, F k → w0.heap.size ≤ k) (hd : RdAt w F g ⟨c :: r, 0⟩) :
    Calls Tryd.prog 74 #[.pointer (some ⟨g, 0, none⟩), .int .i64 1] w fun e w' => ∃ ad, e = .returned (.slice (some ad) 1 1) ∧ w'.cell? ad = some (.int .u8 c) ∧ ad.block ≠ g ∧ RdAt w' F g ⟨r, 0⟩ ∧ Below w0.heap.size w0 w' ∧ Kept w w' (fun k => k = g) := by
  refine (take_ok hB hF hd rfl 1 (by simp)).mono ?_
  rintro e w' ⟨A, rfl, hA, hC, h⟩
  obtain ⟨ad, rfl, hc⟩ := Kd.at_int (xs := [c]) hC 0 (by omega) (by simp)
  refine ⟨ad, rfl, ?_, (hA ad rfl).2, h⟩
  have e0 : ad.add (0 : Int).toNat = ad := by unfold Addr.add; split <;> simp_all
  rw [e0] at hc
  exact hc
theorem bool_cons (c : Int) (r : List Int) : (⟨c :: r, 0⟩ : RM).bool = (⟨r, if 1 < c then 11 else 0⟩, c == 1) := by simp [RM.bool]
theorem bool_none : (⟨[], 0⟩ : RM).bool = (⟨[], 10⟩, false) := by simp [RM.bool]
set_option maxHeartbeats 1000000 in
theorem bool_calls {w0 : World} (hB : Below w0.heap.size w0 w) (hF : ∀ k, F k → w0.heap.size ≤ k) (hd : RdAt w F g R) :
    Calls Tryd.prog 82 #[.pointer (some ⟨g, 0, none⟩)] w fun e w' => e = .returned (.bool R.bool.2) ∧ RdAt w' F g R.bool.1 ∧ Below w0.heap.size w0 w' ∧ Kept w w' (fun k => k = g) := by
  have hq0 := fun W => Lib.run_eql_slice_nil (P := Tryd.prog) W 27 5 none 0 0 0 0 Tryd.underlying27
  by_cases he : R.e = 0
  · obtain ⟨b, e⟩ := R
    obtain rfl : e = 0 := he
    cases b with
    | nil =>
      rw [bool_none]
      have ht := Aside0.mk (take_short hB hF hd rfl 1 (by simp))
      clear hB hF hd
      go_enter Tryd.func82, Tryd.ntmps82
      go_wp2_with (first | (go_at_call 74; go_loud (refine ht.out.mono ?_; rintro e w1 ⟨rfl, hd1, hb1, hk1⟩; have HX := Aside0.mk (And.intro hd1 (And.intro hb1 hk1)); clear hd1 hb1 hk1)))
      go_ret
      exact ⟨rfl, HX.out⟩
    | cons c r =>
      rw [bool_cons]
      have ht := Aside0.mk (take_one' hB hF hd)
      have hnn := fun W ad => Lib.run_eql_slice_nil (P := Tryd.prog) W 27 5 (some ad) 1 1 0 0 Tryd.underlying27
      have HF := Aside0.mk hF
      clear hB hF hd
      by_cases hc : 1 < c
      · rw [if_pos hc]
        have d1 : decide (1 < c) = true := decide_eq_true hc
        go_enter Tryd.func82, Tryd.ntmps82
        go_wp2_with (first | (go_at_call 74; go_loud (refine ht.out.mono ?_; rintro e w1 ⟨ad, rfl, hcell, hne, hd1, hb1, hk1⟩; have HX := Aside0.mk (And.intro hd1 (And.intro hb1 (And.intro hk1 (And.intro hcell hne)))); clear hd1 hb1 hk1 hne)) | (go_at_call 75; go_loud (refine (fail_calls HX.out.2.1 HF.out HX.out.1 11).mono ?_; rintro e w3 ⟨rfl, hd3, hb3, hk3⟩; have hcell3 := cell_kept HX.out.2.2.2.1 hk3 HX.out.2.2.2.2; have HX3 := Aside0.mk (And.intro hd3 (And.intro hb3 (HX.out.2.2.1.then_ hk3 (fun k h => .inl h)))); clear hcell hd3 hb3 hk3)))
        go_ret
        exact ⟨rfl, HX3.out⟩
      · rw [if_neg hc]
        have d1 : decide (1 < c) = false := decide_eq_false hc
        go_enter Tryd.func82, Tryd.ntmps82
        go_wp2_with (first | (go_at_call 74; go_loud (refine ht.out.mono ?_; rintro e w1 ⟨ad, rfl, hcell, _, hd1, hb1, hk1⟩; have HX := Aside0.mk (And.intro hd1 (And.intro hb1 hk1)); clear hd1 hb1 hk1)))
        go_ret
        exact ⟨rfl, HX.out⟩
  · rw [show R.bool = (R, false) by unfold RM.bool; rw [if_pos he]]
    refine Calls.mono (R := fun e w' => e = .returned (.bool false) ∧ w = w') ?_ ?_
    · have ht := Aside0.mk (take_err hd he 1)
      clear hB hF hd he
      go_enter Tryd.func82, Tryd.ntmps82
      go_wp2_with (first | (go_at_call 74; refine ht.out.mono ?_; rintro e w' ⟨rfl, rfl⟩))
      go_ret
      exact ⟨rfl, rfl⟩
    · rintro e w' ⟨rfl, rfl⟩
      exact ⟨rfl, hd, hB, Kept.refl _ _⟩

/-! ### End, NewReader -/
def RM.end_ (R : RM) : Int := if R.e ≠ 0 then R.e else if R.b = [] then 0 else 12
theorem end_calls (hd : RdAt w F g R) : Calls Tryd.prog 53 #[.pointer (some ⟨g, 0, none⟩)] w fun e w' => e = .returned (.int .i64 R.end_) ∧ w = w' := by
  have h1 := err_calls hd
  obtain ⟨A, c, _, _, h3, _⟩ := hd
  have c0 : w.cell? ⟨g, 0, none⟩ = some (.slice A R.b.length c) := (blk_cell h3 0).trans rfl
  clear h3
  unfold RM.end_
  obtain ⟨b, e⟩ := R
  simp only at h1 c0 ⊢
  by_cases he : e = 0
  · subst he
    rw [if_neg (by simp)]
    cases b with
    | nil =>
      rw [if_pos rfl]
      have c0' : w.cell? ⟨g, 0, none⟩ = some (.slice A 0 c) := c0
      clear c0
      go_enter Tryd.func53, Tryd.ntmps53
      go_wp2_with (first | (go_at_call 51; refine h1.mono ?_; rintro e w' ⟨rfl, rfl⟩))
      go_ret
      exact ⟨rfl, rfl⟩
    | cons x r =>
      rw [if_neg (by simp)]
      have c0' : w.cell? ⟨g, 0, none⟩ = some (.slice A (r.length + 1) c) := c0
      clear c0
      obtain ⟨m, hm⟩ : ∃ m, m = r.length + 1 := ⟨_, rfl⟩
      rw [← hm] at c0'
      have hm0 : 0 < m := by omega
      clear hm
      go_enter Tryd.func53, Tryd.ntmps53
      go_wp2_with (first | (go_at_call 51; refine h1.mono ?_; rintro e w' ⟨rfl, rfl⟩))
      go_ret
      exact ⟨rfl, rfl⟩
  · rw [if_pos he]
    have hb : (e != 0) = true := bne_iff_ne.2 he
    clear he
    go_enter Tryd.func53, Tryd.ntmps53
    go_wp2_with (first | (go_at_call 51; refine h1.mono ?_; rintro e w' ⟨rfl, rfl⟩))
    go_ret
    exact ⟨rfl, rfl⟩
end
end Go.Proofs.YtgjdcdhfijkoiaaDoor.Cod
end
section
namespace Go.Proofs.YtgjdcdhfijkoiaaDoor.Cod
open Go.RowKit Go.Proofs.YtgjdcdhfijkoiaaDoorW.PrintWords Go.Proofs.YtgjdcdhfijkoiaaDoorW.PrintLast Go.Proofs.YtgjdcdhfijkoiaaDoorW.PrintMore Go.Proofs.YtgjdcdhfijkoiaaDoor.Mem
set_option linter.unusedVariables false
set_option linter.unusedSimpArgs false
section
variable {w : World} {F : Nat → Prop} {g base : Nat} {R : RM} {xs ys : List Int}

/-- What lies between two heap's ends. -/
def Span (w w' : World) : Nat → Prop := fun k => w.heap.size ≤ k ∧ k < w'.heap.size
set_option maxRecDepth 100000 in
theorem newReader_calls (A : Option Addr) (c : Nat) (hr : Kd.C (Kd.int .u8) w A xs.length xs) (hc : xs.length ≤ c) (hl : xs.length < 140737488355328) (hy : Byt xs) :
    Calls Tryd.prog 49 #[.slice A xs.length c] w fun e w' => ∃ g, e = .returned (.pointer (some ⟨g, 0, none⟩)) ∧ RdAt w' (Span w w') g ⟨xs, 0⟩ ∧ Below w.heap.size w w' := by
  have HR := Aside0.mk (clone_calls A c xs w hr hc hl)
  have HL := Aside0.mk (And.intro hl hy)
  obtain ⟨n, hn⟩ : ∃ n, n = xs.length := ⟨_, rfl⟩
  rw [← hn] at HR ⊢
  have HN := Aside0.mk hn
  clear hr hc hl hy hn
  go_enter Tryd.func49, Tryd.ntmps49
  go_wp2_with (first | (go_at_call 72; go_loud (refine HR.out.mono ?_; rintro e w1 ⟨v, rfl, hv, hb, _⟩; obtain ⟨A', c', rfl, hc', hC⟩ := Kd.R_reads hv; have HV := Aside0.mk (And.intro hv (And.intro hb (And.intro hc' hC))); clear hv hb hc' hC)))
  go_ret
  obtain ⟨hv, hb, hc', hC⟩ := HV.out
  have hb1 := below_alloc (Below.refl w1.heap.size w1) (.cells #[.slice A' xs.length c', .int .i64 0] 130)
  have hsz : (w1.alloc (.cells #[.slice A' xs.length c', .int .i64 0] 130)).heap.size = w1.heap.size + 1 := by simp
  have hle := below_size hb
  have hcm : c' ≤ 9223372036854775807 := by
    obtain ⟨h0, inner, ho, hr⟩ := hv
    rcases ho.2 with ⟨h2, _⟩ | ⟨_, cap, cur, h2, _, _, _, hm, _⟩
    · injection h2 with _ _ h3; omega
    · injection h2 with _ _ h3; rw [h3]; unfold maxLen at hm; omega
  have hA : ∀ ad, A' = some ad → w.heap.size ≤ ad.block ∧ ad.block < w1.heap.size := by
    rintro ad rfl
    have hB := Kd.R_bound hv
    have := hB.1 ad.block (by simp [Value.ownBlock])
    exact ⟨this.2.1, this.2.2.1⟩
  refine ⟨_, rfl, ⟨A', c', ⟨hle, by rw [hsz]; omega⟩, ?_, by simpa using heap_alloc_new w1 _, Kd.C_below hC hb1, hc', HL.out.1, hcm, HL.out.2⟩, below_step hb hb1⟩
  rintro ad rfl
  have := hA ad rfl
  exact ⟨⟨this.1, by rw [hsz]; omega⟩, by omega⟩

/-! ### the writer -/
def WrAt (w : World) (base : Nat) (F : Nat → Prop) (g : Nat) (xs : List Int) : Prop :=
  ∃ v, F g ∧ base ≤ g ∧ w.heap[g]? = some (.cells #[v] 125 (0, 0)) ∧ Kd.R (Kd.int .u8) 5 w base (fun k => F k ∧ k ≠ g) v xs ∧ xs.length < 140737488355328 ∧ Byt xs
theorem WrAt.kept {w w' : World} {S : Nat → Prop} (h : WrAt w base F g xs) (hk : Kept w w' S) (ha : Apart F S) : WrAt w' base F g xs := by
  obtain ⟨v, h1, h2, h3, h4, h5⟩ := h
  exact ⟨v, h1, h2, blk_kept h3 hk (ha g h1), Kd.R_kept h4 hk (fun k hk2 => ha k hk2.1), h5⟩
theorem WrAt.below {w w' : World} (h : WrAt w base F g xs) (hb : Below w.heap.size w w') : WrAt w' base F g xs := h.kept (Kept.of_below hb (fun _ => False)) (fun _ _ h => h)
theorem WrAt.mono {G : Nat → Prop} (h : WrAt w base F g xs) (hs : ∀ k, F k → G k) : WrAt w base G g xs := by
  obtain ⟨v, h1, h2, h3, h4, h5⟩ := h
  exact ⟨v, hs g h1, h2, h3, Kd.R_mono h4 (fun k hk => ⟨hs k hk.1, hk.2⟩), h5⟩
theorem WrAt.cut (h : WrAt w base F g xs) : WrAt w base (Cut base w F) g xs := by
  obtain ⟨v, h1, h2, h3, h4, h5⟩ := h
  exact ⟨v, ⟨h1, h2, blk_lt h3⟩, h2, h3, Kd.R_mono (Kd.R_bound h4) (fun k hk => ⟨⟨hk.1.1, hk.2.1, hk.2.2.1⟩, hk.1.2⟩), h5⟩
set_option maxRecDepth 100000 in
theorem newWriter_calls : Calls Tryd.prog 39 #[] w fun e w' => e = .returned (.pointer (some ⟨w.heap.size, 0, none⟩)) ∧ WrAt w' w.heap.size (Span w w') w.heap.size [] ∧ Below w.heap.size w w' := by
  go_enter Tryd.func39, Tryd.ntmps39
  go_wp2
  go_ret
  refine ⟨rfl, ⟨.slice none 0 0, ⟨Nat.le_refl _, by simp⟩, Nat.le_refl _, by simpa using heap_alloc_new w _, Kd.R_nil _ _ _ _ _, by simp, by intro x hx; cases hx⟩, below_alloc (Below.refl _ _) _⟩
theorem info_u8w : (Tryd.prog.info? 5).map (fun i => (i.zero, i.size, i.bytes)) = some (some (.int .u8 0), 1, 1) := by kernel_rfl
set_option maxRecDepth 100000 in
theorem wfixed_calls {w0 : World} (hB : Below w0.heap.size w0 w) (hb0 : w0.heap.size ≤ base) (hd : WrAt w base F g xs) (A : Option Addr) (n c : Nat) (hn : n = ys.length) (hr : Kd.C (Kd.int .u8) w A ys.length ys) (hl : xs.length + ys.length < 140737488355328) (hy : Byt ys) :
    Calls Tryd.prog 60 #[.pointer (some ⟨g, 0, none⟩), .slice A n c] w fun e w' => e = .returned (.tuple #[]) ∧ WrAt w' base (Or F w) g (xs ++ ys) ∧ Below w0.heap.size w0 w' ∧ Kept w w' F := by
  subst hn
  obtain ⟨v, h1, h2, h3, h4, h5, h6⟩ := hd
  obtain ⟨vA, vc, rfl, _, _⟩ := Kd.R_reads h4
  obtain ⟨v, hv⟩ : ∃ v, v = Value.slice vA xs.length vc := ⟨_, rfl⟩
  rw [← hv] at h3 h4
  have HVV := Aside0.mk hv
  have c0 : w.cell? ⟨g, 0, none⟩ = some (Value.slice vA xs.length vc) := (blk_cell h3 0).trans (by rw [hv]; rfl)
  have hlt := blk_lt h3
  have h4' : Kd.R (Kd.int .u8) 5 w base (fun k => Or F w k ∧ k ≠ g) v xs := Kd.R_mono h4 (fun k hk => ⟨.inl hk.1, hk.2⟩)
  have hne : v.ownBlock ≠ some g := fun e => (h4.1 g e).2 rfl
  have hnf : ∀ k, v.ownBlock = some k → F k := fun k e => (h4.1 k e).1
  have HX := Aside0.mk (And.intro h1 (And.intro h2 (And.intro h3 (And.intro h4' (And.intro hne (And.intro hnf (And.intro hB (And.intro hr (And.intro h6 hlt)))))))))
  have HL := Aside0.mk (And.intro hl (And.intro hy hb0))
  have hbs : base ≤ w.heap.size := by omega
  clear hv hB h1 h2 h3 h4 h4' hne hnf hr hl hy h5 h6
  go_enter Tryd.func60, Tryd.ntmps60
  go_wp2_with (first | ((with_reducible refine gate_builtin (b := .append) (xs := #[.tmp 10, .tmp 11]) rfl ?_); at_builtin; go_loud (refine Kd.R_append_row (Value.int .u8) 0 (w0 := w) base rfl (.tmp 10) (.tmp 11) 27 5 (.int .u8 0) 1 rfl Tryd.underlying27 info_u8w rfl (by decide) v xs ys A ys.length c (fun k => Or F w k ∧ k ≠ g) HVV.out.symm rfl (fun k hk => ⟨.inr hk, by omega⟩) HX.out.2.2.2.1 HX.out.2.2.2.2.2.2.2.1 (Below.refl _ _) hbs (by have := HL.out.1; omega) ?_; intro v1 w1 ho1 hb1 hg1 hat1; obtain ⟨vB, vd, rfl, _, _⟩ := Kd.R_reads ho1; have hg2 : w1.heap[g]? = some (.cells #[v] 125 (0, 0)) := (hg1.block g hlt (fun e => HX.out.2.2.2.2.1 e.symm)).trans HX.out.2.2.1; have c1 : w1.cell? ⟨g, 0, none⟩ = some (Value.slice vA xs.length vc) := (blk_cell hg2 0).trans (by rw [← HVV.out]; rfl); have f1 : w1.frozen? ⟨g, 0, none⟩ = false := blk_frozen hg2 0; have HO := Aside0.mk (And.intro ho1 (And.intro hg1 (And.intro hg2 hb1))); clear ho1 hb1 hg1 hat1 hg2)))
  go_end0
  obtain ⟨h1, h2, h3, h4', hne, hnf, hB, hr, h6, _⟩ := HX.out
  obtain ⟨hl, hy, hb0⟩ := HL.out
  obtain ⟨ho1, hg1, hg2, hb1⟩ := HO.out
  have hk1 : Kept w w1 F := (Kept.refl w F).of_grown hg1 (fun k e => .inl (hnf k e)) |> fun h => h
  refine ⟨rfl, ⟨_, .inl h1, h2, by simpa using blk_set hg2 0 (.slice vB (xs ++ ys).length vd), Kd.R_far ho1 (p := ⟨g, 0, none⟩) (fun k hk => hk.2) _, by simp only [List.length_append]; omega, ?_⟩, ?_, ?_⟩
  · intro x hx
    rcases List.mem_append.1 hx with h | h
    · exact h6 x h
    · exact hy x h
  · exact below_set (hB.trans (hb1.mono hb0)) (by show w0.heap.size ≤ g; omega)
  · exact hk1.setCell (p := ⟨g, 0, none⟩) (.inl h1) _
/-! ### Uint -/
def putN : Nat → Int → List Int
  | 0, x => [x]
  | k + 1, x => if x < 128 then [x] else (x % 128 + 128) :: putN k (x / 128)
/-- A number's bytes. -/
def putNum (x : Int) : List Int := putN 9 x
theorem putN_len : ∀ (k : Nat) (x : Int), (putN k x).length ≤ k + 1 ∧ 1 ≤ (putN k x).length := by
  intro k
  induction k with
  | zero => intro x; simp [putN]
  | succ k ih =>
    intro x
    unfold putN
    split
    · simp
    · have := ih (x / 128); simp only [List.length_cons]; omega
theorem putN_byt : ∀ (k : Nat) (x : Int), 0 ≤ x → x < 128 ^ (k + 1) → Byt (putN k x) := by
  intro k
  induction k with
  | zero => intro x h0 h1 y hy; simp [putN] at hy; subst hy; have : (128 : Int) ^ (0 + 1) = 128 := by decide
            omega
  | succ k ih =>
    intro x h0 h1 y hy
    unfold putN at hy
    split at hy
    · simp at hy; subst hy; omega
    · rcases List.mem_cons.1 hy with h | h
      · omega
      · refine ih (x / 128) (by omega) ?_ y h
        rw [pow_128] at h1
        omega
theorem or_128 (x : Int) (h0 : 0 ≤ x) : bits .or .u8 (x % 256) 128 = x % 128 + 128 := by
  have e : x % 128 = (x % 256) % 128 := by omega
  rw [e]
  have h1 : 0 ≤ x % 256 := by omega
  have h2 : x % 256 < 256 := by omega
  generalize x % 256 = y at h1 h2
  have : ∀ n : Nat, n < 256 → bits .or .u8 (n : Int) 128 = (n : Int) % 128 + 128 := by decide +kernel
  obtain ⟨n, rfl⟩ := Int.eq_ofNat_of_zero_le h1
  exact this n (by omega)
theorem putN_small (k : Nat) {x : Int} (h : x < 128) : putN k x = [x] := by cases k <;> simp [putN, h]
theorem putN_great (k : Nat) {x : Int} (h : ¬ x < 128) : putN (k + 1) x = (x % 128 + 128) :: putN k (x / 128) := by simp [putN, h]
set_option maxHeartbeats 1000000 in
set_option maxRecDepth 100000 in
theorem wuint_gen (p : Option Addr) (x : Int) (h0 : 0 ≤ x) (h1 : x < 18446744073709551616) (Q : World → Prop)
    (hfix : ∀ (W : World) (A : Option Addr) (c : Nat), Below w.heap.size w W → Kd.R (Kd.int .u8) 5 W w.heap.size (fun _ => True) (.slice A (putNum x).length c) (putNum x) → Calls Tryd.prog 60 #[.pointer p, .slice A (putNum x).length c] W fun e w' => e = .returned (.tuple #[]) ∧ Q w') :
    Calls Tryd.prog 40 #[.pointer p, .int .u64 x] w fun e w' => e = .returned (.tuple #[]) ∧ Q w' := by
  have HF := Aside0.mk hfix
  clear hfix
  obtain ⟨z, hz⟩ : ∃ z, putN 9 x = z := ⟨_, rfl⟩
  have hzz : putNum x = z := hz
  rw [hzz] at HF
  have HZ := Aside0.mk hz
  clear hz hzz
  go_enter Tryd.func40, Tryd.ntmps40
  go_wp2
  go_loopg [1, 4] 9 (fun q v1 v4 wr => ∃ (y : Int) (A : Option Addr) (c : Nat) (l : List Int), v1 = .int .u64 y ∧ v4 = .slice A l.length c ∧ 0 ≤ y ∧ y < 18446744073709551616 ∧ q ≤ 9 ∧ l.length + q ≤ 9 ∧ Aside0 (y < 128 ^ (q + 1)) ∧ Aside0 (l ++ putN q y = z) ∧ Aside0 (Kd.R (Kd.int .u8) 5 wr w.heap.size (fun _ => True) (.slice A l.length c) l) ∧ Aside0 (Below w.heap.size w wr))
  case atStart => exact ⟨x, none, 0, [], rfl, rfl, h0, h1, Nat.le_refl _, by simp, ⟨by omega⟩, HZ, ⟨Kd.R_nil _ _ _ _ _⟩, ⟨Below.refl _ _⟩⟩
  case round =>
    clear HZ
    obtain ⟨y, A, c, l, rfl, rfl, hy0, hy1, hq, hlq, hy2, hz, hr, hb⟩ := hrel
    obtain ⟨q, hqq⟩ : ∃ q, q = gk := ⟨_, rfl⟩
    have hbyte : IntKind.u8.wrap y = y % 256 := IntKind.wrap_u8 y
    by_cases hlt : y < 128
    · have d1 : decide (128 ≤ y) = false := decide_eq_false (by omega)
      have hz2 : l ++ [y] = z := by rw [← putN_small gk hlt]; exact hz.out
      have hy256 : y % 256 = y := by omega
      have hzl : l.length + 1 = z.length := by rw [← hz2]; simp
      have HY := Aside0.mk (And.intro hz2 (And.intro hy256 hzl))
      clear hz2 hy256 hqq hzl
      go_wp2_with (first | ((with_reducible refine gate_builtin (b := .append) (xs := #[.tmp 16, .tmp 19]) rfl ?_); at_builtin; go_loud (refine Kd.R_append (Kd.int .u8) (w0 := w) w.heap.size rfl (.tmp 16) (.tmp 19) 27 5 (.int .u8 0) 1 rfl Tryd.underlying27 info_u8w rfl (by decide) (by decide) (.slice A l.length c) l (y % 256) [.int .u8 (y % 256)] (fun _ => True) (fun _ => False) rfl rfl rfl (fun _ hk => hk.elim) (fun _ _ => trivial) hr.out hb.out (below_size hb.out) (by omega) ?_; intro v1 w1 ho1 hb1 hg1 hat1; obtain ⟨vB, vd, rfl, _, _⟩ := Kd.R_reads ho1; have HO := Aside0.mk (And.intro ho1 hb1); clear ho1 hb1 hg1 hat1)) | (go_at_call 60; go_loud (have ho1 := HO.out.1; rw [HY.out.2.1, HY.out.1] at ho1; rw [HY.out.2.2]; refine (HF.out _ vB vd HO.out.2 ho1).mono ?_; rintro e w2 ⟨rfl, hq2⟩; have HQ := Aside0.mk hq2; clear hq2 ho1)))
      go_end0
      exact ⟨rfl, HQ.out⟩
    · have d1 : decide (128 ≤ y) = true := decide_eq_true (by omega)
      have hor := or_128 y hy0
      cases gk with
      | zero =>
        have h3 := hy2.out
        exact absurd h3 (by show ¬ y < 128 ^ 1; omega)
      | succ k =>
        have hz2 : (l ++ [y % 128 + 128]) ++ putN k (y / 128) = z := by have h3 := hz.out; rw [putN_great k hlt] at h3; rw [List.append_assoc]; exact h3
        have hy3 : y / 128 < 128 ^ (k + 1) := by have h3 := hy2.out; rw [pow_128] at h3; omega
        have HY := Aside0.mk (And.intro hz2 hy3)
        clear hz2 hy3 hqq
        go_wp2_with (first | ((with_reducible refine gate_builtin (b := .append) (xs := #[.tmp 7, .tmp 11]) rfl ?_); at_builtin; go_loud (refine Kd.R_append (Kd.int .u8) (w0 := w) w.heap.size rfl (.tmp 7) (.tmp 11) 27 5 (.int .u8 0) 1 rfl Tryd.underlying27 info_u8w rfl (by decide) (by decide) (.slice A l.length c) l (y % 128 + 128) [.int .u8 (y % 128 + 128)] (fun _ => True) (fun _ => False) rfl rfl rfl (fun _ hk => hk.elim) (fun _ _ => trivial) hr.out hb.out (below_size hb.out) (by omega) ?_; intro v1 w1 ho1 hb1 hg1 hat1; obtain ⟨vB, vd, rfl, _, _⟩ := Kd.R_reads ho1; have HO := Aside0.mk (And.intro ho1 hb1); clear ho1 hb1 hg1 hat1)))
        go_roundg k
        case measure => omega
        case rel => exact ⟨y / 128, vB, vd, l ++ [y % 128 + 128], by go_num, by simp, by omega, by omega, by omega, by simp; omega, ⟨HY.out.2⟩, ⟨HY.out.1⟩, ⟨HO.out.1⟩, ⟨HO.out.2⟩⟩
theorem putNum_byt {x : Int} (h0 : 0 ≤ x) (h1 : x < 18446744073709551616) : Byt (putNum x) := by
  refine putN_byt 9 x h0 ?_
  have : (128 : Int) ^ (9 + 1) = 1180591620717411303424 := by decide
  omega
theorem putNum_len (x : Int) : (putNum x).length ≤ 10 ∧ 1 ≤ (putNum x).length := putN_len 9 x
/-- What a writer's call leaves. -/
def Wrote (w0 w : World) (base : Nat) (F : Nat → Prop) (g : Nat) (zs : List Int) (e : Ending) (w' : World) : Prop := e = .returned (.tuple #[]) ∧ WrAt w' base (Or F w) g zs ∧ Below w0.heap.size w0 w' ∧ Kept w w' F
theorem Or.trans {w w1 : World} (hs : w.heap.size ≤ w1.heap.size) : ∀ k, Or F w1 k → Or F w k := fun k hk => by
  rcases hk with h | h
  · exact .inl h
  · exact .inr (by omega)
theorem Or.twice {w w1 : World} (hs : w.heap.size ≤ w1.heap.size) : ∀ k, Or (Or F w) w1 k → Or F w k := fun k hk => by
  rcases hk with h | h
  · exact h
  · exact .inr (by omega)
theorem wuint_calls {w0 : World} (hB : Below w0.heap.size w0 w) (hb0 : w0.heap.size ≤ base) (hd : WrAt w base F g xs) (x : Int) (h0 : 0 ≤ x) (h1 : x < 18446744073709551616) (hl : xs.length + 10 < 140737488355328) :
    Calls Tryd.prog 40 #[.pointer (some ⟨g, 0, none⟩), .int .u64 x] w (Wrote w0 w base F g (xs ++ putNum x)) := by
  refine (wuint_gen (some ⟨g, 0, none⟩) x h0 h1 (fun w' => WrAt w' base (Or F w) g (xs ++ putNum x) ∧ Below w0.heap.size w0 w' ∧ Kept w w' F) ?_)
  intro W A c hb hv
  have := (putNum_len x).1
  refine (wfixed_calls (below_step hB hb) hb0 (hd.below hb) A _ c rfl (Kd.R_reads' hv).2.2 (by omega) (putNum_byt h0 h1)).mono ?_
  rintro e w' ⟨rfl, h2, h3, h4⟩
  exact ⟨rfl, h2.mono (Or.trans hb.size), h3, (Kept.of_below hb F).then_ h4 (fun k h => .inl h)⟩
theorem one_reads (w : World) (x : Int) : Kd.C (Kd.int .u8) (w.alloc (.cells #[.int .u8 x] 5)) (some ⟨w.heap.size, 0, none⟩) [x].length [x] := by
  have h : (w.alloc (.cells #[.int .u8 x] 5)).heap[w.heap.size]? = some (.cells #[.int .u8 x] 5 (0, 0)) := by simpa using heap_alloc_new w _
  refine Kd.C_of_reads (d := (0 : Int)) (h1 := fun _ => rfl) ⟨rfl, by simp, fun _ => ⟨_, rfl, fun j hj => ?_⟩⟩
  obtain rfl : j = 0 := by simpa using hj
  have ha : (⟨w.heap.size, 0, none⟩ : Addr).add 0 = ⟨w.heap.size, 0, none⟩ := by unfold Addr.add; split <;> simp_all
  rw [ha, blk_cell h]
  rfl
def bit (b : Bool) : Int := if b then 1 else 0
theorem wbool_calls {w0 : World} (hB : Below w0.heap.size w0 w) (hb0 : w0.heap.size ≤ base) (hd : WrAt w base F g xs) (b : Bool) (hl : xs.length + 1 < 140737488355328) :
    Calls Tryd.prog 61 #[.pointer (some ⟨g, 0, none⟩), .bool b] w (Wrote w0 w base F g (xs ++ [bit b])) := by
  have hx : ∀ x : Int, Below w.heap.size w (w.alloc (.cells #[.int .u8 x] 5)) := fun x => below_alloc (Below.refl _ _) _
  have h1 := fun (x : Int) (hy : Byt [x]) => wfixed_calls (below_step hB (hx x)) hb0 (hd.below (hx x)) (some ⟨w.heap.size, 0, none⟩) 1 1 rfl (one_reads w x) (by simpa using hl) hy
  have H := Aside0.mk h1
  have HK := Aside0.mk hx
  clear hB hb0 hd hl h1 hx
  have b0 : Byt [0] := by intro x hx; simp at hx; omega
  have b1 : Byt [1] := by intro x hx; simp at hx; omega
  have HB0 := Aside0.mk (And.intro b0 b1)
  clear b0 b1
  cases b with
  | true =>
    go_enter Tryd.func61, Tryd.ntmps61
    go_wp2_with (first | (go_at_call 60; go_loud (refine (H.out 1 HB0.out.2).mono ?_; rintro e w2 ⟨rfl, hd2, hb2, hk2⟩; have HX2 := Aside0.mk (And.intro hd2 (And.intro hb2 hk2)); clear hd2 hb2 hk2)))
    go_end0
    obtain ⟨h2, h3, h4⟩ := HX2.out
    exact ⟨rfl, h2.mono (Or.trans (by simp)), h3, (Kept.of_below (HK.out 1) F).then_ h4 (fun k h => .inl h)⟩
  | false =>
    go_enter Tryd.func61, Tryd.ntmps61
    go_wp2_with (first | (go_at_call 60; go_loud (refine (H.out 0 HB0.out.1).mono ?_; rintro e w2 ⟨rfl, hd2, hb2, hk2⟩; have HX2 := Aside0.mk (And.intro hd2 (And.intro hb2 hk2)); clear hd2 hb2 hk2)))
    go_end0
    obtain ⟨h2, h3, h4⟩ := HX2.out
    exact ⟨rfl, h2.mono (Or.trans (by simp)), h3, (Kept.of_below (HK.out 0) F).then_ h4 (fun k h => .inl h)⟩
theorem wout_calls (hd : WrAt w base F g xs) : Calls Tryd.prog 42 #[.pointer (some ⟨g, 0, none⟩)] w fun e w' => ∃ v, e = .returned v ∧ Kd.R (Kd.int .u8) 5 w' w.heap.size (fun _ => True) v xs ∧ Below w.heap.size w w' := by
  obtain ⟨v, h1, h2, h3, h4, h5, h6⟩ := hd
  obtain ⟨vA, vc, rfl, hc, hC⟩ := Kd.R_reads h4
  have c0 : w.cell? ⟨g, 0, none⟩ = some (Value.slice vA xs.length vc) := (blk_cell h3 0).trans rfl
  have H := Aside0.mk (clone_calls vA vc xs w hC hc h5)
  clear h1 h2 h3 h4 h5 h6 hc hC
  go_enter Tryd.func42, Tryd.ntmps42
  go_wp2_with (first | (go_at_call 72; go_loud (refine H.out.mono ?_; rintro e w1 ⟨v, rfl, hv, hb, _⟩; obtain ⟨A', c', rfl, _, _⟩ := Kd.R_reads hv; have HV := Aside0.mk (And.intro hv hb); clear hv hb)))
  go_ret
  exact ⟨_, rfl, HV.out⟩
end
end Go.Proofs.YtgjdcdhfijkoiaaDoor.Cod
end
section
namespace Go.Proofs.YtgjdcdhfijkoiaaDoor.Cod
open Go.RowKit Go.Proofs.YtgjdcdhfijkoiaaDoorW.PrintWords Go.Proofs.YtgjdcdhfijkoiaaDoorW.PrintLast Go.Proofs.YtgjdcdhfijkoiaaDoorW.PrintMore Go.Proofs.YtgjdcdhfijkoiaaDoor.Mem
set_option linter.unusedVariables false
set_option linter.unusedSimpArgs false
section
variable {w : World} {F : Nat → Prop} {g base : Nat} {R : RM} {xs ys : List Int}
def RM.id (R : RM) : RM × List Int := ((R.fixed 32).1, if (R.fixed 32).2 = [] then List.replicate 32 0 else (R.fixed 32).2)
theorem fixed_len (R : RM) (n : Nat) : (R.fixed n).2 = [] ∨ (R.fixed n).2.length = n := by
  unfold RM.fixed
  split
  · exact .inl rfl
  · split
    · exact .inl rfl
    · split
      · exact .inl rfl
      · refine .inr ?_
        simp only [Int.toNat_natCast, List.length_take]
        omega
def zidL : List Value := [.int .u8 0, .int .u8 0, .int .u8 0, .int .u8 0, .int .u8 0, .int .u8 0, .int .u8 0, .int .u8 0, .int .u8 0, .int .u8 0, .int .u8 0, .int .u8 0, .int .u8 0, .int .u8 0, .int .u8 0, .int .u8 0, .int .u8 0, .int .u8 0, .int .u8 0, .int .u8 0, .int .u8 0, .int .u8 0, .int .u8 0, .int .u8 0, .int .u8 0, .int .u8 0, .int .u8 0, .int .u8 0, .int .u8 0, .int .u8 0, .int .u8 0, .int .u8 0]
theorem zid_cells : nums .u8 (List.replicate 32 0) = zidL := by kernel_rfl
def idOf (xs : List Int) : List Int := if xs = [] then List.replicate 32 0 else xs
set_option maxHeartbeats 1000000 in
set_option maxRecDepth 100000 in
theorem id_gen (p : Option Addr) (xs : List Int) (S : Nat → Prop) (Post : World → Prop) (hS : ∀ k, S k → k < w.heap.size) (hlen : xs = [] ∨ xs.length = 32)
    (ht : ∀ W, Below w.heap.size w W → Calls Tryd.prog 74 #[.pointer p, .int .i64 32] W fun e w' => ∃ A k c, e = .returned (.slice A k c) ∧ k = xs.length ∧ k ≤ c ∧ Kd.C (Kd.int .u8) w' A xs.length xs ∧ Kept W w' S ∧ Post w')
    (hpost : ∀ w1 w2, Post w1 → Below w.heap.size w1 w2 → Post w2) :
    Calls Tryd.prog 69 #[.pointer p] w fun e w' => e = .returned (.agg (nums .u8 (idOf xs)).toArray) ∧ Post w' ∧ Kept w w' S := by
  obtain ⟨wz, hwz⟩ : ∃ wz, wz = ((w.alloc (.cells zidL.toArray 74)).alloc (.cells zidL.toArray 74)).drew := ⟨_, rfl⟩
  have hbz : Below w.heap.size w wz := by rw [hwz]; exact below_drew1 (below_alloc (below_alloc (Below.refl _ _) _) _)
  have hz1 : wz.heap[w.heap.size]? = some (.cells zidL.toArray 74 (0, 0)) := by rw [hwz]; show ((w.alloc _).alloc _).heap[w.heap.size]? = _; rw [Below.heap_alloc _ _ _ (by simp)]; exact blk_new w _
  have hz2 : wz.heap[w.heap.size + 1]? = some (.cells zidL.toArray 74 (0, 0)) := by rw [hwz]; show ((w.alloc _).alloc _).heap[w.heap.size + 1]? = _; have := blk_new (w.alloc (.cells zidL.toArray 74)) (.cells zidL.toArray 74); simpa using this
  have hzs : wz.heap.size = w.heap.size + 2 := by rw [hwz]; show ((w.alloc _).alloc _).heap.size = _; simp
  have ht := Aside0.mk (ht wz hbz)
  have HX := Aside0.mk (And.intro hbz (And.intro hz1 (And.intro hz2 (And.intro hzs (And.intro hS (And.intro hlen hpost))))))
  have HW := Aside0.mk hwz
  clear hbz hz1 hz2 hzs hS hlen hpost hwz
  go_enter Tryd.func69, Tryd.ntmps69
  go_wp2
  refine start_ (n := 4) (S := fun w' => True) (ds := []) #[false, false, false, false] (by kernel_rfl) rfl (by kernel_rfl) (trivial) (fun hHeld => ?_)
  show wpAnyLast _ _ _ _ _ _ _ _ _ (World.drew ((w.alloc (.cells zidL.toArray 74)).alloc (.cells zidL.toArray 74)))
  rw [← HW.out]
  refine pure_ (i := 0) (N := some 4) (v := ?_) (a' := ?_) #[true, false, false, false] rfl rfl (by kernel_rfl) (fun _ _ _ h => h) (Or.inl ⟨by rfl, ?_⟩) ?_ ?_
  rotate_left
  · intro w'
    go_simp
    with_reducible rfl
  rotate_left
  · simp only [Act.put, List.setIfInBounds_toArray, List.set_cons_zero, List.set_cons_succ, i64_w, i32_w]
    rfl
  refine pure_ (i := 1) (N := some 5) (v := ?_) (a' := ?_) #[true, true, false, false] rfl rfl (by kernel_rfl) (fun _ _ _ h => h) (Or.inl ⟨by rfl, ?_⟩) ?_ ?_
  rotate_left
  · intro w'
    go_simp
    with_reducible rfl
  rotate_left
  · simp only [Act.put, List.setIfInBounds_toArray, List.set_cons_zero, List.set_cons_succ, i64_w, i32_w]
    rfl
  refine one_ (i := 2) (N := some 6) #[true, true, true, false] rfl rfl (by kernel_rfl) (by decide) (fun K hK => ?_)
  refine goes_ Tryd.func74 (by kernel_rfl) rfl #[.pointer p, .int .i64 32] (by rfl) rfl rfl (by (try simp only [List.map_toArray, List.map_cons, List.map_nil]); first | rfl | (go_simp; done)) ?_
  refine ht.out.mono ?_
  rintro e w1 ⟨A, k, c, rfl, hk, hkc, hC, hk1, hp1⟩
  refine ⟨_, rfl, ?_⟩
  refine hK.out _ _ (trivial) (fun hHeld => ?_)
  clear hK K
  refine norm_ (a' := ?_) ?_ ?_
  rotate_left
  · show Act.put _ (some 6) _ = _
    simp only [Act.put, List.setIfInBounds_toArray, List.set_cons_zero, List.set_cons_succ, i64_w, i32_w]
    rfl
  have HY := Aside0.mk (And.intro hk (And.intro hkc (And.intro hC (And.intro hk1 hp1))))
  clear hk hkc hC hk1 hp1
  refine one_ (i := 3) (N := some 7) #[true, true, true, true] rfl rfl (by kernel_rfl) (by decide) (fun K hK => ?_)
  refine step_copy_splice rfl (.tmp 4) (.tmp 6) 27 27 rfl 5 Tryd.underlying27 info_u8s _ _ _ _ _ _ rfl rfl (w.heap.size + 1) 0 zidL 74 ?cg (nums .u8 xs) ?cn ?cp ?cf ?co (w.heap.size + 1) w1 (Below.refl _ _) (Nat.le_refl _) ?_
  case cg => exact blk_kept HX.out.2.2.1 HY.out.2.2.2.1 (fun h => by have := HX.out.2.2.2.2.1 _ h; omega)
  case cn => rw [nums_length, HY.out.1]; rcases HX.out.2.2.2.2.2.1 with h | h <;> rw [h] <;> rfl
  case cp =>
    intro hp
    refine ⟨rfl, ?_⟩
    have hC := HY.out.2.2.1
    rw [nums_length] at hp
    obtain ⟨ad, rfl, hcell⟩ := hC.2.2 hp
    refine ⟨ad, rfl, fun j v hv => ?_⟩
    unfold nums at hv
    rw [List.getElem?_map] at hv
    obtain ⟨x, hx, rfl⟩ := Option.map_eq_some_iff.1 hv
    obtain ⟨cs, hl, hk, hc⟩ := hcell j x hx
    have h0 := hc 0 (.int .u8 x) (by rw [show cs = [.int .u8 x] from hk]; rfl)
    rwa [show j * (Kd.int IntKind.u8).sz + 0 = j from by show j * 1 + 0 = j; omega] at h0
  case cf => rw [nums_length, show zidL.length = 32 from rfl]; rcases HX.out.2.2.2.2.2.1 with h | h <;> rw [h] <;> simp
  case co => intro v hv; simp only [nums, List.mem_map] at hv; obtain ⟨x, _, rfl⟩ := hv; rfl
  intro w2 hg2 hb2
  refine hK.out _ _ (trivial) (fun hHeld => ?_)
  clear hK K
  refine norm_ (a' := ?_) ?_ ?_
  rotate_left
  · show Act.put _ (some 7) _ = _
    simp only [Act.put, List.setIfInBounds_toArray, List.set_cons_zero, List.set_cons_succ, i64_w, i32_w]
    rfl
  refine done_ (by kernel_rfl) ?_
  obtain ⟨ids, hids⟩ : ∃ ids, ids = idOf xs := ⟨_, rfl⟩
  have hq : idOf xs = (if xs = [] then List.replicate 32 0 else xs) := rfl
  have hid32 : ids.length = 32 := by rw [hids, hq]; rcases HX.out.2.2.2.2.2.1 with h | h; rw [if_pos h]; rfl; rw [if_neg (fun e => by rw [e] at h; simp at h)]; exact h
  have hsp : splice zidL 0 (nums .u8 xs) = nums .u8 ids := by
    rw [hids, hq]
    rcases HX.out.2.2.2.2.2.1 with h | h
    · rw [if_pos h, h, zid_cells]; rfl
    · rw [if_neg (fun e => by rw [e] at h; simp at h)]
      unfold splice
      rw [List.take_zero, List.nil_append, List.drop_of_length_le (by rw [nums_length, h]; decide), List.append_nil]
  obtain ⟨arr, harr⟩ : ∃ arr, arr = (nums .u8 ids).toArray := ⟨_, rfl⟩
  have hasz : arr.size = 32 := by rw [harr]; simp [nums, hid32]
  have ha1 : arr.all (·.oneCell') = true := by
    rw [harr, Array.all_eq_true_iff_forall_mem]
    intro v hv
    simp only [List.mem_toArray, nums, List.mem_map] at hv
    obtain ⟨x, _, rfl⟩ := hv
    rfl
  have hi : (Tryd.prog.info? 74).map (·.size) = some arr.size := by rw [hasz]; kernel_rfl
  have hold : zidL.toArray.size = arr.size := by rw [hasz]; rfl
  have hgb : w2.heap[w.heap.size + 1]? = some (.cells arr 74 (0, 0)) := by rw [harr, ← hsp]; exact hg2
  have hga : w2.heap[w.heap.size]? = some (.cells zidL.toArray 74 (0, 0)) := by
    rw [hb2.block _ (by omega)]
    exact blk_kept HX.out.2.1 HY.out.2.2.2.1 (fun h => by have := HX.out.2.2.2.2.1 _ h; omega)
  have HG := Aside0.mk (And.intro hgb (And.intro hga (And.intro hb2 (And.intro hids harr))))
  have HS := Aside0.mk (And.intro hi (And.intro hold ha1))
  clear hq hgb hga hb2 hids harr hi hold ha1 hasz hsp hid32 hg2
  go_wp2_with (first | (refine wpList_load_row rfl 74 (.tmp 3) rfl (w.heap.size + 1) rfl 74 arr (0, 0) _ HG.out.1 Tryd.underlying74 rfl HS.out.1 ?_) | (refine wpList_store_row rfl 74 (.tmp 2) (.tmp 8) rfl w.heap.size arr rfl rfl 74 zidL.toArray HG.out.2.1 HS.out.1 HS.out.2.1 HS.out.2.2 ?_))
  obtain ⟨hgb, hga, hb2, hids, harr⟩ := HG.out
  have hgn := setRow_heap w2 w.heap.size _ arr _ _ hga
  refine bodyPost_ret (results_cell_row rfl _ _ w.heap.size 74 arr (0, 0) _ rfl hgn Tryd.underlying74 rfl HS.out.1) rfl ?_
  obtain ⟨hbz, _, _, hzs, hS, _, hpost⟩ := HX.out
  obtain ⟨_, _, _, hk1, hp1⟩ := HY.out
  have hkw : Kept w w1 S := (Kept.of_below hbz _).then_ hk1 (fun k h => .inl h)
  have hw1 : w.heap.size + 2 ≤ w1.heap.size := by have := hk1.1; omega
  have hb3 : Below w.heap.size w1 (w2.setRow w.heap.size arr) := below_setRow (hb2.mono (by omega)) (Nat.le_refl _) _
  refine ⟨by rw [harr, hids], hpost _ _ hp1 hb3, hkw.then_ (S2 := fun k => w.heap.size ≤ k) ⟨by simpa using hb2.size, fun i hi hn => hb3.block i (by have h' : ¬ w.heap.size ≤ i := hn; omega)⟩ (fun k h => .inr h)⟩
theorem id_calls {w0 : World} (hB : Below w0.heap.size w0 w) (hF : ∀ k, F k → w0.heap.size ≤ k) (hFb : ∀ k, F k → k < w.heap.size) (hd : RdAt w F g R) :
    Calls Tryd.prog 69 #[.pointer (some ⟨g, 0, none⟩)] w fun e w' => e = .returned (.agg (nums .u8 R.id.2).toArray) ∧ RdAt w' F g R.id.1 ∧ Below w0.heap.size w0 w' ∧ Kept w w' (fun k => k = g) := by
  have hg : F g := by obtain ⟨_, _, h, _⟩ := hd; exact h
  refine (id_gen (some ⟨g, 0, none⟩) (R.fixed 32).2 (fun k => k = g) (fun w' => w.heap.size ≤ w'.heap.size ∧ RdAt w' F g R.id.1 ∧ Below w0.heap.size w0 w') (fun k h => by rw [h]; exact hFb g hg) (fixed_len R 32) ?_ ?_).mono ?_
  · intro W hb
    refine (take_any (below_step hB hb) hF (hd.below hb) 32).mono ?_
    rintro e w' ⟨A, k, c, rfl, h1, h2, h3, h4, h5, h6, h7, h8⟩
    exact ⟨A, k, c, rfl, h1, h2, h5, h8, Nat.le_trans hb.size h8.1, h6, h7⟩
  · rintro w1 w2 ⟨h0, h1, h2⟩ hb
    exact ⟨Nat.le_trans h0 hb.size, h1.kept (S := fun k => w.heap.size ≤ k) ⟨hb.size, fun i hi hn => hb.block i (by have h' : ¬ w.heap.size ≤ i := hn; omega)⟩ (fun k hk h => by have := hFb k hk; have h' : w.heap.size ≤ k := h; omega), h2.trans (hb.mono (below_size hB))⟩
  · rintro e w' ⟨rfl, ⟨_, h1, h2⟩, h3⟩
    exact ⟨rfl, h1, h2, h3⟩
end
end Go.Proofs.YtgjdcdhfijkoiaaDoor.Cod
end
