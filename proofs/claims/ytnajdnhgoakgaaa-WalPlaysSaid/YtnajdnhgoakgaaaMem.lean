/- Memory that is owned piece by piece: what a call keeps, sets of blocks that are apart, bytes as cells. -/
import Derived.Test.YtnajdnhgoakgaaaProg
import Derived.Test.YtnajdnhgoakgaaaWWa
import Derived.Lib.Bytes
import Derived.Laws.CopyOwn
import Derived.Lib.SliceRun
import Derived.Deep.DeepMust
namespace Go.Proofs.Ytnajdnhgoakgaaa.Mem
open Go.RowKit Go.Proofs.YtnajdnhgoakgaaaW.PrintWords Go.Proofs.YtnajdnhgoakgaaaW.PrintLast Go.Proofs.YtnajdnhgoakgaaaW.PrintMore
set_option linter.unusedVariables false
set_option linter.unusedSimpArgs false

/-! ### sets of blocks -/
/-- Nothing is in both. -/
def Apart (F G : Nat → Prop) : Prop := ∀ k, F k → ¬ G k
theorem Apart.symm {F G : Nat → Prop} (h : Apart F G) : Apart G F := fun k hg hf => h k hf hg
/-- All of it lies from 'base' on and below the heap's end. -/
def In (base : Nat) (w : World) (F : Nat → Prop) : Prop := ∀ k, F k → base ≤ k ∧ k < w.heap.size
/-- What was there, or is new since w. -/
def Or (F : Nat → Prop) (w : World) : Nat → Prop := fun k => F k ∨ w.heap.size ≤ k
theorem Apart.or {F G : Nat → Prop} {w : World} {b : Nat} (h : Apart F G) (hg : In b w G) : Apart (Or F w) G := by
  intro k hk hgk
  rcases hk with hk | hk
  · exact h k hk hgk
  · have := (hg k hgk).2; omega
theorem In.mono {b : Nat} {w w' : World} {F : Nat → Prop} (h : In b w F) (hs : w.heap.size ≤ w'.heap.size) : In b w' F := fun k hk => ⟨(h k hk).1, by have := (h k hk).2; omega⟩
/-- A set's part that lies in a world, from base on. -/
def Cut (base : Nat) (w : World) (F : Nat → Prop) : Nat → Prop := fun k => F k ∧ base ≤ k ∧ k < w.heap.size
theorem In.cut (base : Nat) (w : World) (F : Nat → Prop) : In base w (Cut base w F) := fun k hk => hk.2
theorem Apart.new {b : Nat} {w : World} {F G : Nat → Prop} (hf : In b w F) (hg : ∀ k, G k → w.heap.size ≤ k) : Apart F G := fun k h1 h2 => by
  have := (hf k h1).2
  have := hg k h2
  omega

/-! ### bytes as cells -/
def bc (s : ByteArray) : List Value := nums .u8 (bytesOf s)
theorem bc_length (s : ByteArray) : (bc s).length = s.size := by unfold bc; rw [nums_length, bytesOf_length]
theorem bc_one (s : ByteArray) : ∀ v ∈ bc s, v.oneCell' = true := by
  intro v hv
  simp only [bc, nums, List.mem_map] at hv
  obtain ⟨x, _, rfl⟩ := hv
  rfl
def Byt (l : List Int) : Prop := ∀ x ∈ l, 0 ≤ x ∧ x ≤ 255
theorem byt_bytesOf (s : ByteArray) : Byt (bytesOf s) := by
  intro x hx
  simp only [bytesOf, List.mem_map] at hx
  obtain ⟨b, _, rfl⟩ := hx
  have := b.toNat_lt
  omega
theorem bytesOf_str {l : List Int} (h : Byt l) : bytesOf (strOfNums l) = l := by
  unfold bytesOf
  rw [strOfNums_data, List.map_map]
  conv => rhs; rw [← List.map_id l]
  apply List.map_congr_left
  intro x hx
  have := h x hx
  simp only [Function.comp, UInt8.toNat_ofNat', id]
  omega
theorem str_bytesOf (s : ByteArray) : strOfNums (bytesOf s) = s := by
  apply ByteArray.ext
  apply Array.ext'
  show (strOfNums (bytesOf s)).data.toList = s.data.toList
  rw [strOfNums_data]
  unfold bytesOf
  rw [List.map_map]
  conv => rhs; rw [← List.map_id s.data.toList]
  apply List.map_congr_left
  intro x hx
  simp
theorem toList_inj {a b : ByteArray} : a.toList = b.toList ↔ a = b := by
  constructor
  · intro h
    apply ByteArray.ext
    apply Array.ext'
    have e : ∀ s : ByteArray, s.toList = s.data.toList := fun s => by
      have := Lib.strOfNums_toList (bytesOf s)
      rw [str_bytesOf] at this
      rw [this]
      have h2 := strOfNums_data (bytesOf s)
      rw [str_bytesOf] at h2
      rw [h2]
      rfl
    rw [← e, ← e, h]
  · intro h; rw [h]

/-! ### slices.Clone -/
theorem C_nil_list {α : Type} {d : Kd α} {w : World} {n : Nat} {xs : List α} (h : d.C w none n xs) : xs = [] := by
  rcases Nat.eq_zero_or_pos n with hz | hz
  · exact List.eq_nil_of_length_eq_zero (by rw [h.1, hz])
  · obtain ⟨ad, e, _⟩ := h.2.2 hz
    cases e
theorem info_u8 : (Try.prog.info? 5).map (fun i => (i.zero, i.size, i.bytes)) = some (some (.int .u8 0), 1, 1) := by kernel_rfl

set_option maxHeartbeats 1000000 in
/-- 's' in new memory; nil is handed back as nil, and nothing else is. -/
theorem clone_calls (A : Option Addr) (c : Nat) (xs : List Int) (w : World) (hr : Kd.C (Kd.int .u8) w A xs.length xs) (hc : xs.length ≤ c) (hl : xs.length < 140737488355328) :
    Calls Try.prog 47 #[.slice A xs.length c] w fun e w' => ∃ v : Value, e = .returned v ∧ Kd.R (Kd.int .u8) 5 w' w.heap.size (fun _ => True) v xs ∧ Below w.heap.size w w' ∧ (A = none → v = .slice none 0 0) ∧ (A ≠ none → v ≠ .slice none 0 0) := by
  have HR := Aside0.mk hr
  have HL := Aside0.mk hl
  clear hr hl hc
  rcases A with _ | ad
  · have HE := Aside0.mk (C_nil_list HR.out)
    have hq := fun W => Lib.run_eql_slice_nil (P := Try.prog) W 35 5 none xs.length c 0 0 Try.underlying35
    go_enter Try.func47, Try.ntmps47
    go_wp2
    go_ret
    exact ⟨_, rfl, by rw [HE.out]; exact Kd.R_nil _ _ _ _ _, Below.refl _ _, fun _ => rfl, fun h => absurd rfl h⟩
  · have hq := fun W => Lib.run_eql_slice_nil (P := Try.prog) W 35 5 (some ad) xs.length c 0 0 Try.underlying35
    go_enter Try.func47, Try.ntmps47
    go_wp2_with (first | ((with_reducible refine gate_dst (N := 5) rfl ?_); refine Kd.R_lit (Kd.int .u8) _ 5 ?hg (N := 5) ?hd (xs := ([] : List Int)) (inner := []) (ok := fun _ => True) (okp := fun _ => True) ?hr ?hp (fun _ hk => hk) trivial (Below.refl _ _) (Nat.le_refl _) (by simp) ?_; (case hd => rfl); (case hg => rfl); (case hr => first | (go_simp; done) | (go_simp; rfl)); (case hp => exact (Reps.none _ _)); intro v1 w1 ho1 hb1 hg_ hnew_; have HO := Aside0.mk ho1; have HB := Aside0.mk hb1; have HN := Aside0.mk hnew_; clear hg_ hnew_ ho1 hb1) | ((with_reducible refine gate_builtin (b := .append) (xs := #[.tmp 5, .tmp 6]) rfl ?_); at_builtin; refine Kd.R_append_rows (Kd.int .u8) (w0 := w) w.heap.size rfl (.tmp 5) (.tmp 6) 35 5 (.int .u8 0) 1 rfl Try.underlying35 info_u8 rfl (by decide) (by omega) _ [] xs _ _ _ (fun _ => True) (fun _ => False) rfl rfl HO.out (Kd.C_below HR.out HB.out) (fun _ _ h => h) (fun _ h => h.elim) (fun _ _ => trivial) HB.out (below_size HB.out) ?aL ?_; (case aL => have := HL.out; simp only [List.length_nil]; omega); intro v2 w2 ho2 hb2 hg2 hat2; have HO2 := Aside0.mk ho2; have HB2 := Aside0.mk hb2; have HA2 := Aside0.mk hat2; clear ho2 hb2 hg2 hat2))
    go_ret
    refine ⟨_, rfl, by simpa using HO2.out, HB2.out, fun h => (by cases h), fun _ hv => ?_⟩
    subst hv
    obtain ⟨b, hb, _⟩ := HN.out
    rcases HA2.out with h | ⟨b2, h, _⟩
    · have h' : (Value.slice none 0 0).ownBlock = v1.ownBlock := h
      rw [hb] at h'
      cases h'
    · cases h

theorem clone_n {n : Nat} (A : Option Addr) (c : Nat) (xs : List Int) (w : World) (hn : xs.length = n) (hr : Kd.C (Kd.int .u8) w A xs.length xs) (hc : n ≤ c) (hl : n < 140737488355328) :
    Calls Try.prog 47 #[.slice A n c] w fun e w' => ∃ v : Value, e = .returned v ∧ Kd.R (Kd.int .u8) 5 w' w.heap.size (fun _ => True) v xs ∧ Below w.heap.size w w' ∧ (A = none → v = .slice none 0 0) ∧ (A ≠ none → v ≠ .slice none 0 0) := by
  subst hn
  exact clone_calls A c xs w hr hc hl

/-! ### copy, as an event -/
section
variable {P : Program} {ops : Array Oper} {rest : List Oper} {o : Oper} {a : Act} {Q : Exit → Act → World → Prop}
theorem copy_event {w : World} (hgd : o.guard = none) (d s : Operand) (dT sT : TypeId)
    (ho : o.op = .call { callee := .builtin .copy, args := #[d, s], argTypes := #[dT, sT] }) (elem : TypeId) (hu : P.underlying dT = some (.slice elem)) (hsz : (P.info? elem).map (·.size) = some 1)
    (dp sp : Option Addr) (dLen dCap sLen sCap : Nat) (hd : a.eval d = .slice dp dLen dCap) (hs : a.eval s = .slice sp sLen sCap)
    (g off : Nat) (cur : List Value) (t : TypeId) (hg : w.heap[g]? = some (.cells cur.toArray t (0, 0))) (cs : List Value) (hn : cs.length = Nat.min sLen dLen)
    (hpos : 0 < cs.length → dp = some ⟨g, off, none⟩ ∧ ∃ ad, sp = some ad ∧ ∀ j v, cs[j]? = some v → w.cell? (ad.add j) = some v)
    (hfit : off + cs.length ≤ cur.length) (h1 : ∀ v ∈ cs, v.oneCell' = true) (B : Nat) (w0 : World) (hb : Below B w0 w) (hBg : B ≤ g)
    (h : ∀ w', w'.heap[g]? = some (.cells (splice cur off cs).toArray t (0, 0)) → Below B w0 w' → Kept w w' (fun k => k = g) → wpList P ops Q rest (a.put o.dst (goInt cs.length)) w') :
    wpList P ops Q (o :: rest) a w := by
  by_cases h0 : cs.length = 0
  · obtain rfl : cs = [] := List.eq_nil_of_length_eq_zero h0
    refine wpList_copy_nothing hgd d s dT sT ho elem hu hsz dp sp dLen dCap sLen sCap hd hs (by simpa using hn.symm) ?_
    exact h w (by simpa [splice] using hg) hb (Kept.refl _ _)
  · obtain ⟨rfl, ad, rfl, hsrc⟩ := hpos (by omega)
    refine wpList_copy_own hgd d s dT sT ho elem hu hsz g off dLen dCap ad sLen sCap hd hs cur.toArray t hg cs hn hsrc (by simpa using hfit) h1 ?_
    refine h _ (by simpa [splice] using setRow_heap w g _ _ t _ hg) (below_setRow hb hBg _) ⟨by simp [World.setRow], fun i _ hne => setRow_other w g i _ hne⟩
end

/-! ### bytes, cut and put together -/
theorem bytesOf_append (a b : ByteArray) : bytesOf (a ++ b) = bytesOf a ++ bytesOf b := by
  unfold bytesOf
  rw [← List.map_append]
  congr 1
theorem bytesOf_extract (s : ByteArray) (a b : Nat) : bytesOf (s.extract a b) = ((bytesOf s).take b).drop a := by
  unfold bytesOf
  rw [← List.map_take, ← List.map_drop]
  congr 1
  have h := Lib.extract_data s a b
  rw [h, List.drop_take]
theorem bc_append (a b : ByteArray) : bc (a ++ b) = bc a ++ bc b := by unfold bc; rw [bytesOf_append, nums_append]
theorem bc_extract (s : ByteArray) (a b : Nat) : bc (s.extract a b) = ((bc s).take b).drop a := by unfold bc nums; rw [bytesOf_extract, List.map_drop, List.map_take]
theorem cells_of_C {W : World} {A : Option Addr} {n : Nat} {s : ByteArray} (h : Kd.C (Kd.int .u8) W A n (bytesOf s)) (hn : 0 < n) : ∃ ad, A = some ad ∧ ∀ j v, (bc s)[j]? = some v → W.cell? (ad.add j) = some v := by
  obtain ⟨ad, e, hc⟩ := h.2.2 hn
  refine ⟨ad, e, fun j v hv => ?_⟩
  unfold bc nums at hv
  rw [List.getElem?_map] at hv
  obtain ⟨x, hx, rfl⟩ := Option.map_eq_some_iff.1 hv
  obtain ⟨c, hl, hk, hcell⟩ := hc j x hx
  have h0 := hcell 0 (.int .u8 x) (by rw [show c = [.int .u8 x] from hk]; rfl)
  rwa [show j * (Kd.int IntKind.u8).sz + 0 = j from by show j * 1 + 0 = j; omega] at h0
end Go.Proofs.Ytnajdnhgoakgaaa.Mem
