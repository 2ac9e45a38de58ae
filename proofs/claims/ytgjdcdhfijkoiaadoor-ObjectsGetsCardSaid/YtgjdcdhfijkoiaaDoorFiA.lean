/- strings.Index at a substring of one byte, and what it leans on (after the shelf's contracts). -/
import Derived.Test.YtgjdcdhfijkoiaaDoorChecked
import Derived.Lib.Strings
import Derived.Lib.Slices
import Derived.Lib.Walk
import Derived.Lib.Bytealg
import Derived.RangeFuncNested
import Derived.RangeFuncBound
import Derived.RangeFuncCalls
import Derived.RangeFuncLeaves
import Derived.RangeFuncBox
import Derived.Shelf.Abstract
import Derived.Shelf.RegionOpen
import Derived.WalkKit
import Derived.OwnWalkIn
import Derived.TacticsInMore
import Derived.LoopNIn
import Derived.LoopIn
import Derived.Maps.AppendAt
import Derived.Lib.IndexLaws
import Derived.Test.YtgjdcdhfijkoiaaDoorCoA
import Derived.WalkMore
import Derived.Maps.OwnOps
import Derived.Maps.Views
section
namespace Go.Proofs.YtgjdcdhfijkoiaaDoor.Str
set_option maxHeartbeats 1000000 in
set_option maxRecDepth 100000 in
theorem indexByte_calls (s : ByteArray) (c : Int) (w : World) :
    Calls Tryd.prog 89 #[.string s, .int .u8 c] w fun e w' => e = .returned (.int .i64 (Lib.indexByte s.data.toList c.toNat.toUInt8)) ∧ w' = w := by
  go_enter Tryd.func89, Tryd.ntmps89
  go_wp2
  rw [run_callFunc_extern Tryd.func93 (by kernel_rfl) (by kernel_rfl) (by kernel_rfl) (e := Extern.BytealgIndexByte.indexByte) (by kernel_rfl), Lib.run_indexByteString]
  simp only [Result.andThen]
  rw [Oper.upon_value]
  go_wp2
  go_ret
  exact ⟨rfl, rfl⟩
set_option maxHeartbeats 2000000 in
set_option maxRecDepth 100000 in
theorem slIndex_calls (s : ByteArray) (c : UInt8) (w : World) :
    Calls Tryd.prog 87 #[.string s, .string ⟨#[c]⟩] w fun e w' => e = .returned (.int .i64 (Lib.indexByte s.data.toList c)) ∧ w' = w := by
  go_enter Tryd.func87, Tryd.ntmps87
  go_wp2_with (go_at_call 89; refine (indexByte_calls _ _ _).mono ?_; rintro e w' ⟨rfl, rfl⟩)
  · have h : ([c] == s.toList) = true := by assumption
    go_ret
    refine ⟨?_, rfl⟩
    have e : s.data.toList = [c] := by rw [← Lib.toList_data]; exact (beq_iff_eq.1 h).symm
    rw [e]
    simp [Lib.indexByte]
  · go_ret
    exact ⟨rfl, rfl⟩
set_option maxHeartbeats 1000000 in
theorem strIndex_calls (s : ByteArray) (c : UInt8) (w : World) :
    Calls Tryd.prog 85 #[.string s, .string ⟨#[c]⟩] w fun e w' => e = .returned (.int .i64 (Lib.indexByte s.data.toList c)) ∧ w' = w := by
  go_enter Tryd.func85, Tryd.ntmps85
  go_wp2_with (go_at_call 87; refine (slIndex_calls _ _ _).mono ?_; rintro e w' ⟨rfl, rfl⟩)
  go_ret
  exact ⟨rfl, rfl⟩
end Go.Proofs.YtgjdcdhfijkoiaaDoor.Str
end
section
namespace Go.Proofs.YtgjdcdhfijkoiaaDoor.Str
open Go.RowKit Go.Shelf Go.Proofs.YtgjdcdhfijkoiaaDoorW.PrintWords Go.Proofs.YtgjdcdhfijkoiaaDoorW.PrintMore Go.Proofs.YtgjdcdhfijkoiaaDoor.Mem
attribute [local go_sem] Oper.semAt_some
set_option linter.unusedVariables false
set_option linter.unusedSimpArgs false
def slashAt (s : ByteArray) : Int := Lib.indexByte s.data.toList 47
/-- The names of a path. -/
def namesF : Nat → ByteArray → List ByteArray
  | 0, s => [s]
  | k + 1, s => if slashAt s < 0 then [s] else s.extract 0 (slashAt s).toNat :: namesF k (s.extract ((slashAt s).toNat + 1) s.size)
theorem slash_lt {s : ByteArray} {o : Nat} (h : slashAt s = o) : o < s.size := by
  have h1 := (Lib.indexByte_some h).1
  have h2 := (List.getElem?_eq_some_iff.1 h1).1
  simpa using h2
def namesB (s : ByteArray) : List ByteArray := namesF s.size s
/-- How much is left in the iterator's own variable. -/
def leftIn (B : Nat) (W : World) : Nat := match W.cell? ⟨B, 0, none⟩ with
  | some (.string s) => s.size
  | _ => 0
theorem leftIn_eq {W : World} {B : Nat} {t : TypeId} {s : ByteArray} (h : Boxed W B t (.string s)) : leftIn B W = s.size := by
  unfold leftIn
  rw [h.cell]
theorem Boxed.belowOf {W W' : World} {n₀ B : Nat} {t : TypeId} {v : Value} (h : Boxed W B t v) (hb : Below n₀ W W') (hB : B < n₀) : Boxed W' B t v := (hb.block B hB).trans h
set_option maxRecDepth 100000 in
set_option maxHeartbeats 4000000 in
theorem split1_in (n : Nat) (hn : 3 ≤ n) (l Bp Bs Bv n₀ : Nat) (s : ByteArray) (hsz : s.size ≤ 1000000000) (hBp : Bp < n₀) (hBs : Bs < n₀) (hBv : Bv < n₀) (hps : Bp ≠ Bs) (hvs : Bv ≠ Bs) (J Jx : List ByteArray → World → Prop)
    (hJs : ∀ pre W v, J pre W → J pre (W.setCell ⟨Bs, 0, none⟩ v))
    (hY : ∀ pre x W, J pre W → YieldAt Fence.wide (n - 1) Tryd.prog l #[.string x] W fun e W' => (e = .returned (.bool true) ∧ J (pre ++ [x]) W' ∧ Below n₀ W W') ∨ (e = .returned (.bool false) ∧ Jx (pre ++ [x]) W'))
    (W : World) (b1 : Boxed W Bp 9 (.string ⟨#[47]⟩)) (b2 : Boxed W Bs 9 (.string s)) (b3 : Boxed W Bv 3 (.int .i64 0)) (h0 : J [] W) :
    CallsIn Fence.wide n Tryd.prog 83 #[.func (.yield l) #[] #[], .pointer (some ⟨Bp, 0, none⟩), .pointer (some ⟨Bs, 0, none⟩), .pointer (some ⟨Bv, 0, none⟩)] W fun e W' => (∃ v, e = .returned v) ∧ (J (namesB s) W' ∨ ∃ pre, pre <+: namesB s ∧ Jx pre W') := by
  refine callsIn_of_wp Tryd.func83 rfl trivial ?_ rfl
  simp only [Tryd.ntmps83, List.size_toArray, List.length_cons, List.length_nil, Nat.reduceAdd, Nat.reduceSub, Array.replicate_succ, Array.replicate_zero, List.push_toArray, List.append_toArray, List.nil_append, List.cons_append]
  have c1 := b1.cell
  have hf85 : Fence.wide.fn 85 := trivial
  have h1n : 1 ≤ n := by omega
  gi_wp2
  gi_loopw [] (fun wr => ∃ (pre : List ByteArray) (rest : ByteArray) (k : Nat), rest.size ≤ k ∧ rest.size ≤ 1000000000 ∧ namesB s = pre ++ namesF k rest ∧ Boxed wr Bp 9 (.string ⟨#[47]⟩) ∧ Boxed wr Bs 9 (.string rest) ∧ Boxed wr Bv 3 (.int .i64 0) ∧ J pre wr)
    (fun wr => leftIn Bs wr)
  case atStart => exact ⟨[], s, s.size, Nat.le_refl _, hsz, rfl, b1, b2, b3, h0⟩
  case round =>
    obtain ⟨pre, rest, k, hk, hz, hnm, b1, b2, b3, hJ⟩ := hrel
    have c1 := b1.cell
    have c2 := b2.cell
    have c3 := b3.cell
    have f2 := b2.frozen
    obtain ⟨i, hi⟩ : ∃ i, i = slashAt rest := ⟨_, rfl⟩
    have hidx : Calls Tryd.prog 85 #[.string rest, .string ⟨#[47]⟩] wr fun e w' => e = .returned (.int .i64 i) ∧ w' = wr := by rw [hi]; exact strIndex_calls rest 47 wr
    by_cases hneg : i < 0
    · have hnk : namesF k rest = [rest] := by
        cases k with
        | zero => rfl
        | succ k => unfold namesF; rw [if_pos (by rw [← hi]; exact hneg)]
      rw [hnk] at hnm
      obtain ⟨fn, tmps, assign, body, hy, hR⟩ := hY pre rest wr hJ
      have d1 : decide (i < 0) = true := decide_eq_true hneg
      have HN := Aside0.mk hnm
      clear hY hJs hnm hnk hk hi b1 b2 b3
      gi_wp2_with (gi_at_call 85; go_loud (refine (callsIn_wide.2 hidx).mono ?_; clear hidx; rintro e w' ⟨rfl, rfl⟩; dsimp only))
      refine hR.mono ?_
      rintro e W3 (⟨rfl, hJ3, hk3⟩ | ⟨rfl, hJx3⟩)
      · gi_wp2
        go_end0
        exact ⟨⟨_, rfl⟩, .inl (by rw [HN.out]; exact hJ3)⟩
      · gi_wp2
        go_end0
        exact ⟨⟨_, rfl⟩, .inr ⟨_, by rw [HN.out]; exact List.prefix_refl _, hJx3⟩⟩
    · obtain ⟨o, ho⟩ : ∃ o : Nat, i = o := ⟨i.toNat, by omega⟩
      have hol : o < rest.size := slash_lt (by rw [← hi]; exact ho)
      obtain ⟨rest2, hr2⟩ : ∃ x, x = rest.extract (o + 1) rest.size := ⟨_, rfl⟩
      have hz2 : rest2.size = rest.size - (o + 1) := by rw [hr2, ByteArray.size_extract, Nat.min_self]
      obtain ⟨k2, rfl⟩ : ∃ k2, k = k2 + 1 := ⟨k - 1, by omega⟩
      have hnk : namesF (k2 + 1) rest = rest.extract 0 o :: namesF k2 rest2 := by
        rw [namesF, if_neg (by rw [← hi]; exact hneg), ← hi, ho, Int.toNat_natCast, ← hr2]
      rw [hnk] at hnm
      obtain ⟨fn, tmps, assign, body, hy, hR⟩ := hY pre (rest.extract 0 o) wr hJ
      subst ho
      have hle : o ≤ rest.size := by omega
      have hle1 : o + 1 ≤ rest.size := by omega
      have hob : o < 1000000000 := by omega
      have hw1 : wrap64 ((o : Int) + 1) = ((o + 1 : Nat) : Int) := (IntWalk.wrap64_in _ ⟨by omega, by omega⟩).trans (by omega)
      have hw0 : wrap64 (o : Int) = (o : Int) := by clear hw1; exact IntWalk.wrap64_in _ ⟨by omega, by omega⟩
      have HN := Aside0.mk (And.intro hnm (And.intro hk (And.intro hz (And.intro hz2 (And.intro hol (And.intro b1 (And.intro b2 b3)))))))
      clear hY hnm hnk hk hi b1 b2 b3 hneg hz hz2 hol
      gi_wp2_with (gi_at_call 85; go_loud (refine (callsIn_wide.2 hidx).mono ?_; clear hidx; rintro e w' ⟨rfl, rfl⟩; dsimp only))
      refine hR.mono ?_
      clear hR hy
      rintro e W3 (⟨rfl, hJ3, hk3⟩ | ⟨rfl, hJx3⟩)
      · have b1' := Boxed.belowOf HN.out.2.2.2.2.2.1 hk3 hBp
        have b2' := Boxed.belowOf HN.out.2.2.2.2.2.2.1 hk3 hBs
        have b3' := Boxed.belowOf HN.out.2.2.2.2.2.2.2 hk3 hBv
        have c1' := b1'.cell
        have c2' := b2'.cell
        have f2' := b2'.frozen
        have HB := Aside0.mk (And.intro (b1'.other hps (.string rest2)) (And.intro (b2'.set (.string rest2)) (And.intro (b3'.other hvs (.string rest2)) (And.intro (hJs _ _ (.string rest2) hJ3) b2'))))
        have HR2 := Aside0.mk hr2
        clear c1 c2 c3 f2 b1' b2' b3' hk3 hJ3 hJs hr2
        gi_wp2
        go_roundw
        case rel =>
          rw [← HR2.out]
          exact ⟨_, rest2, k2, by have h1 := HN.out.2.1; have h2 := HN.out.2.2.2.1; omega, by have h1 := HN.out.2.2.1; have h2 := HN.out.2.2.2.1; omega, by rw [HN.out.1, List.append_assoc]; rfl, HB.out.1, HB.out.2.1, HB.out.2.2.1, HB.out.2.2.2.1⟩
        case measure =>
          rw [← HR2.out, leftIn_eq HB.out.2.1, leftIn_eq HN.out.2.2.2.2.2.2.1]
          have h1 := HN.out.2.2.2.1; have h2 := HN.out.2.2.2.2.1
          omega
      · gi_wp2
        refine bodyPost_ret (results_none rfl _ _ _) rfl ?_
        exact ⟨⟨_, rfl⟩, .inr ⟨_, by rw [HN.out.1]; exact ⟨namesF k2 rest2, by simp⟩, hJx3⟩⟩
end Go.Proofs.YtgjdcdhfijkoiaaDoor.Str
end
section
namespace Go.Proofs.YtgjdcdhfijkoiaaDoor.Str
open Go.RowKit Go.Shelf Go.Proofs.YtgjdcdhfijkoiaaDoorW.PrintWords Go.Proofs.YtgjdcdhfijkoiaaDoorW.PrintMore Go.Proofs.YtgjdcdhfijkoiaaDoor.Mem
attribute [local go_sem] Oper.semAt_some
set_option linter.unusedVariables false
set_option linter.unusedSimpArgs false
/-- All below n₀ but one block is as it was. -/
structure Fr (n₀ Bs : Nat) (W W' : World) : Prop where
  os : W'.os = W.os
  tape : W'.tape = W.tape
  output : W'.output = W.output
  size : W.heap.size ≤ W'.heap.size
  block : ∀ k, k < n₀ → k ≠ Bs → W'.heap[k]? = W.heap[k]?
theorem Fr.of_below {n₀ Bs : Nat} {W W' : World} (h : Below n₀ W W') : Fr n₀ Bs W W' := ⟨h.os, h.tape, h.output, h.size, fun k hk _ => h.block k hk⟩
theorem Fr.alloc {n₀ Bs : Nat} {W : World} (o : Obj) (hn : n₀ ≤ W.heap.size) : Fr n₀ Bs W (W.alloc o) := .of_below ((Below.refl n₀ W).alloc hn o)
theorem Fr.put {n₀ Bs l : Nat} {W : World} {o : Obj} (hl : n₀ ≤ l) : Fr n₀ Bs W (W.putObj l o) := ⟨rfl, rfl, rfl, by simp [World.putObj], fun k hk _ => World.putObj_heap_other (by omega)⟩
theorem Fr.set {n₀ Bs : Nat} {W : World} (v : Value) : Fr n₀ Bs W (W.setCell ⟨Bs, 0, none⟩ v) := ⟨rfl, rfl, rfl, by simp [World.setCell], fun k _ hk => Below.heap_setCell W _ v k hk⟩
theorem Fr.boxed {n₀ Bs B : Nat} {W W' : World} {t : TypeId} {v : Value} (h : Boxed W B t v) (hf : Fr n₀ Bs W W') (h1 : B < n₀) (h2 : B ≠ Bs) : Boxed W' B t v := (hf.block B h1 h2).trans h
theorem Fr.below {n₀ Bs m : Nat} {w W W' : World} (h : Below m w W) (hf : Fr n₀ Bs W W') (h1 : m ≤ Bs) (h2 : Bs < n₀) : Below m w W' :=
  ⟨hf.os.trans h.os, hf.tape.trans h.tape, hf.output.trans h.output, Nat.le_trans h.size hf.size, fun k hk => (hf.block k (by omega) (by omega)).trans (h.block k hk)⟩
/-- How a round's body may be left. -/
def splitPost (n₀ : Nat) (I Ix : List ByteArray → World → Prop) (xs : List ByteArray) (W : World) : Exit → Act → World → Prop
  | .normal, _, W' => KeepsFrom n₀ W W' ∧ Below n₀ W W' ∧ I xs W'
  | .ret, _, W' => KeepsFrom n₀ W W' ∧ Ix xs W'
  | _, _, _ => False
theorem range_split {g : Operand} {p : Tmp} {assign body : Code} {Q : Exit → Act → World → Prop} {a : Act} {w : World} {n : Nat} (hn : 5 ≤ n) {Bp Bs Bv : Nat} {s : ByteArray} (hsz : s.size ≤ 1000000000)
    (hg : a.eval g = .func (.func 83) #[] #[.pointer (some ⟨Bp, 0, none⟩), .pointer (some ⟨Bs, 0, none⟩), .pointer (some ⟨Bv, 0, none⟩)])
    (b1 : Boxed w Bp 9 (.string ⟨#[47]⟩)) (b2 : Boxed w Bs 9 (.string s)) (b3 : Boxed w Bv 3 (.int .i64 0)) (hps : Bp ≠ Bs) (hvs : Bv ≠ Bs)
    (I Ix : List ByteArray → World → Prop) (hI : ∀ xs W W', I xs W → Fr w.heap.size Bs W W' → I xs W') (hIx : ∀ xs W W', Ix xs W → Fr w.heap.size Bs W W' → Ix xs W') (h0 : I [] w) (a₁ : ByteArray → Act)
    (hassign : ∀ (l : Nat) (x : ByteArray) (W : World) (K : Act → World → Prop), K (a₁ x) W → assign.wpIn (Fence.wide.inRound l) (n - 1 - 1) Tryd.prog (Exit.then K (fun _ _ _ => False)) { tmps := ((#[p] : Array Tmp).zip #[Value.string x]).foldl (fun t (p, v) => t.setIfInBounds p v) a.tmps, defers := [] } W)
    (hbody : ∀ (l : Nat) (pre : List ByteArray) (x : ByteArray) (W : World), I pre W → body.wpIn (Fence.wide.inRound l) (n - 1 - 1) Tryd.prog (splitPost w.heap.size I Ix (pre ++ [x]) W) (a₁ x) W)
    (hdone : ∀ (D : Nat) (W : World), w.heap.size ≤ D → I (namesB s) W → W.heap[D]? = some (.deferred (some [])) → Q .normal { a with defers := { target := .collected D, args := #[] } :: a.defers } W)
    (hstop : ∀ (D : Nat) (pre : List ByteArray) (W : World), w.heap.size ≤ D → pre <+: namesB s → Ix pre W → W.heap[D]? = some (.deferred (some [])) → Code.ret.wpIn Fence.wide n Tryd.prog Q { a with defers := { target := .collected D, args := #[] } :: a.defers } W) :
    (Code.rangeFunc g #[p] assign body).wpIn Fence.wide n Tryd.prog Q a w := by
  obtain ⟨n₀, hn₀⟩ : ∃ n₀, n₀ = w.heap.size := ⟨_, rfl⟩
  refine wpIn_rangeFunc fun fn _ => ?_
  obtain ⟨rec, hrec⟩ : ∃ rec : LoopState → Option Code → Loop, rec = fun st pe => { state := st, pending := pe, fn, tmps := a.tmps, params := #[p], assign, body, defers := w.heap.size } := ⟨_, rfl⟩
  obtain ⟨W1, hW1⟩ : ∃ W1, W1 = (w.alloc (.deferred (some []))).alloc (.loop (rec .ready none)) := ⟨_, rfl⟩
  have f1 : Below n₀ w W1 := by rw [hW1, hn₀]; exact ((Below.refl _ w).alloc (Nat.le_refl _) _).alloc (by simp) _
  have hL : W1.heap[n₀ + 1]? = some (.loop (rec .ready none)) := by
    rw [hW1, hn₀, ← World.size_alloc w (.deferred (some []))]; exact World.alloc_heap_new _ _
  have hD : W1.heap[n₀]? = some (.deferred (some [])) := by
    rw [hW1, hn₀]; exact (Below.heap_alloc _ _ _ (by simp)).trans (World.alloc_heap_new w _)
  refine ⟨n₀ + 1, [{ target := .collected n₀, args := #[] }], W1, { target := .fn (.func 83) #[.pointer (some ⟨Bp, 0, none⟩), .pointer (some ⟨Bs, 0, none⟩), .pointer (some ⟨Bv, 0, none⟩)], args := #[.func (.yield (n₀ + 1)) #[] #[]] }, W1, 83,
    #[.func (.yield (n₀ + 1)) #[] #[], .pointer (some ⟨Bp, 0, none⟩), .pointer (some ⟨Bs, 0, none⟩), .pointer (some ⟨Bv, 0, none⟩)], W1, ?_, ?_, fun _ _ => trivial, ?_, fun h => (by cases h), ?_⟩
  · rw [hW1, hrec, hn₀]; exact run_enterLoop_outer _ _ _ _ _
  · simp only [resolve, hg]
    simp [go_sem]
  · have := enters_of Tryd.func83 (by kernel_rfl) rfl
    simp [invoke, go_sem, this]
  · have hBp : Bp < n₀ := by rw [hn₀]; exact b1.lt
    have hBs : Bs < n₀ := by rw [hn₀]; exact b2.lt
    have hBv : Bv < n₀ := by rw [hn₀]; exact b3.lt
    rw [← hn₀] at hI hIx hbody hdone hstop
    refine (split1_in (n - 1) (by omega) (n₀ + 1) Bp Bs Bv n₀ s hsz hBp hBs hBv hps hvs
      (fun pre W => I pre W ∧ W.heap[n₀ + 1]? = some (.loop (rec .ready none)) ∧ W.heap[n₀]? = some (.deferred (some [])))
      (fun pre W => Ix pre W ∧ W.heap[n₀ + 1]? = some (.loop (rec .done (some .ret))) ∧ W.heap[n₀]? = some (.deferred (some [])))
      (fun pre W v h => ⟨hI _ _ _ h.1 (Fr.set v), (Below.heap_setCell W _ v _ (by show n₀ + 1 ≠ Bs; omega)).trans h.2.1, (Below.heap_setCell W _ v _ (by show n₀ ≠ Bs; omega)).trans h.2.2⟩)
      ?round W1 (Boxed.belowOf b1 f1 hBp) (Boxed.belowOf b2 f1 hBs) (Boxed.belowOf b3 f1 hBv) ⟨hI _ _ _ h0 (Fr.of_below f1), hL, hD⟩).mono ?behind
    case round =>
      rintro pre x W ⟨hi, hl, hd⟩
      have hlt : n₀ + 1 < W.heap.size := (Array.getElem?_eq_some_iff.1 hl).1
      have hy := run_yield (P := Tryd.prog) (args := #[.string x]) hl (by rw [hrec]; rfl)
      rw [hrec] at hy
      obtain ⟨busy, hbusy⟩ : ∃ b, b = ({ rec .ready none with state := .busy } : Loop) := ⟨_, rfl⟩
      obtain ⟨W2, hW2⟩ : ∃ W2, W2 = W.putObj (n₀ + 1) (.loop busy) := ⟨_, rfl⟩
      have hl2 : W2.heap[n₀ + 1]? = some (.loop busy) := by rw [hW2]; exact World.putObj_heap_same hlt
      have hd2 : W2.heap[n₀]? = some (.deferred (some [])) := by rw [hW2]; exact (World.putObj_heap_other (by omega)).trans hd
      have f2 : Fr n₀ Bs W W2 := by rw [hW2]; exact Fr.put (by omega)
      have g2 : Below n₀ W W2 := by rw [hW2]; exact ⟨rfl, rfl, rfl, by simp [World.putObj], fun k hk => World.putObj_heap_other (by omega)⟩
      refine ⟨fn, _, assign, body, hy, roundIn_of_wpIn trivial (hassign _ x W _ ?_)⟩
      refine ⟨W2, by rw [hW2, hbusy]; exact run_beginRound hl (by rw [hrec]), ?_⟩
      refine wpIn_mono (hbody _ pre x W2 (hI _ _ _ hi f2)) ?_
      rintro e a3 W3 hp
      cases e with
      | normal =>
        obtain ⟨k3, g3, i3⟩ := hp
        have hl3 := k3.same _ _ (by omega) hl2 rfl
        have hr := run_endRound (P := Tryd.prog) none hl3
        obtain ⟨W4, hW4⟩ : ∃ W4, W4 = W3.putObj (n₀ + 1) (.loop (rec .ready none)) := ⟨_, rfl⟩
        refine ⟨_, W4, by rw [hW4]; rw [hbusy, hrec] at hr; rw [hrec]; exact hr, .inl ⟨rfl, ⟨hI _ _ _ i3 (by rw [hW4]; exact Fr.put (by omega)), by rw [hW4]; exact World.putObj_heap_same (Array.getElem?_eq_some_iff.1 hl3).1, by rw [hW4]; exact (World.putObj_heap_other (by omega)).trans (k3.same _ _ (Nat.le_refl _) hd2 rfl)⟩, ?_⟩⟩
        exact (g2.trans g3).trans (by rw [hW4]; exact ⟨rfl, rfl, rfl, by simp [World.putObj], fun k hk => World.putObj_heap_other (by omega)⟩)
      | ret =>
        obtain ⟨k3, i3⟩ := hp
        have hl3 := k3.same _ _ (by omega) hl2 rfl
        have hr := run_endRound (P := Tryd.prog) (some .ret) hl3
        obtain ⟨W4, hW4⟩ : ∃ W4, W4 = W3.putObj (n₀ + 1) (.loop (rec .done (some .ret))) := ⟨_, rfl⟩
        exact ⟨_, W4, by rw [hW4]; rw [hbusy, hrec] at hr; rw [hrec]; exact hr, .inr ⟨rfl, hIx _ _ _ i3 (by rw [hW4]; exact Fr.put (by omega)), by rw [hW4]; exact World.putObj_heap_same (Array.getElem?_eq_some_iff.1 hl3).1, by rw [hW4]; exact (World.putObj_heap_other (by omega)).trans (k3.same _ _ (Nat.le_refl _) hd2 rfl)⟩⟩
      | exit id => exact hp.elim
      | goto t => exact hp.elim
      | panic ch => exact hp.elim
      | outgrown => exact hp.elim
    case behind =>
      rintro e W2 ⟨⟨v, rfl⟩, ⟨hi, hl, hd⟩ | ⟨pre, hpre, hi, hl, hd⟩⟩
      · have he := run_endLoop (P := Tryd.prog) hl (by rw [hrec]; simp)
        refine ⟨none, _, by rw [hrec] at he; exact he, ?_⟩
        exact hdone n₀ _ (Nat.le_refl _) (hI _ _ _ hi (Fr.put (by omega))) ((World.putObj_heap_other (by omega)).trans hd)
      · have he := run_endLoop (P := Tryd.prog) hl (by rw [hrec]; simp)
        refine ⟨some .ret, _, by rw [hrec] at he; exact he, ?_⟩
        exact hstop n₀ pre _ (Nat.le_refl _) hpre (hIx _ _ _ hi (Fr.put (by omega))) ((World.putObj_heap_other (by omega)).trans hd)
end Go.Proofs.YtgjdcdhfijkoiaaDoor.Str
end
section
namespace Go.Proofs.YtgjdcdhfijkoiaaDoor.Str
open Go.RowKit Go.Shelf Go.Proofs.YtgjdcdhfijkoiaaDoorW.PrintWords Go.Proofs.YtgjdcdhfijkoiaaDoorW.PrintMore Go.Proofs.YtgjdcdhfijkoiaaDoor.Mem
attribute [local go_sem] Oper.semAt_some
set_option linter.unusedVariables false
set_option linter.unusedSimpArgs false
section
variable {F : Fence} {n : Nat} {P : Program} {Q : Exit → Act → World → Prop} {b : Frame} {a : Act} {k : List Item} {cs : List Frame} {w : World}
theorem enter_scope {c : Code} : step P (lone (b.atR a (.code (.scope c) :: k)) cs w) = .next (lone (b.atR a (.code c :: .inScope c :: k)) cs w) :=
  step_lone_go (by simp [stepG, stepG.exec, Frame.atR])
theorem leave_scope {c : Code} : step P (lone (b.atR a (.inScope c :: k)) cs w) = .next (lone (b.atR a k) cs w) :=
  step_lone_go (by simp [stepG, stepG.exec, Frame.atR])
/-- A scope through which the run goes without a goto, in a fence. -/
theorem scope_in {c : Code} (h : c.wpIn F n P (Exit.noGoto Q) a w) : (Code.scope c).wpIn F n P Q a w := by
  intro b k cs hro hb hr
  have h0 : (lone (b.atR a (.code (.scope c) :: k)) cs w).fenced P F := fenced_calm hb hr rfl
  obtain ⟨e, a₁, w₁, hq, harr⟩ := h b (.inScope c :: k) cs hro hb hr
  cases e with
  | normal => exact ⟨.normal, a₁, w₁, hq, .head h0 enter_scope (StepsIn.trans harr (.one (fenced_calm hb hr rfl) leave_scope))⟩
  | exit id =>
    have hx : exitTo id (.inScope c :: k) = exitTo id k := by simp [exitTo]
    exact ⟨.exit id, a₁, w₁, hq, fun k' hk => .head h0 enter_scope (harr.1 k' (by rw [hx]; exact hk)),
      fun hr' hk => let ⟨k₁, h1, h2⟩ := harr.2 hr' (by rw [hx]; exact hk); ⟨k₁, h1, .head h0 enter_scope h2⟩⟩
  | goto l => exact hq.elim
  | ret => exact ⟨_, a₁, w₁, hq, .of_steps (.one h0 enter_scope) harr⟩
  | panic ch => exact ⟨_, a₁, w₁, hq, .of_steps (.one h0 enter_scope) harr⟩
  | outgrown => exact ⟨_, a₁, w₁, hq, .of_steps (.one h0 enter_scope) harr⟩
end
def okName (n : ByteArray) : Bool := !(n.toList.isEmpty || n.toList == [46] || n.toList == [46, 46])
def pathM (s : ByteArray) : Bool := decide (1 ≤ s.size ∧ s.size ≤ 255) && s.toList.all (fun c => decide (32 ≤ c.toNat)) && (namesB s).all okName
section
variable {w : World}
theorem splitSeq_calls (s : ByteArray) (w : World) : Calls Tryd.prog 45 #[.string s, .string ⟨#[47]⟩] w fun e w' => ∃ Bp Bs Bv, e = .returned (.func (.func 83) #[] #[.pointer (some ⟨Bp, 0, none⟩), .pointer (some ⟨Bs, 0, none⟩), .pointer (some ⟨Bv, 0, none⟩)]) ∧ Boxed w' Bp 9 (.string ⟨#[47]⟩) ∧ Boxed w' Bs 9 (.string s) ∧ Boxed w' Bv 3 (.int .i64 0) ∧ Bp ≠ Bs ∧ Bv ≠ Bs ∧ w.heap.size ≤ Bs ∧ Below w.heap.size w w' := by
  have h : Calls Tryd.prog 73 #[.string s, .string ⟨#[47]⟩, .int .i64 0] w fun e w' => ∃ Bp Bs Bv, e = .returned (.func (.func 83) #[] #[.pointer (some ⟨Bp, 0, none⟩), .pointer (some ⟨Bs, 0, none⟩), .pointer (some ⟨Bv, 0, none⟩)]) ∧ Boxed w' Bp 9 (.string ⟨#[47]⟩) ∧ Boxed w' Bs 9 (.string s) ∧ Boxed w' Bv 3 (.int .i64 0) ∧ Bp ≠ Bs ∧ Bv ≠ Bs ∧ w.heap.size ≤ Bs ∧ Below w.heap.size w w' := by
    go_enter Tryd.func73, Tryd.ntmps73
    go_wp2
    go_ret
    have b1 := Boxed.new w 9 (.string s)
    have b2 := Boxed.new (w.alloc (.cells #[.string s] 9)) 9 (.string ⟨#[47]⟩)
    have b3 := Boxed.new ((w.alloc (.cells #[.string s] 9)).alloc (.cells #[.string ⟨#[47]⟩] 9)) 3 (.int .i64 0)
    simp only [World.size_alloc] at b2 b3
    refine ⟨w.heap.size + 1, w.heap.size, w.heap.size + 1 + 1, by simp, b2.alloc _, (b1.alloc _).alloc _, b3, by omega, by omega, Nat.le_refl _, ?_⟩
    exact below_alloc (below_alloc (below_alloc (Below.refl _ _) _) _) _
  go_enter Tryd.func45, Tryd.ntmps45
  go_wp2_with (go_at_call 73; refine h.mono ?_; clear h; rintro e w1 ⟨Bp, Bs, Bv, rfl, h⟩; dsimp only)
  go_ret
  exact ⟨_, _, _, rfl, h⟩
theorem results_box {fn : Func} {p : Tmp} {ty : TypeId} {B : Nat} {v : Value} {P : Program} (h : fn.results = #[.cell p ty]) (tmps : Array Value) (w : World) (ha : tmps[p]?.getD undef = .pointer (some ⟨B, 0, none⟩)) (hl : (loadVar ty ⟨B, 0, none⟩).run P w = .ok v w) : (results fn tmps).run P w = .ok v w := by
  simp only [results, h]
  simp [Sem.run_bind, Result.andThen, ha, asAddr, hl]
theorem load_bool {w : World} {B : Nat} {v : Bool} (h : Boxed w B 4 (.bool v)) : (loadVar 4 ⟨B, 0, none⟩).run Tryd.prog w = .ok (.bool v) w := by
  have c := h.cell
  go_simp
theorem all_lt {s : ByteArray} {j : Nat} (hj : j < s.size) (hc : s[j].toNat < 32) : pathM s = false := by
  unfold pathM
  have : s.toList.all (fun c => decide (32 ≤ c.toNat)) = false := by
    rw [List.all_eq_false]
    exact ⟨s[j], by rw [Lib.toList_data]; exact Array.mem_toList_iff.2 (Array.getElem_mem (xs := s.data) (i := j) hj), by simp; omega⟩
  rw [this]
  simp
set_option maxRecDepth 100000 in
set_option maxHeartbeats 4000000 in
theorem path_in (s : ByteArray) (w : World) : CallsIn Fence.wide 7 Tryd.prog 18 #[.string s] w fun e w' => e = .returned (.bool (pathM s)) ∧ Below w.heap.size w w' := by
  refine callsIn_of_wp_marks Tryd.func18 rfl trivial ?_ rfl
  simp only [Tryd.ntmps18, List.size_toArray, List.length_cons, List.length_nil, Nat.reduceAdd, Nat.reduceSub, Array.replicate_succ, Array.replicate_zero, List.push_toArray, List.append_toArray, List.nil_append, List.cons_append]
  have b0 := Boxed.new w 4 (.bool false)
  have hb0 : Below w.heap.size w (w.alloc (.cells #[.bool false] 4)) := (Below.refl _ w).alloc (Nat.le_refl _) _
  by_cases h1 : s.size < 1 ∨ 255 < s.size
  · have hp : pathM s = false := by
      unfold pathM
      rw [decide_eq_false (by omega)]
      rfl
    have HH := Aside0.mk (And.intro b0 (And.intro hb0 hp))
    have hd : decide ((s.size : Int) < 1) = true ∨ (decide ((s.size : Int) < 1) = false ∧ decide ((s.size : Int) > 255) = true) := by
      by_cases h2 : s.size < 1
      · exact .inl (decide_eq_true (by omega))
      · exact .inr ⟨decide_eq_false (by omega), decide_eq_true (by omega)⟩
    rcases hd with d1 | ⟨d1, d2⟩
    all_goals
      gi_wp2
      refine scope_in ?_
      gi_wp2
      exact ⟨_, results_box rfl _ _ rfl (load_bool HH.out.1), by rw [HH.out.2.2], HH.out.2.1⟩
  · have d1 : decide ((s.size : Int) < 1) = false := decide_eq_false (by omega)
    have d2 : decide ((s.size : Int) > 255) = false := decide_eq_false (by omega)
    have h255 : s.size ≤ 255 := by omega
    gi_wp2
    refine scope_in ?_
    gi_wp2
    obtain ⟨w1, hw1⟩ : ∃ x, x = w.alloc (.cells #[.bool false] 4) := ⟨_, rfl⟩
    rw [← hw1] at b0 hb0 ⊢
    have H1 := Aside0.mk (And.intro b0 hb0)
    have c0 := b0.cell
    have f0 := b0.frozen
    clear hw1 b0 hb0
    gi_loopw [15] (fun v15 wr => ∃ j : Nat, v15 = .int .i64 j ∧ wr = w1 ∧ j ≤ s.size ∧ Aside0 (∀ k (h : k < s.size), k < j → ¬ s[k].toNat < 32)) (fun v15 _ => s.size - (intOf v15).toNat)
    case atStart => exact ⟨0, rfl, rfl, Nat.zero_le _, ⟨fun k _ hk => by omega⟩⟩
    case round =>
      obtain ⟨j, rfl, rfl, hj, hI⟩ := hrel
      by_cases hlt : j < s.size
      · have d3 : decide ((j : Int) < (s.size : Int)) = true := decide_eq_true (by omega)
        by_cases hc : s[j].toNat < 32
        · gi_wp2
          exact ⟨_, results_box rfl _ _ rfl (load_bool (H1.out.1.set (.bool false))), by rw [all_lt hlt hc], below_set H1.out.2 (Nat.le_refl _)⟩
        · gi_wp2
          go_roundw
          case rel => exact ⟨j + 1, by go_num, by first | rfl | trivial, by omega, ⟨fun k hk hkj => by
              by_cases hk2 : k < j
              · exact hI.out k hk hk2
              · obtain rfl : k = j := by omega
                exact hc⟩⟩
          case measure =>
            simp [intOf]
            omega
      · obtain rfl : j = s.size := by omega
        have d3 : decide ((s.size : Int) < (s.size : Int)) = false := decide_eq_false (by omega)
        gi_wp2
        apply wpIn_label
        have hf45 : Fence.wide.fn 45 := trivial
        have h17 : 1 ≤ 7 := by omega
        gi_wp2_with (gi_at_call 45; go_loud (refine (callsIn_wide.2 (splitSeq_calls s wr)).mono ?_; rintro e w2 ⟨Bp, Bs, Bv, rfl, h2⟩; dsimp only; have H2 := Aside0.mk h2; clear h2))
        have hlt1 : w.heap.size < wr.heap.size := H1.out.1.lt
        have hlt2 : Bs < w2.heap.size := H2.out.2.1.lt
        have hlo : wr.heap.size ≤ Bs := H2.out.2.2.2.2.2.1
        refine range_split (n := 7) (by omega) (by omega) rfl H2.out.1 H2.out.2.1 H2.out.2.2.1 H2.out.2.2.2.1 H2.out.2.2.2.2.1
          (fun pre W => Boxed W w.heap.size 4 (.bool false) ∧ Below w.heap.size w W ∧ ∀ x ∈ pre, okName x = true)
          (fun pre W => Boxed W w.heap.size 4 (.bool false) ∧ Below w.heap.size w W ∧ ∃ x ∈ pre, okName x = false)
          (fun xs W W' h f => ⟨f.boxed h.1 (by omega) (by omega), Fr.below h.2.1 f (by omega) hlt2, h.2.2⟩) (fun xs W W' h f => ⟨f.boxed h.1 (by omega) (by omega), Fr.below h.2.1 f (by omega) hlt2, h.2.2⟩)
          ⟨Boxed.belowOf H1.out.1 H2.out.2.2.2.2.2.2 hlt1, below_step H1.out.2 H2.out.2.2.2.2.2.2, fun x hx => by cases hx⟩
          (fun x => { tmps := #[.string s, undef, .pointer (some ⟨w.heap.size, 0, none⟩), u3, .string x, .string s, .int .i64 s.size, .bool false, .bool false, .string s, .int .i64 s.size, .bool false, .bool false, .string s, .int .i64 s.size, .int .i64 s.size, .bool false, u17, u18, u19, u20, u21, u22, .string s, .func (.func 83) #[] #[.pointer (some ⟨Bp, 0, none⟩), .pointer (some ⟨Bs, 0, none⟩), .pointer (some ⟨Bv, 0, none⟩)], .string x, undef, undef, undef, undef, undef], defers := [] }) ?assign ?body ?done ?stop
        case assign =>
          intro l x W K hK
          gi_wp2
          exact hK
        case body =>
          rintro l pre x W ⟨b, hb, hx⟩
          have c := b.cell
          have fz := b.frozen
          have hbad : okName x = false → ∃ y ∈ pre ++ [x], okName y = false := fun h => ⟨x, by simp, h⟩
          cases q0 : x.toList.isEmpty
          · cases q1 : (x.toList == [46])
            · cases q2 : (x.toList == [46, 46])
              · have ho : okName x = true := by unfold okName; rw [q0, q1, q2]; rfl
                have HH := Aside0.mk (And.intro b (And.intro hb (And.intro hx ho)))
                clear hbad ho
                gi_wp2
                refine ⟨KeepsFrom.refl _ _, Below.refl _ _, HH.out.1, HH.out.2.1, fun y hy => ?_⟩
                rcases List.mem_append.1 hy with h | h
                · exact HH.out.2.2.1 y h
                · rw [List.mem_singleton.1 h]; exact HH.out.2.2.2
              · have HH := Aside0.mk (And.intro b (And.intro hb (hbad (by unfold okName; rw [q0, q1, q2]; rfl))))
                clear hbad
                gi_wp2
                exact ⟨(KeepsOthers.setCell _ _ _).from _, HH.out.1.set _, below_set HH.out.2.1 (Nat.le_refl _), HH.out.2.2⟩
            · have HH := Aside0.mk (And.intro b (And.intro hb (hbad (by unfold okName; rw [q0, q1]; rfl))))
              clear hbad
              gi_wp2
              exact ⟨(KeepsOthers.setCell _ _ _).from _, HH.out.1.set _, below_set HH.out.2.1 (Nat.le_refl _), HH.out.2.2⟩
          · have HH := Aside0.mk (And.intro b (And.intro hb (hbad (by unfold okName; rw [q0]; rfl))))
            clear hbad
            gi_wp2
            exact ⟨(KeepsOthers.setCell _ _ _).from _, HH.out.1.set _, below_set HH.out.2.1 (Nat.le_refl _), HH.out.2.2⟩
        case done =>
          rintro D W hD ⟨b, hb, hx⟩ hK
          have c := b.cell
          have fz := b.frozen
          have hp : pathM s = true := by
            unfold pathM
            rw [decide_eq_true (by omega), List.all_eq_true.2 hx, Bool.and_true, Bool.true_and, List.all_eq_true]
            intro ch hch
            obtain ⟨k, hk, rfl⟩ := List.mem_iff_getElem.1 hch
            have hk2 : k < s.size := by rw [Lib.toList_data] at hk; simpa using hk
            have := hI.out k hk2 hk2
            simp only [Lib.toList_data] at *
            exact decide_eq_true (by show 32 ≤ s.data.toList[k].toNat; rw [Array.getElem_toList]; exact Nat.not_lt.1 this)
          have HH := Aside0.mk (And.intro b (And.intro hb (And.intro hp (And.intro hK hD))))
          clear hp hK hD hx b hb
          gi_wp2
          have hK2 := (Below.heap_setCell W ⟨w.heap.size, 0, none⟩ (.bool true) D (by show D ≠ w.heap.size; have := HH.out.2.2.2.2; omega)).trans HH.out.2.2.2.1
          refine ⟨by simp, .inl ⟨_, _, rfl, run_takeDeferred hK2, ?_⟩⟩
          exact ⟨_, results_box rfl _ _ rfl (load_bool ((World.putObj_heap_other (by have := HH.out.2.2.2.2; omega)).trans (HH.out.1.set (.bool true)))), by rw [HH.out.2.2.1], (below_set HH.out.2.1 (Nat.le_refl _)).trans ⟨rfl, rfl, rfl, by simp [World.putObj], fun k hk => World.putObj_heap_other (by have := HH.out.2.2.2.2; omega)⟩⟩
        case stop =>
          rintro D pre W hD hpre ⟨b, hb, x, hx, hxo⟩ hK
          have hp : pathM s = false := by
            unfold pathM
            have : (namesB s).all okName = false := by
              rw [List.all_eq_false]
              exact ⟨x, hpre.subset hx, by rw [hxo]; decide⟩
            rw [this, Bool.and_false]
          have HH := Aside0.mk (And.intro b (And.intro hb (And.intro hp (And.intro hK hD))))
          clear hp hK hD hx b hb
          gi_wp2
          refine ⟨by simp, .inl ⟨_, _, rfl, run_takeDeferred HH.out.2.2.2.1, ?_⟩⟩
          exact ⟨_, results_box rfl _ _ rfl (load_bool ((World.putObj_heap_other (by have := HH.out.2.2.2.2; omega)).trans HH.out.1)), by rw [HH.out.2.2.1], HH.out.2.1.trans ⟨rfl, rfl, rfl, by simp [World.putObj], fun k hk => World.putObj_heap_other (by have := HH.out.2.2.2.2; omega)⟩⟩
theorem path_calls (s : ByteArray) (w : World) : Calls Tryd.prog 18 #[.string s] w fun e w' => e = .returned (.bool (pathM s)) ∧ Below w.heap.size w w' := (callsIn_wide (n := 7)).1 (path_in s w)
end
end Go.Proofs.YtgjdcdhfijkoiaaDoor.Str
end
section
namespace Go.Proofs.YtgjdcdhfijkoiaaDoor.Str
open Go.RowKit Go.Maps Go.Proofs.YtgjdcdhfijkoiaaDoorW.PrintWords Go.Proofs.YtgjdcdhfijkoiaaDoor.Mem
set_option linter.unusedVariables false
set_option linter.unusedSimpArgs false
set_option maxRecDepth 8000
def strL (s : ByteArray) : Lit := .string s.data.toList
theorem strL_inj {s t : ByteArray} (h : strL s = strL t) : s.data.toList = t.data.toList := by
  unfold strL at h
  injection h
/-- The map in block b has just the strings of S. -/
def Seen (w : World) (b n : Nat) (S : List (List UInt8)) : Prop := ∃ D : DataW Unit, w.ownsMap Tryd.prog 9 (plainElem Tryd.prog 4) b n D ∧ IsMap D ∧ ∀ k : ByteArray, D.atKey (strL k) (.lit (.bool false)) = .lit (.bool (decide (k.data.toList ∈ S)))
section
variable {w w' : World} {b n : Nat} {S : List (List UInt8)}
theorem Seen.kept {row : Option Nat} (h : Seen w b n S) (hg : w.grownBy w' row) (hne : some b ≠ row) : Seen w' b n S := by
  obtain ⟨D, h1, h2⟩ := h
  exact ⟨D, h1.kept hg hne, h2⟩
theorem Seen.lt (h : Seen w b n S) : b < w.heap.size := by
  obtain ⟨D, h1, h2⟩ := h
  exact h1.lt
theorem Seen.blk (h : Seen w b n S) (hb : w'.heap[b]? = w.heap[b]?) : Seen w' b n S := by
  obtain ⟨D, ⟨es, clock, h0, h1⟩, h2⟩ := h
  exact ⟨D, ⟨es, clock, hb.trans h0, h1⟩, h2⟩
theorem key_str {s : ByteArray} (hs : s.size ≤ maxLen) : keyOf Tryd.prog 9 (.string s) = some (strL s) := by
  simp [keyOf, mapKey, Tryd.underlying9, hs, strL]
theorem Seen.look (h : Seen w b n S) {s : ByteArray} (hs : s.size ≤ maxLen) : (Instr.lookup 105 (.map (some b)) (.string s) false).run Tryd.prog w = .ok (.bool (decide (s.data.toList ∈ S))) w := by
  obtain ⟨D, h1, h2, h3⟩ := h
  obtain ⟨v, ps, hr, hv⟩ := h1.lookup (string_keyed Tryd.underlying9) Tryd.underlying105 (z := .bool false) (Tryd.zeroValue4 w) (plainElem_bool Tryd.underlying4 false) (key_str hs)
  rw [h3 s] at hv
  have : v = .bool (decide (s.data.toList ∈ S)) := by
    unfold plainElem at hv
    rw [Tryd.underlying4] at hv
    cases v <;> simp at hv
    rw [hv.1]
  rw [hr, this]
theorem Seen.put (h : Seen w b n S) (hn : n < maxLen) {s : ByteArray} (hs : s.size ≤ maxLen) : ∃ w', (Instr.mapUpdate 105 (.map (some b)) (.string s) (.bool true)).run Tryd.prog w = .ok () w' ∧ Seen w' b (n + 1) (s.data.toList :: S) ∧ w.grownBy w' (some b) := by
  obtain ⟨D, h1, h2, h3⟩ := h
  obtain ⟨w', hr, hm, hg⟩ := h1.update (string_keyed Tryd.underlying9) Tryd.underlying105 hn (key_str hs) (plainElem_bool Tryd.underlying4 true)
  refine ⟨w', hr, ⟨_, hm, h2.put _ _, fun k => ?_⟩, hg⟩
  by_cases e : k.data.toList = s.data.toList
  · rw [show strL k = strL s by unfold strL; rw [e], atKey_put_same h2 (by simp [WideAt.IsKeyLit, strL]), e]
    simp
  · rw [atKey_put_other (fun h => e (strL_inj h)), h3 k]
    simp [e]
end
end Go.Proofs.YtgjdcdhfijkoiaaDoor.Str
end
