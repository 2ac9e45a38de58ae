/- A note that came in by value, opened. -/
import Derived.Test.YtlcanfniphdelaaDoorLPuts
import Derived.Test.YtlcanfniphdelaaDoorOpen2
import Derived.OpenShut
import Derived.ShutString
import Derived.Lib.SmallJoins
namespace Go.Proofs.YtlcanfniphdelaaDoor.Not
open Go.ChangeShapes Go.WideShapes Go.RowKit Go.Proofs.YtlcanfniphdelaaDoorW.PrintWords Go.Proofs.YtlcanfniphdelaaDoor.Mem Go.Proofs.YtlcanfniphdelaaDoor.Cod Go.Proofs.YtlcanfniphdelaaDoor.Open
set_option linter.unusedVariables false
set_option linter.unusedSimpArgs false
section
variable {H : Type} {enc : TypeId × Value → H} {P : Program} {w : World} {base : Nat} {held : Bool}
theorem open_arr {t e : TypeId} {n fuel : Nat} {cs : List Value} {x : DataW H × List MemPlace} (ht : P.underlying t = some (.array n e)) (he : P.underlying e = some (.int .u8)) (ce : P.cellsOf e = 1) (ct : P.cellsOf t = n) (h : DataW.trod enc P w base (fun _ => true) held fuel t cs = some x) : ∃ p : List Int, p.length = n ∧ cs = nums .u8 p ∧ Byt p := by
  obtain ⟨xs, m, _, _, hl, hn, hi⟩ := DataW.trod_array ht h
  rw [ce] at hi
  rw [ct] at hl
  have hx : ∀ i, i < n → ∃ z : Int, (cs.drop i).take 1 = [.int .u8 z] ∧ 0 ≤ z ∧ z ≤ 255 := by
    intro i hin
    have h1 := hi i hin
    rw [Nat.mul_one, List.getElem?_eq_getElem (by omega)] at h1
    obtain ⟨z, e1, _, w1⟩ := DataW.trod_int he h1
    have hb : (0 ≤ z ∧ z ≤ 255) := by simpa [Lit.wf, IntKind.min, IntKind.max, IntKind.signed, IntKind.bits] using w1
    exact ⟨z, e1, hb⟩
  obtain ⟨f, hf⟩ : ∃ f : Nat → Int, ∀ i, i < n → (cs.drop i).take 1 = [.int .u8 (f i)] ∧ 0 ≤ f i ∧ f i ≤ 255 := Deep.choose_lt hx
  refine ⟨(List.range n).map f, by simp, ?_, fun y hy => ?_⟩
  · apply List.ext_getElem?
    intro j
    unfold nums
    by_cases hj : j < n
    · have h1 := (hf j hj).1
      have h2 : ((cs.drop j).take 1)[0]? = some (.int .u8 (f j)) := by rw [h1]; rfl
      rw [List.getElem?_take_of_lt (by omega), List.getElem?_drop, Nat.add_zero] at h2
      rw [h2]
      simp [hj]
    · rw [List.getElem?_eq_none (by omega), List.getElem?_eq_none (by simp; omega)]
  · obtain ⟨i, hi2, rfl⟩ := List.mem_map.1 hy
    exact (hf i (by simpa using hi2)).2
theorem open_ids {t e ti : TypeId} {fuel : Nat} {u : Value} {x : DataW H × List MemPlace} (ht : P.underlying t = some (.slice e)) (he : P.underlying e = some (.array 32 ti)) (hti : P.underlying ti = some (.int .u8)) (c1 : P.cellsOf ti = 1) (c32 : P.cellsOf e = 32) (h : DataW.trod enc P w base (fun _ => true) held fuel t [u] = some x) :
    ∃ (Y : Option Addr) (yc : Nat) (ids : List (List Int)), u = .slice Y ids.length yc ∧ IdsAt w Y ids ∧ ids.length ≤ 9223372036854775807 := by
  rcases Deep.open_slice ht h with ⟨hc, _⟩ | ⟨a, ln, cp, m, n, D, Pl, hc, _, hl, hm, hmm, _, hx⟩
  · simp only [List.cons.injEq, and_true] at hc
    exact ⟨none, 0, [], hc, (fun i hi => absurd hi (by simp)), by decide⟩
  · simp only [List.cons.injEq, and_true] at hc
    have hx2 : ∀ i, i < ln → ∃ p : List Int, p.length = 32 ∧ Byt p ∧ ∀ (j : Nat) (v : Value), (nums .u8 p)[j]? = some v → w.cell? (a.add (i * 32 + j)) = some v := by
      intro i hi
      obtain ⟨cs', h1, h2⟩ := hx i (by rw [hmm]; split <;> omega)
      rw [c32] at h1
      obtain ⟨_, hlen, hcell⟩ := World.cells?_some h1
      obtain ⟨p, hp, rfl, hb⟩ := open_arr he hti c1 c32 h2
      refine ⟨p, hp, hb, fun j v hv => ?_⟩
      have hj : j < 32 := by
        have := (List.getElem?_eq_some_iff.1 hv).1
        rw [nums_length, hp] at this
        exact this
      have := hcell j hj
      rw [Deep.add_add] at this
      rw [this, hv]
    obtain ⟨f, hf⟩ : ∃ f : Nat → List Int, ∀ i, i < ln → (f i).length = 32 ∧ Byt (f i) ∧ ∀ (j : Nat) (v : Value), (nums .u8 (f i))[j]? = some v → w.cell? (a.add (i * 32 + j)) = some v := Deep.choose_lt hx2
    refine ⟨some a, cp, (List.range ln).map f, by rw [hc]; simp, fun i hi => ?_, by simp; unfold maxLen at hm; omega⟩
    have hi' : i < ln := by simpa using hi
    have e : ((List.range ln).map f).getD i [] = f i := by
      rw [List.getD_eq_getElem?_getD, List.getElem?_map, List.getElem?_range hi']
      rfl
    rw [e]
    exact ⟨(hf i hi').1, (hf i hi').2.1, a, rfl, (hf i hi').2.2⟩
end
section
variable {H : Type} {enc : TypeId × Value → H} {w : World} {base : Nat}
theorem drop_take {cs : List Value} {i n : Nat} {l : List Value} (h : (cs.drop i).take n = l) (hl : i + n ≤ cs.length) : cs.drop i = l ++ cs.drop (i + n) := by
  rw [← h, ← List.drop_drop]
  exact (List.take_append_drop n (cs.drop i)).symm
theorem fields_note : ∃ f0 f1 f2 f3 f4 f5 : Field, Tryd.prog.underlying 28 = some (.struct #[f0, f1, f2, f3, f4, f5]) ∧ f0.offset = 0 ∧ f1.offset = 1 ∧ f2.offset = 33 ∧ f3.offset = 34 ∧ f4.offset = 35 ∧ f5.offset = 36 ∧ f0.type = 3 ∧ f1.type = 23 ∧ f2.type = 24 ∧ f3.type = 24 ∧ f4.type = 25 ∧ f5.type = 26 :=
  ⟨_, _, _, _, _, _, Tryd.underlying28, rfl, rfl, rfl, rfl, rfl, rfl, rfl, rfl, rfl, rfl, rfl, rfl⟩
theorem open_note {r : Reach} {b0 : Nat} {v : Value} {d : DataW H} {p : List MemPlace} (hv : Value.okWide Tryd.prog w r b0 28 v) (h : DataW.Trod enc Tryd.prog w base (fun _ => true) true 28 v d p) :
    ∃ (g : GM) (A Y : Option Addr) (bc yc : Nat), v = .agg (ncells g.k g.n g.o g.p (.slice A g.b.length bc) (.slice Y g.ids.length yc)).toArray ∧ InN w g A Y := by
  obtain ⟨f0, f1, f2, f3, f4, f5, hs, o0, o1, o2, o3, o4, o5, t0, t1, t2, t3, t4, t5⟩ := fields_note
  obtain ⟨cs, rfl, hsz⟩ := okWide_struct hs hv
  obtain ⟨fuel, hf⟩ := h
  obtain ⟨xs, m, _, _, hl, hn, hff⟩ := DataW.trod_struct hs hf
  obtain ⟨cs⟩ := cs
  have c37 : Tryd.prog.cellsOf 28 = 37 := by kernel_rfl
  have ci : Tryd.prog.cellsOf 3 = 1 := by kernel_rfl
  have cI : Tryd.prog.cellsOf 23 = 32 := by kernel_rfl
  have cu : Tryd.prog.cellsOf 24 = 1 := by kernel_rfl
  have cb : Tryd.prog.cellsOf 25 = 1 := by kernel_rfl
  have cY : Tryd.prog.cellsOf 26 = 1 := by kernel_rfl
  have c8 : Tryd.prog.cellsOf 5 = 1 := by kernel_rfl
  have hl37 : cs.length = 37 := by rw [← c37]; exact hl
  have hn6 : xs.length = 6 := hn
  have hq0 : (Value.agg { toList := cs }).cells.toList = cs := rfl
  rw [hq0] at hff
  have g0 := hff 0 f0 rfl
  have g1 := hff 1 f1 rfl
  have g2 := hff 2 f2 rfl
  have g3 := hff 3 f3 rfl
  have g4 := hff 4 f4 rfl
  have g5 := hff 5 f5 rfl
  rw [o0, t0, ci, List.getElem?_eq_getElem (by omega)] at g0
  rw [o1, t1, cI, List.getElem?_eq_getElem (by omega)] at g1
  rw [o2, t2, cu, List.getElem?_eq_getElem (by omega)] at g2
  rw [o3, t3, cu, List.getElem?_eq_getElem (by omega)] at g3
  rw [o4, t4, cb, List.getElem?_eq_getElem (by omega)] at g4
  rw [o5, t5, cY, List.getElem?_eq_getElem (by omega)] at g5
  obtain ⟨k, e0, _, w0⟩ := DataW.trod_int Tryd.underlying3 g0
  obtain ⟨q, hq, e1, hqb⟩ := open_arr Tryd.underlying23 Tryd.underlying5 c8 cI g1
  obtain ⟨n, e2, _, w2⟩ := DataW.trod_int Tryd.underlying24 g2
  obtain ⟨o, e3, _, w3⟩ := DataW.trod_int Tryd.underlying24 g3
  have one : ∀ i, i < 37 → ∃ u, (cs.drop i).take 1 = [u] := fun i hi => by
    rw [List.drop_eq_getElem_cons (by omega)]; exact ⟨_, rfl⟩
  obtain ⟨u4, e4⟩ := one 35 (by omega)
  obtain ⟨u5, e5⟩ := one 36 (by omega)
  have g4' : DataW.trod enc Tryd.prog w base (fun _ => true) true m 25 [u4] = some xs[4] := by rw [← e4]; exact g4
  have g5' : DataW.trod enc Tryd.prog w base (fun _ => true) true m 26 [u5] = some xs[5] := by rw [← e5]; exact g5
  obtain ⟨A, bc, bs, rfl, hC, hbc, hbl, hby⟩ := open_bytes Tryd.underlying25 Tryd.underlying5 c8 g4'
  obtain ⟨Y, yc, ids, rfl, hY, hyl⟩ := open_ids Tryd.underlying26 Tryd.underlying23 Tryd.underlying5 c8 cI g5'
  have i64 : -9223372036854775808 ≤ k ∧ k ≤ 9223372036854775807 := by simpa [Lit.wf, IntKind.min, IntKind.max, IntKind.signed, IntKind.bits] using w0
  have un : 0 ≤ n ∧ n ≤ 18446744073709551615 := by simpa [Lit.wf, IntKind.min, IntKind.max, IntKind.signed, IntKind.bits] using w2
  have uo : 0 ≤ o ∧ o ≤ 18446744073709551615 := by simpa [Lit.wf, IntKind.min, IntKind.max, IntKind.signed, IntKind.bits] using w3
  refine ⟨⟨k, q, n, o, bs, ids⟩, A, Y, bc, yc, ?_, ⟨i64, un, uo, hq, hqb, hC, hby, hbl, hY, hyl⟩⟩
  congr 2
  have d0 := drop_take e0 (by omega)
  have d1 := drop_take e1 (by omega)
  have d2 := drop_take e2 (by omega)
  have d3 := drop_take e3 (by omega)
  have d4 := drop_take e4 (by omega)
  have d5 := drop_take e5 (by omega)
  rw [List.drop_zero] at d0
  have d6 : cs.drop 37 = [] := List.drop_of_length_le (by omega)
  rw [d0, show 0 + 1 = 1 from rfl, d1, show 1 + 32 = 33 from rfl, d2, show 33 + 1 = 34 from rfl, d3, show 34 + 1 = 35 from rfl, d4, show 35 + 1 = 36 from rfl, d5, show 36 + 1 = 37 from rfl, d6]
  unfold ncells
  simp
theorem puts_row {r : Reach} {b0 : Nat} {v : Value} {d : DataW H} {p : List MemPlace} (hv : Value.okWide Tryd.prog w r b0 28 v) (h : DataW.Trod enc Tryd.prog w base (fun _ => true) true 28 v d p) (hT : ∀ k : Nat, k < 15 → w.cell? ⟨0, k, none⟩ = some (.int .i64 (([0, 3, 1, 3, 9, 1, 7, 31, 1, 9, 1, 10, 2, 0, 10] : List Int).getD k 0))) :
    Calls Tryd.prog 3 #[v] w fun e w' => e = .returned (.bool true) ∧ Below w.heap.size w w' := by
  obtain ⟨g, A, Y, bc, yc, rfl, hI⟩ := open_note hv h
  by_cases hb : 300 < g.b.length ∨ 80 < g.ids.length
  · exact puts_big g A Y bc yc hI (fat_of hT) hb
  · exact puts_law g A Y bc yc hI (fat_of hT) (by omega) (by omega)
end
end Go.Proofs.YtlcanfniphdelaaDoor.Not
