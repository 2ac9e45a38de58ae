/- The names in a directory: the reference's words, and what they say (plain). -/
import Derived.Test.YtgjdcdhfijkoiaaDoorFiF
import Derived.Test.YtgjdcdhfijkoiaaDoorFiG
import Derived.Test.YtgjdcdhfijkoiaaDoorFiE
section
namespace Go.Proofs.YtgjdcdhfijkoiaaDoor.Str
open Go.RowKit Go.Proofs.YtgjdcdhfijkoiaaDoorW.PrintWords Go.Proofs.YtgjdcdhfijkoiaaDoorW.PrintLast Go.Proofs.YtgjdcdhfijkoiaaDoorW.PrintMore Go.Proofs.YtgjdcdhfijkoiaaDoor.Mem Go.Proofs.YtgjdcdhfijkoiaaDoor.PCod Go.Proofs.YtgjdcdhfijkoiaaDoor.Cod
set_option linter.unusedVariables false
set_option linter.unusedSimpArgs false
theorem namesF_ne : ∀ (k : Nat) (s : ByteArray), namesF k s ≠ []
  | 0, _ => by unfold namesF; simp
  | k + 1, s => by unfold namesF; split <;> simp
theorem namesF_none {s : ByteArray} (h : slashAt s < 0) : ∀ k, namesF k s = [s]
  | 0 => rfl
  | k + 1 => by unfold namesF; rw [if_pos h]
theorem names_cut (s : ByteArray) : ∃ t, namesB s = cutB s :: t ∧ decide (1 < (namesB s).length) = cutQ s := by
  by_cases h : slashAt s < 0
  · refine ⟨[], ?_, ?_⟩
    · unfold namesB cutB; rw [namesF_none h, if_pos h]
    · unfold namesB cutQ; rw [namesF_none h, decide_eq_false (show ¬ 0 ≤ slashAt s by omega)]; rfl
  · obtain ⟨o, ho⟩ : ∃ o : Nat, slashAt s = o := ⟨(slashAt s).toNat, by omega⟩
    have h2 := slash_lt ho
    obtain ⟨k, hk⟩ : ∃ k, s.size = k + 1 := ⟨s.size - 1, by omega⟩
    have e : namesB s = cutB s :: namesF k (s.extract ((slashAt s).toNat + 1) s.size) := by
      unfold namesB cutB
      rw [hk, if_neg h]
      conv => lhs; unfold namesF
      rw [if_neg h, ← hk]
    refine ⟨_, e, ?_⟩
    have hl : 0 < (namesF k (s.extract ((slashAt s).toNat + 1) s.size)).length := List.length_pos_iff.2 (namesF_ne _ _)
    rw [e, List.length_cons, decide_eq_true (show 1 < _ + 1 by omega)]
    unfold cutQ
    rw [decide_eq_true (show 0 ≤ slashAt s by omega)]
theorem pre_iff (s p : ByteArray) : pre s p = true ↔ ∃ r, tl s = tl p ++ r := by
  unfold pre
  rw [Bool.and_eq_true, decide_eq_true_eq, beq_iff_eq, toList_tl, toList_tl, tl_extract, List.drop_zero, ← tl_size, ← tl_size]
  constructor
  · rintro ⟨h1, h2⟩
    exact ⟨(tl s).drop (tl p).length, by conv => rhs; rw [← h2]; rw [show ((tl s).take (tl p).length).length = (tl p).length by rw [List.length_take]; omega, List.take_append_drop]⟩
  · rintro ⟨r, h⟩
    rw [h]
    exact ⟨by rw [List.length_append]; omega, List.take_left⟩
theorem tl_dirP {d : ByteArray} (h : d.toList ≠ []) : tl (dirP d) = tl d ++ [47] := by
  unfold dirP
  rw [if_neg h, tl_app]
  rfl
theorem dirP_nil {d : ByteArray} (h : d.toList = []) : dirP d = d := by unfold dirP; rw [if_pos h]
theorem pre_front {d : ByteArray} (h : d.toList ≠ []) (s : ByteArray) : pre s (dirP d) = froB d s := by
  rw [Bool.eq_iff_iff, pre_iff, tl_dirP h]
  unfold froB
  rw [decide_eq_true_eq]
  constructor
  · rintro ⟨r, e⟩
    exact ⟨r, by rw [e, List.append_assoc]; rfl⟩
  · rintro ⟨r, e⟩
    exact ⟨r, by rw [e, List.append_assoc]; rfl⟩
theorem pre_nil {d : ByteArray} (h : d.toList = []) (s : ByteArray) : pre s (dirP d) = true := by
  rw [dirP_nil h, pre_iff]
  rw [toList_tl] at h
  exact ⟨tl s, by rw [h]; rfl⟩
theorem rest_front {d : ByteArray} (h : d.toList ≠ []) (s : ByteArray) : restP (dirP d) s = s.extract (d.size + 1) s.size := by
  unfold restP
  have : (dirP d).size = d.size + 1 := by rw [← tl_size, tl_dirP h, List.length_append, tl_size]; rfl
  rw [this]
theorem rest_nil {d : ByteArray} (h : d.toList = []) (s : ByteArray) : restP (dirP d) s = s := by
  refine tl_inj ?_
  unfold restP
  rw [tl_extract, dirP_nil h]
  rw [toList_tl] at h
  have : d.size = 0 := by rw [← tl_size, h]; rfl
  rw [this, List.drop_zero, List.take_of_length_le (by rw [tl_size]; exact Nat.le_refl _)]
/-! ### none is a file's and a directory's, too -/
theorem good_of {l : List FS} (hy : ∀ f ∈ l, Byt f.f1) (h : checkM l = 0) : ∀ f ∈ l, ∀ g ∈ l, ¬ Fro (tl g.f0) (tl f.f0) := by
  intro f hf g hg hfr
  have h1 := (check_0 h).1
  rw [← ofFs hy, ← good_paths, List.all_eq_true] at h1
  obtain ⟨i, hi, e⟩ := List.getElem_of_mem hf
  have h2 := h1 i (List.mem_range.2 (by rw [List.length_map]; exact hi))
  unfold goodR at h2
  rw [Bool.and_eq_true, Bool.not_eq_true', List.any_eq_false] at h2
  have h3 := h2.2 (toF g) (List.mem_map.2 ⟨g, hg, rfl⟩)
  refine h3 ?_
  unfold froB
  rw [decide_eq_true_eq]
  have h4 : pth (l.map toF) i = f.f0 := by
    unfold pth
    rw [List.getD_eq_getElem?_getD, List.getElem?_eq_getElem (by rw [List.length_map]; exact hi)]
    simp only [List.getElem_map, e]
    rfl
  rw [h4]
  exact hfr
/-- Each name comes of a file. -/
def Of (l : List FS) (p : ByteArray) (z : List ByteArray × List Bool) : Prop :=
  z.1.length = z.2.length ∧ z.1.length ≤ l.length ∧ ∀ i, i < z.1.length → ∃ f ∈ l, pre f.f0 p = true ∧ z.1.getD i ByteArray.empty = cutB (restP p f.f0) ∧ z.2.getD i false = cutQ (restP p f.f0)
theorem of_mono {l m : List FS} {p : ByteArray} {z : List ByteArray × List Bool} (h : Of l p z) (hs : ∀ f ∈ l, f ∈ m) (hn : l.length ≤ m.length) : Of m p z :=
  ⟨h.1, Nat.le_trans h.2.1 hn, fun i hi => by obtain ⟨f, h1, h2⟩ := h.2.2 i hi; exact ⟨f, hs f h1, h2⟩⟩
theorem getD_snoc {α : Type} {l : List α} {x d : α} {i : Nat} (h : i < l.length + 1) : (l ++ [x]).getD i d = if i < l.length then l.getD i d else x := by
  rw [List.getD_eq_getElem?_getD]
  split
  · rename_i h1; rw [List.getElem?_append_left h1, List.getD_eq_getElem?_getD]
  · rename_i h1; rw [List.getElem?_append_right (by omega), show i - l.length = 0 by omega]; rfl
theorem of_step {l : List FS} {p : ByteArray} {z : List ByteArray × List Bool} {f : FS} (h : Of l p z) : Of (l ++ [f]) p (undStep p f z) := by
  have h0 : Of (l ++ [f]) p z := of_mono h (fun x hx => List.mem_append_left _ hx) (by rw [List.length_append]; omega)
  unfold undStep
  split
  · rename_i hp
    split
    · exact h0
    · refine ⟨by rw [List.length_append, List.length_append, h.1]; rfl, by rw [List.length_append, List.length_append]; have := h.2.1; simp; omega, fun i hi => ?_⟩
      dsimp only at hi ⊢
      rw [List.length_append] at hi
      simp only [List.length_cons, List.length_nil] at hi
      rw [getD_snoc (by omega), getD_snoc (by have := h.1; omega), ← h.1]
      by_cases h2 : i < z.1.length
      · rw [if_pos h2, if_pos h2]
        exact h0.2.2 i h2
      · rw [if_neg h2, if_neg h2]
        exact ⟨f, List.mem_append_right _ (List.mem_singleton.2 rfl), hp, rfl, rfl⟩
  · exact h0
theorem of_fold (p : ByteArray) : ∀ (r l : List FS) (z : List ByteArray × List Bool), Of l p z → Of (l ++ r) p (r.foldl (fun z f => undStep p f z) z)
  | [], l, z, h => by rw [List.append_nil]; exact h
  | f :: r, l, z, h => by
    have h2 := of_fold p r (l ++ [f]) (undStep p f z) (of_step h)
    rw [List.append_assoc] at h2
    exact h2
theorem of_undM (l : List FS) (d : ByteArray) : Of l (dirP d) (undM l d) := by
  have h := of_fold (dirP d) l [] ([], []) ⟨rfl, Nat.le_refl _, fun i hi => absurd hi (by simp)⟩
  exact h
def fileIn (l : List FS) (p : ByteArray) : Bool := l.any (fun f => f.f0.toList == p.toList)
theorem und_law {l : List FS} (hy : ∀ f ∈ l, Byt f.f1) (h : checkM l = 0) (d : ByteArray) {i : Nat} (hi : i < (undM l d).1.length) :
    fileIn l (dirP d ++ (undM l d).1.getD i ByteArray.empty) = !((undM l d).2.getD i false) := by
  obtain ⟨f, hf, h1, h2, h3⟩ := (of_undM l d).2.2 i hi
  rw [h2, h3]
  obtain ⟨r, hr⟩ := (pre_iff _ _).1 h1
  have hrest : tl (restP (dirP d) f.f0) = r := by
    unfold restP
    rw [tl_extract, List.take_of_length_le (by rw [tl_size]; exact Nat.le_refl _), hr, ← tl_size, List.drop_left]
  by_cases hs : slashAt (restP (dirP d) f.f0) < 0
  · have e1 : cutQ (restP (dirP d) f.f0) = false := by unfold cutQ; exact decide_eq_false (by omega)
    have e2 : cutB (restP (dirP d) f.f0) = restP (dirP d) f.f0 := by unfold cutB; rw [if_pos hs]
    rw [e1, e2]
    show fileIn l _ = true
    unfold fileIn
    rw [List.any_eq_true]
    refine ⟨f, hf, beq_iff_eq.2 ?_⟩
    rw [toList_tl, toList_tl, tl_app, hrest, hr]
  · obtain ⟨o, ho⟩ : ∃ o : Nat, slashAt (restP (dirP d) f.f0) = o := ⟨(slashAt (restP (dirP d) f.f0)).toNat, by omega⟩
    have e1 : cutQ (restP (dirP d) f.f0) = true := by unfold cutQ; exact decide_eq_true (by omega)
    obtain ⟨h4, h5⟩ := slash_some ho
    have e2 : tl (cutB (restP (dirP d) f.f0)) = (tl (restP (dirP d) f.f0)).take o := by unfold cutB; rw [if_neg hs, ho, Int.toNat_natCast, tl_extract, List.drop_zero]
    rw [e1]
    show fileIn l _ = false
    rw [Bool.eq_false_iff]
    intro hfi
    unfold fileIn at hfi
    rw [List.any_eq_true] at hfi
    obtain ⟨g, hg, hgp⟩ := hfi
    rw [beq_iff_eq, toList_tl, toList_tl, tl_app, e2] at hgp
    refine good_of hy h f hf g hg ⟨(tl (restP (dirP d) f.f0)).drop (o + 1), ?_⟩
    rw [hgp, List.append_assoc, ← h4, hrest]
    exact hr
end Go.Proofs.YtgjdcdhfijkoiaaDoor.Str
end
section
namespace Go.Proofs.YtgjdcdhfijkoiaaDoor.Str
open Go.RowKit Go.Proofs.YtgjdcdhfijkoiaaDoorW.PrintWords Go.Proofs.YtgjdcdhfijkoiaaDoorW.PrintLast Go.Proofs.YtgjdcdhfijkoiaaDoorW.PrintMore Go.Proofs.YtgjdcdhfijkoiaaDoor.Mem Go.Proofs.YtgjdcdhfijkoiaaDoor.PCod Go.Proofs.YtgjdcdhfijkoiaaDoor.Cod
set_option linter.unusedVariables false
set_option linter.unusedSimpArgs false
/-- What has been found, in the worlds' rows. -/
structure UR (w W : World) (v u : Value) (z : List ByteArray × List Bool) : Prop where
  bl : Below w.heap.size w W
  ns : Kd.R Kd.string 9 W w.heap.size (fun _ => True) v z.1
  ds : Kd.R Kd.bool 4 W w.heap.size (fun _ => True) u z.2
theorem UR.below {w W W' : World} {v u : Value} {z : List ByteArray × List Bool} (h : UR w W v u z) (hb : Below W.heap.size W W') : UR w W' v u z :=
  ⟨below_step h.bl hb, Kd.R_below h.ns hb, Kd.R_below h.ds hb⟩
theorem any_mem (l : List ByteArray) (n : ByteArray) : l.any (fun x => x.toList == n.toList) = decide (n.data.toList ∈ l.map (fun n => n.data.toList)) := by
  rw [Bool.eq_iff_iff, List.any_eq_true, decide_eq_true_eq, List.mem_map]
  constructor
  · rintro ⟨x, hx, e⟩
    rw [beq_iff_eq, toList_tl, toList_tl] at e
    exact ⟨x, hx, e⟩
  · rintro ⟨x, hx, e⟩
    exact ⟨x, hx, by rw [beq_iff_eq, toList_tl, toList_tl]; exact e⟩
theorem any_succ {l : List ByteArray} {k : Nat} (h : k < l.length) (p : ByteArray → Bool) : (l.take (k + 1)).any p = ((l.take k).any p || p (l.getD k ByteArray.empty)) := by
  rw [List.take_add_one, List.any_append, List.getD_eq_getElem?_getD, List.getElem?_eq_getElem h]
  simp
theorem addr0 (a : Addr) : a.add 0 = a := by unfold Addr.add; split <;> simp_all
section
variable {w : World}
set_option maxRecDepth 100000 in
set_option maxHeartbeats 8000000 in
theorem runder_calls {A : Option Addr} {c : Nat} {m : List S80} (hr : Kd.C k80 w A m.length m) (hm : m.length ≤ 100000) (d : ByteArray) (hd : d.size ≤ 1000000) (hps : ∀ f ∈ m, f.f0.size ≤ 900000) :
    Calls Tryd.prog 27 #[.slice A m.length c, .string d] w fun e w' => ∃ v u, e = .returned (.tuple #[v, u]) ∧ Kd.R Kd.string 9 w' w.heap.size (fun _ => True) v (undM (m.map ofF) d).1 ∧ Kd.R Kd.bool 4 w' w.heap.size (fun _ => True) u (undM (m.map ofF) d).2 ∧ Below w.heap.size w w' := by
  obtain ⟨n, hn⟩ : ∃ n, n = m.length := ⟨_, rfl⟩
  obtain ⟨l, hl⟩ : ∃ l, l = m.map ofF := ⟨_, rfl⟩
  have hln : n = l.length := by rw [hl, List.length_map]; exact hn
  have HX := Aside0.mk (And.intro hr (And.intro hn (And.intro hl (And.intro hps hln))))
  rw [← hn] at hm ⊢
  rw [← hl]
  obtain ⟨p, hp⟩ : ∃ p, p = dirP d := ⟨_, rfl⟩
  have HP := Aside0.mk (And.intro hp hd)
  clear hr hn hl hln hps hp
  go_enter Tryd.func27, Tryd.ntmps27
  go_wp2
  go_loopg [6, 7, 8] n (fun q v6 v7 v8 wr => ∃ (i : Nat) (z : List ByteArray × List Bool), v8 = .int .i64 i ∧ q + i = n ∧ Aside0 (UR w wr v6 v7 z ∧ z = (l.take i).foldl (fun z f => undStep p f z) ([], []) ∧ z.1.length ≤ i ∧ z.2.length = z.1.length))
  case atStart => exact ⟨0, ([], []), rfl, rfl, ⟨⟨Below.refl _ _, Kd.R_nil _ _ _ _ _, Kd.R_nil _ _ _ _ _⟩, rfl, Nat.le_refl _, rfl⟩⟩
  case round =>
    obtain ⟨i, z, rfl, hq, hI⟩ := hrel
    by_cases hlt : i < n
    · have d1 : decide ((i : Int) < (n : Int)) = true := decide_eq_true (by omega)
      obtain ⟨ad, rfl, c0, c1⟩ := at_T80 HX.out.1 (i : Int) (by omega) (by have := HX.out.2.1; omega)
      obtain ⟨g, hg⟩ : ∃ g, g = m.getD i z80 := ⟨_, rfl⟩
      have him : i < m.length := by have := HX.out.2.1; omega
      have hgs := HX.out.2.2.2.1 g (by rw [hg, List.getD_eq_getElem?_getD, List.getElem?_eq_getElem him]; exact List.getElem_mem _)
      rw [show rd_T80 m (i : Int) = g by rw [hg]; rfl, Int.toNat_natCast] at c0 c1
      have hfg : l.getD i z50 = ofF g := by
        rw [hg, HX.out.2.2.1, List.getD_eq_getElem?_getD, List.getD_eq_getElem?_getD, List.getElem?_map, List.getElem?_eq_getElem him]
        rfl
      have hz1 : (l.take (i + 1)).foldl (fun z f => undStep p f z) ([], []) = undStep p (ofF g) z := by
        rw [take_getD (by have := HX.out.2.2.2.2; omega), List.foldl_append, ← hI.out.2.1, hfg]
        rfl
      obtain ⟨s, b⟩ := g
      dsimp only at c0 c1 hgs
      replace c0 := (hI.out.1.bl.cell (World.block_lt_of_cell? w _ c0)).trans c0
      have HF := Aside0.mk (And.intro hz1 hgs)
      clear hg him hgs hfg hz1 c1
      have hcase : (d.toList.isEmpty = true ∧ d.toList = []) ∨ (d.toList.isEmpty = false ∧ d.toList ≠ [] ∧ froB d s = true) ∨ (d.toList.isEmpty = false ∧ d.toList ≠ [] ∧ froB d s = false) := by
        by_cases h : d.toList = []
        · exact .inl ⟨List.isEmpty_iff.2 h, h⟩
        · cases hf : froB d s
          · exact .inr (.inr ⟨List.isEmpty_eq_false_iff.2 h, h, rfl⟩)
          · exact .inr (.inl ⟨List.isEmpty_eq_false_iff.2 h, h, rfl⟩)
      have hfc := rfront_calls d s
      rcases hcase with ⟨q0, h0⟩ | ⟨q0, h0, hf⟩ | ⟨q0, h0, hf⟩
      case inr.inr =>
        have hu : undStep p (ofF ⟨s, b⟩) z = z := by
          unfold undStep
          rw [HP.out.1, pre_front h0, show (ofF ⟨s, b⟩).f0 = s from rfl, hf, if_neg (by decide)]
        have HU := Aside0.mk hu
        rw [hf] at hfc
        have HC := Aside0.mk hfc
        have q1 : (d.toList == ([] : List UInt8)) = false := beq_eq_false_iff_ne.2 h0
        have q2 : (d.toList != ([] : List UInt8)) = true := bne_iff_ne.2 h0
        clear hu hfc hf h0
        go_wp2_with (go_at_call 48; go_loud (refine (HC.out wr).mono ?_; rintro e w2 ⟨rfl, hd2⟩; have H2 := Aside0.mk (hI.out.1.below hd2.below); clear hd2))
        go_roundg (n - (i + 1))
        case measure => omega
        case rel => exact ⟨i + 1, z, by go_num, by omega, ⟨H2.out, by rw [HF.out.1, HU.out], by have := hI.out.2.2.1; omega, hI.out.2.2.2⟩⟩
      case' inl =>
        obtain ⟨rs, hrs⟩ : ∃ x, x = s := ⟨_, rfl⟩
        have hpr : pre s p = true := by rw [HP.out.1]; exact pre_nil h0 s
        have hrp : restP p s = rs := by rw [HP.out.1, hrs]; exact rest_nil h0 s
        have q1 : (d.toList == ([] : List UInt8)) = true := beq_iff_eq.2 h0
        have q2 : (d.toList != ([] : List UInt8)) = false := by rw [h0]; rfl
        clear hfc h0
        have HR := Aside0.mk (And.intro hpr hrp)
        clear hpr hrp
        go_upto_region 11 with (fail)
        obtain ⟨w2, hw2⟩ : ∃ x, x = wr := ⟨_, rfl⟩
        rw [← hw2]
        have H2 := Aside0.mk (show UR w w2 u6 u7 z from by rw [hw2]; exact hI.out.1)
        clear hw2
      case' inr.inl =>
        obtain ⟨rs, hrs⟩ : ∃ x, x = s.extract (d.size + 1) s.size := ⟨_, rfl⟩
        have hpr : pre s p = true := by rw [HP.out.1, pre_front h0]; exact hf
        have hrp : restP p s = rs := by rw [HP.out.1, hrs]; exact rest_front h0 s
        have hle : d.size + 1 ≤ s.size := by
          unfold froB at hf
          rw [decide_eq_true_eq] at hf
          obtain ⟨r, hr⟩ := hf
          have h := congrArg List.length hr
          rw [List.length_append, List.length_cons, tl_size, tl_size] at h
          omega
        have hw1 : wrap64 ((d.size : Int) + 1) = ((d.size + 1 : Nat) : Int) := (IntWalk.wrap64_in _ ⟨by have := HP.out.2; omega, by have := HP.out.2; omega⟩).trans (by omega)
        have q1 : (d.toList == ([] : List UInt8)) = false := beq_eq_false_iff_ne.2 h0
        have q2 : (d.toList != ([] : List UInt8)) = true := bne_iff_ne.2 h0
        rw [hf] at hfc
        have HC := Aside0.mk hfc
        have HR := Aside0.mk (And.intro hpr hrp)
        clear hpr hrp hfc hf h0
        go_upto_region 11 with (go_at_call 48; go_loud (refine (HC.out wr).mono ?_; rintro e w2 ⟨rfl, hd2⟩; have H2 := Aside0.mk (hI.out.1.below hd2.below); clear hd2))
        clear hw1 hle HC
      all_goals
        try rw [← hrs]
        clear hrs c0
        have hrz : rs.size ≤ 1000000 := by
          rw [← HR.out.2]
          have := HF.out.2
          unfold restP
          rw [ByteArray.size_extract]
          omega
        obtain ⟨n0, hn0⟩ : ∃ x, x = cutB rs := ⟨_, rfl⟩
        obtain ⟨mr, hmr⟩ : ∃ x, x = cutQ rs := ⟨_, rfl⟩
        obtain ⟨nt, hnt, hnl⟩ := names_cut rs
        have hnc := rnames_calls rs hrz w2
        obtain ⟨nb, hnb⟩ : ∃ x, x = namesB rs := ⟨_, rfl⟩
        obtain ⟨nn, hnn⟩ : ∃ x, x = nb.length := ⟨_, rfl⟩
        rw [← hnb] at hnc hnt hnl
        rw [← hn0] at hnt
        rw [← hmr, ← hnn] at hnl
        have hnp : 0 < nn := by rw [hnn, hnt, List.length_cons]; omega
        have hus : undStep p (ofF ⟨s, b⟩) z = if z.1.any (fun x => x.toList == n0.toList) = true then z else (z.1 ++ [n0], z.2 ++ [mr]) := by
          unfold undStep
          rw [show (ofF ⟨s, b⟩).f0 = s from rfl, if_pos HR.out.1, HR.out.2, ← hn0, ← hmr, any_mem]
          by_cases h : n0.data.toList ∈ z.1.map (fun n => n.data.toList)
          · rw [if_pos h, if_pos (decide_eq_true h)]
          · rw [if_neg h, if_neg (by simpa using h)]
        have HN := Aside0.mk (And.intro hnc (And.intro hnn (And.intro hnt (And.intro hus hnp))))
        have z0 : (0 < nn) = True := eq_true hnp
        have z1 : decide ((nn : Int) > 1) = mr := by rw [← hnl]; exact decide_eq_decide.2 (by omega)
        have Z1 := Aside0.mk z1
        clear hnc hnn hnt hus hnl hnp hn0 hmr hnb hrz z1
        go_wp2_with (go_at_call 46; go_loud (refine HN.out.1.mono ?_; rintro e w5 ⟨v11, rfl, hv11, hb5⟩; obtain ⟨A11, c11, rfl, _, hC11⟩ := reads_n nn HN.out.2.1.symm hv11; obtain ⟨ad11, e11, hx11⟩ := Kd.at_string hC11 0 (by omega) (by have := HN.out.2.2.2.2; omega); cases e11; rw [show rdOf ByteArray.empty nb 0 = n0 by rw [HN.out.2.2.1]; rfl, show ad11.add (Int.toNat 0) = ad11 from addr0 ad11] at hx11; have H5 := Aside0.mk (And.intro (H2.out.below hb5) hx11); clear hb5 hv11 hC11 hx11))
        obtain ⟨j, hj⟩ : ∃ j, j = z.1.length := ⟨_, rfl⟩
        obtain ⟨A6, c6, e6, _, hC6⟩ := reads_n j hj.symm H5.out.1.ns
        cases e6
        have HJ := Aside0.mk (And.intro hj hC6)
        clear hj hC6
        go_loopg [12, 13] j (fun q2 v12 v13 wk => ∃ k : Nat, v13 = .int .i64 k ∧ q2 + k = j ∧ v12 = .bool ((z.1.take k).any (fun x => x.toList == n0.toList)) ∧ Aside0 (Below w5.heap.size w5 wk))
        case atStart => exact ⟨0, rfl, by omega, rfl, ⟨Below.refl _ _⟩⟩
        case round =>
          obtain ⟨k, rfl, hqk, rfl, hBk⟩ := hrel
          by_cases hkj : k < j
          · have d3 : decide ((k : Int) < (j : Int)) = true := decide_eq_true (by omega)
            have hk1 : k < z.1.length := by have := HJ.out.1; omega
            have hkb : k ≤ 100000 := by have := HJ.out.1; have := hI.out.2.2.1; omega
            obtain ⟨sk, hsk⟩ : ∃ x, x = (z.1.take k).any (fun x => x.toList == n0.toList) := ⟨_, rfl⟩
            have hnx := any_succ hk1 (fun x => x.toList == n0.toList)
            rw [← hsk] at hnx ⊢
            have p25 : (0 ≤ (k : Int)) = True := eq_true (by omega)
            have q25 : ((k : Int) < (j : Int)) = True := eq_true (by omega)
            obtain ⟨ad6, e6, hx6⟩ := Kd.at_string HJ.out.2 (k : Int) (by omega) (by omega)
            cases e6
            rw [show rdOf ByteArray.empty z.1 (k : Int) = z.1.getD k ByteArray.empty by unfold rdOf; rw [Int.toNat_natCast], Int.toNat_natCast] at hx6
            obtain ⟨nk, hnk⟩ : ∃ x, x = z.1.getD k ByteArray.empty := ⟨_, rfl⟩
            rw [← hnk] at hx6 hnx
            have hcells : ∀ W, Below w5.heap.size w5 W → W.cell? (ad6.add k) = some (.string nk) ∧ W.cell? ad11 = some (.string n0) := fun W hb => ⟨(hb.cell (World.block_lt_of_cell? w5 _ hx6)).trans hx6, (hb.cell (World.block_lt_of_cell? w5 _ H5.out.2)).trans H5.out.2⟩
            have HC := Aside0.mk hcells
            have HNX := Aside0.mk hnx
            clear hcells hnx hsk hk1 hnk hx6
            go_upto_region 16 with (fail)
            obtain ⟨wd, hwd⟩ : ∃ x, x = wr.drew := ⟨_, rfl⟩
            have HD := Aside0.mk (show Below w5.heap.size w5 wd from by rw [hwd]; exact below_step hBk.out (below_drew1 (Below.refl _ _)))
            cases sk
            · refine start_ (n := 12) (S := fun W => W.cell? (ad6.add k) = some (.string nk) ∧ W.cell? ad11 = some (.string n0)) (ds := []) #[false, false, false, false, false, false, false, false, false, false, false, false] (by kernel_rfl) rfl (by kernel_rfl) (by rw [← hwd]; exact HC.out wd HD.out) (fun hHeld => ?_)
              rw [← hwd] at hHeld ⊢
              clear hwd
              refine pure_ (i := 0) (N := some 45) (v := ?_) (a' := ?_) #[true, false, false, false, false, false, false, false, false, false, false, false] rfl rfl (by kernel_rfl) (fun _ _ _ h => h) (Or.inl ⟨by rfl, ?_⟩) ?_ ?_
              rotate_left
              · intro w'
                go_simp
                with_reducible rfl
              rotate_left
              · simp only [Act.put, List.setIfInBounds_toArray, List.set_cons_zero, List.set_cons_succ, i64_w, i32_w]
                rfl
              refine pure_ (i := 1) (N := some 46) (v := ?_) (a' := ?_) #[true, true, false, false, false, false, false, false, false, false, false, false] rfl rfl (by kernel_rfl) (fun _ _ _ h => h) (Or.inl ⟨by rfl, ?_⟩) ?_ ?_
              rotate_left
              · intro w'
                go_simp
                with_reducible rfl
              rotate_left
              · simp only [Act.put, List.setIfInBounds_toArray, List.set_cons_zero, List.set_cons_succ, i64_w, i32_w]
                rfl
              refine pure_ (i := 2) (N := some 47) (v := ?_) (a' := ?_) #[true, true, true, false, false, false, false, false, false, false, false, false] rfl rfl (by kernel_rfl) (fun _ _ _ h => h) (Or.inl ⟨by rfl, ?_⟩) ?_ ?_
              rotate_left
              · intro w'
                go_simp
                with_reducible rfl
              rotate_left
              · simp only [Act.put, List.setIfInBounds_toArray, List.set_cons_zero, List.set_cons_succ, i64_w, i32_w]
                rfl
              refine pure_ (i := 3) (N := some 48) (v := ?_) (a' := ?_) #[true, true, true, true, false, false, false, false, false, false, false, false] rfl rfl (by kernel_rfl) (fun _ _ _ h => h) (Or.inl ⟨by rfl, ?_⟩) ?_ ?_
              rotate_left
              · intro w'
                go_simp
                with_reducible rfl
              rotate_left
              · simp only [Act.put, List.setIfInBounds_toArray, List.set_cons_zero, List.set_cons_succ, i64_w, i32_w]
                rfl
              refine pure_ (i := 4) (N := some 49) (v := ?_) (a' := ?_) #[true, true, true, true, true, false, false, false, false, false, false, false] rfl rfl (by kernel_rfl) (fun _ _ _ h => h) (Or.inl ⟨by rfl, ?_⟩) ?_ ?_
              rotate_left
              · intro w'
                go_simp
                with_reducible rfl
              rotate_left
              · simp only [Act.put, List.setIfInBounds_toArray, List.set_cons_zero, List.set_cons_succ, i64_w, i32_w]
                rfl
              refine pure_ (i := 6) (N := some 51) (v := ?_) (a' := ?_) #[true, true, true, true, true, false, true, false, false, false, false, false] rfl rfl (by kernel_rfl) (fun _ _ _ h => h) (Or.inl ⟨by rfl, ?_⟩) ?_ ?_
              rotate_left
              · intro w'
                go_simp
                with_reducible rfl
              rotate_left
              · simp only [Act.put, List.setIfInBounds_toArray, List.set_cons_zero, List.set_cons_succ, i64_w, i32_w]
                rfl
              refine pure_ (i := 7) (N := some 52) (v := ?_) (a' := ?_) #[true, true, true, true, true, false, true, true, false, false, false, false] rfl rfl (by kernel_rfl) (fun _ _ _ h => h) (Or.inl ⟨by rfl, ?_⟩) ?_ ?_
              rotate_left
              · intro w'
                go_simp
                with_reducible rfl
              rotate_left
              · simp only [Act.put, List.setIfInBounds_toArray, List.set_cons_zero, List.set_cons_succ, i64_w, i32_w]
                rfl
              refine take_ (i := 5) (N := some 50) (v := ?_) (a' := ?_) #[true, true, true, true, true, true, true, true, false, false, false, false] rfl rfl (by kernel_rfl) (fun _ _ _ h => h) (Or.inl ⟨by rfl, ?_⟩) hHeld ?_ ?_
              rotate_left
              · rintro w' ⟨s1, s2⟩
                go_simp
                with_reducible rfl
              rotate_left
              · simp only [Act.put, List.setIfInBounds_toArray, List.set_cons_zero, List.set_cons_succ, i64_w, i32_w]
                rfl
              refine take_ (i := 8) (N := some 53) (v := ?_) (a' := ?_) #[true, true, true, true, true, true, true, true, true, false, false, false] rfl rfl (by kernel_rfl) (fun _ _ _ h => h) (Or.inl ⟨by rfl, ?_⟩) hHeld ?_ ?_
              rotate_left
              · rintro w' ⟨s1, s2⟩
                go_simp
                with_reducible rfl
              rotate_left
              · simp only [Act.put, List.setIfInBounds_toArray, List.set_cons_zero, List.set_cons_succ, i64_w, i32_w]
                rfl
              refine pure_ (i := 9) (N := some 54) (v := ?_) (a' := ?_) #[true, true, true, true, true, true, true, true, true, true, false, false] rfl rfl (by kernel_rfl) (fun _ _ _ h => h) (Or.inl ⟨by rfl, ?_⟩) ?_ ?_
              rotate_left
              · intro w'
                go_simp
                with_reducible rfl
              rotate_left
              · simp only [Act.put, List.setIfInBounds_toArray, List.set_cons_zero, List.set_cons_succ, i64_w, i32_w]
                rfl
              refine pure_ (i := 10) (N := some 55) (v := ?_) (a' := ?_) #[true, true, true, true, true, true, true, true, true, true, true, false] rfl rfl (by kernel_rfl) (fun _ _ _ h => h) (Or.inl ⟨by rfl, ?_⟩) ?_ ?_
              rotate_left
              · intro w'
                go_simp
                with_reducible rfl
              rotate_left
              · simp only [Act.put, List.setIfInBounds_toArray, List.set_cons_zero, List.set_cons_succ, i64_w, i32_w]
                rfl
              refine pure_ (i := 11) (N := some 12) (v := ?_) (a' := ?_) #[true, true, true, true, true, true, true, true, true, true, true, true] rfl rfl (by kernel_rfl) (fun _ _ _ h => h) (Or.inl ⟨by rfl, ?_⟩) ?_ ?_
              rotate_left
              · intro w'
                go_simp
                with_reducible rfl
              rotate_left
              · simp only [Act.put, List.setIfInBounds_toArray, List.set_cons_zero, List.set_cons_succ, i64_w, i32_w]
                rfl
              refine done_ (by kernel_rfl) ?_
              go_wp2
              go_roundg (j - (k + 1))
              case measure => omega
              case rel => exact ⟨k + 1, by go_num, by omega, by rw [HNX.out, Bool.false_or], HD⟩
            · refine start_ (n := 12) (S := fun W => True) (ds := []) #[false, false, false, false, false, false, false, false, false, false, false, false] (by kernel_rfl) rfl (by kernel_rfl) (trivial) (fun hHeld => ?_)
              rw [← hwd]
              clear hwd
              refine pure_ (i := 0) (N := some 45) (v := ?_) (a' := ?_) #[true, false, false, false, false, false, false, false, false, false, false, false] rfl rfl (by kernel_rfl) (fun _ _ _ h => h) (Or.inl ⟨by rfl, ?_⟩) ?_ ?_
              rotate_left
              · intro w'
                go_simp
                with_reducible rfl
              rotate_left
              · simp only [Act.put, List.setIfInBounds_toArray, List.set_cons_zero, List.set_cons_succ, i64_w, i32_w]
                rfl
              refine pure_ (i := 1) (N := some 46) (v := ?_) (a' := ?_) #[true, true, false, false, false, false, false, false, false, false, false, false] rfl rfl (by kernel_rfl) (fun _ _ _ h => h) (Or.inl ⟨by rfl, ?_⟩) ?_ ?_
              rotate_left
              · intro w'
                go_simp
                with_reducible rfl
              rotate_left
              · simp only [Act.put, List.setIfInBounds_toArray, List.set_cons_zero, List.set_cons_succ, i64_w, i32_w]
                rfl
              refine pure_ (i := 2) (N := some 47) (v := undef) (a' := ?_) #[true, true, true, false, false, false, false, false, false, false, false, false] rfl rfl (by kernel_rfl) (fun _ _ _ h => h) (Or.inr ⟨by rfl, rfl⟩) ?_ ?_
              rotate_left
              · simp only [Act.put, List.setIfInBounds_toArray, List.set_cons_zero, List.set_cons_succ, i64_w, i32_w]
                rfl
              refine pure_ (i := 3) (N := some 48) (v := undef) (a' := ?_) #[true, true, true, true, false, false, false, false, false, false, false, false] rfl rfl (by kernel_rfl) (fun _ _ _ h => h) (Or.inr ⟨by rfl, rfl⟩) ?_ ?_
              rotate_left
              · simp only [Act.put, List.setIfInBounds_toArray, List.set_cons_zero, List.set_cons_succ, i64_w, i32_w]
                rfl
              refine pure_ (i := 4) (N := some 49) (v := undef) (a' := ?_) #[true, true, true, true, true, false, false, false, false, false, false, false] rfl rfl (by kernel_rfl) (fun _ _ _ h => h) (Or.inr ⟨by rfl, rfl⟩) ?_ ?_
              rotate_left
              · simp only [Act.put, List.setIfInBounds_toArray, List.set_cons_zero, List.set_cons_succ, i64_w, i32_w]
                rfl
              refine pure_ (i := 5) (N := some 50) (v := undef) (a' := ?_) #[true, true, true, true, true, true, false, false, false, false, false, false] rfl rfl (by kernel_rfl) (fun _ _ _ h => h) (Or.inr ⟨by rfl, rfl⟩) ?_ ?_
              rotate_left
              · simp only [Act.put, List.setIfInBounds_toArray, List.set_cons_zero, List.set_cons_succ, i64_w, i32_w]
                rfl
              refine pure_ (i := 6) (N := some 51) (v := undef) (a' := ?_) #[true, true, true, true, true, true, true, false, false, false, false, false] rfl rfl (by kernel_rfl) (fun _ _ _ h => h) (Or.inr ⟨by rfl, rfl⟩) ?_ ?_
              rotate_left
              · simp only [Act.put, List.setIfInBounds_toArray, List.set_cons_zero, List.set_cons_succ, i64_w, i32_w]
                rfl
              refine pure_ (i := 7) (N := some 52) (v := undef) (a' := ?_) #[true, true, true, true, true, true, true, true, false, false, false, false] rfl rfl (by kernel_rfl) (fun _ _ _ h => h) (Or.inr ⟨by rfl, rfl⟩) ?_ ?_
              rotate_left
              · simp only [Act.put, List.setIfInBounds_toArray, List.set_cons_zero, List.set_cons_succ, i64_w, i32_w]
                rfl
              refine pure_ (i := 8) (N := some 53) (v := undef) (a' := ?_) #[true, true, true, true, true, true, true, true, true, false, false, false] rfl rfl (by kernel_rfl) (fun _ _ _ h => h) (Or.inr ⟨by rfl, rfl⟩) ?_ ?_
              rotate_left
              · simp only [Act.put, List.setIfInBounds_toArray, List.set_cons_zero, List.set_cons_succ, i64_w, i32_w]
                rfl
              refine pure_ (i := 9) (N := some 54) (v := undef) (a' := ?_) #[true, true, true, true, true, true, true, true, true, true, false, false] rfl rfl (by kernel_rfl) (fun _ _ _ h => h) (Or.inr ⟨by rfl, rfl⟩) ?_ ?_
              rotate_left
              · simp only [Act.put, List.setIfInBounds_toArray, List.set_cons_zero, List.set_cons_succ, i64_w, i32_w]
                rfl
              refine pure_ (i := 10) (N := some 55) (v := ?_) (a' := ?_) #[true, true, true, true, true, true, true, true, true, true, true, false] rfl rfl (by kernel_rfl) (fun _ _ _ h => h) (Or.inl ⟨by rfl, ?_⟩) ?_ ?_
              rotate_left
              · intro w'
                go_simp
                with_reducible rfl
              rotate_left
              · simp only [Act.put, List.setIfInBounds_toArray, List.set_cons_zero, List.set_cons_succ, i64_w, i32_w]
                rfl
              refine pure_ (i := 11) (N := some 12) (v := ?_) (a' := ?_) #[true, true, true, true, true, true, true, true, true, true, true, true] rfl rfl (by kernel_rfl) (fun _ _ _ h => h) (Or.inl ⟨by rfl, ?_⟩) ?_ ?_
              rotate_left
              · intro w'
                go_simp
                with_reducible rfl
              rotate_left
              · simp only [Act.put, List.setIfInBounds_toArray, List.set_cons_zero, List.set_cons_succ, i64_w, i32_w]
                rfl
              refine done_ (by kernel_rfl) ?_
              go_wp2
              go_roundg (j - (k + 1))
              case measure => omega
              case rel => exact ⟨k + 1, by go_num, by omega, by rw [HNX.out, Bool.true_or], HD⟩
          · have d3 : decide ((k : Int) < (j : Int)) = false := decide_eq_false (by omega)
            obtain rfl : k = j := by omega
            obtain ⟨sk, hsk⟩ : ∃ x, x = z.1.any (fun x => x.toList == n0.toList) := ⟨_, rfl⟩
            have hus := HN.out.2.2.2.1
            rw [List.take_of_length_le (by have := HJ.out.1; omega), ← hsk]
            rw [← hsk] at hus
            have HUS := Aside0.mk hus
            have H6 := Aside0.mk (And.intro (H5.out.1.below hBk.out) ((hBk.out.cell (World.block_lt_of_cell? w5 _ H5.out.2)).trans H5.out.2))
            clear hus hsk
            cases sk
            · have a11 := H6.out.2
              have z2 := Z1.out
              have z3 : decide (1 < nn) = mr := by rw [← z2]; exact decide_eq_decide.2 (by omega)
              have HL := Aside0.mk (show (z.1.length + 1) * 16 ≤ 140737488355328 ∧ (z.2.length + 1) * 16 ≤ 140737488355328 from by have h1 := hI.out.2.2.1; have h2 := hI.out.2.2.2; omega)
              go_wp2_with (first
                | ((with_reducible refine gate_builtin (b := .append) (xs := #[.tmp 58, .tmp 62]) rfl ?_); at_builtin; go_loud ( refine Kd.R_append Kd.string (w0 := w) (W := wr) w.heap.size ?q1 (.tmp 58) (.tmp 62) 44 9 (.string ⟨#[]⟩) 16 ?q2 Tryd.underlying44 ?q3 ?q4 (by decide) (by decide) (.slice A6 k c6) z.1 n0 [.string n0] (fun _ => True) (fun _ => False) ?q5 ?q6 ?aM (fun _ hk => hk.elim) ?aF ?aH ?aB ?aS ?aL ?_; (case q1 => rfl); (case q2 => rfl); (case q3 => exact info_str); (case q4 => rfl); (case q5 => rfl); (case q6 => rfl); (case aH => exact H6.out.1.ns); (case aM => exact (show Kd.M Kd.string _ _ _ n0 [.string n0] from rfl)); (case aF => exact fun _ _ => trivial); (case aB => exact H6.out.1.bl); (case aS => exact H6.out.1.bl.size); (case aL => have h := HL.out.1; omega); intro v11 w11 ho11 hb11 hg11 _; have H11 := Aside0.mk (show Below w.heap.size w w11 ∧ Kd.R Kd.string 9 w11 w.heap.size (fun _ => True) v11 (z.1 ++ [n0]) ∧ Kd.R Kd.bool 4 w11 w.heap.size (fun _ => True) u7 z.2 from ⟨hb11, ho11, row_apart H6.out.1.ns H6.out.1.ds rfl rfl (by decide) hg11⟩); clear ho11 hb11 hg11))
                | ((with_reducible refine gate_builtin (b := .append) (xs := #[.tmp 64, .tmp 68]) rfl ?_); at_builtin; go_loud ( refine Kd.R_append Kd.bool (w0 := w) (W := w11) w.heap.size ?q1 (.tmp 64) (.tmp 68) 45 4 (.bool false) 1 ?q2 Tryd.underlying45 ?q3 ?q4 (by decide) (by decide) u7 z.2 mr [.bool mr] (fun _ => True) (fun _ => False) ?q5 ?q6 ?aM (fun _ hk => hk.elim) ?aF ?aH ?aB ?aS ?aL ?_; (case q1 => rfl); (case q2 => rfl); (case q3 => exact info_bool); (case q4 => rfl); (case q5 => rfl); (case q6 => rfl); (case aH => exact H11.out.2.2); (case aM => exact (show Kd.M Kd.bool _ _ _ mr [.bool mr] from rfl)); (case aF => exact fun _ _ => trivial); (case aB => exact H11.out.1); (case aS => exact H11.out.1.size); (case aL => have h := HL.out.2; omega); intro v12 w12 ho12 hb12 hg12 _; have H12 := Aside0.mk (show UR w w12 v11 v12 (z.1 ++ [n0], z.2 ++ [mr]) from ⟨hb12, row_apart H11.out.2.2 H11.out.2.1 rfl rfl (by decide) hg12, ho12⟩); clear ho12 hb12 hg12)))
              go_roundg (n - (i + 1))
              case measure => omega
              case rel => exact ⟨i + 1, (z.1 ++ [n0], z.2 ++ [mr]), by go_num, by omega, ⟨H12.out, by rw [HF.out.1, HUS.out]; simp, by have := hI.out.2.2.1; simp; omega, by have := hI.out.2.2.2; simp; omega⟩⟩
            · go_wp2
              go_roundg (n - (i + 1))
              case measure => omega
              case rel => exact ⟨i + 1, z, by go_num, by omega, ⟨H6.out.1, by rw [HF.out.1, HUS.out]; simp, by have := hI.out.2.2.1; omega, hI.out.2.2.2⟩⟩
    · have d1 : decide ((i : Int) < (n : Int)) = false := decide_eq_false (by omega)
      have hz : undM l d = z := by
        have h := hI.out.2.1
        rw [List.take_of_length_le (by have := HX.out.2.2.2.2; omega), HP.out.1] at h
        exact h.symm
      have HZ := Aside0.mk hz
      clear hz
      go_wp2
      go_ret2
      refine ⟨_, _, rfl, ?_, ?_, hI.out.1.bl⟩
      · rw [HZ.out]; exact hI.out.1.ns
      · rw [HZ.out]; exact hI.out.1.ds
end
end Go.Proofs.YtgjdcdhfijkoiaaDoor.Str
end
section
namespace Go.Proofs.YtgjdcdhfijkoiaaDoor.Str
open Go.RowKit Go.Proofs.YtgjdcdhfijkoiaaDoorW.PrintWords Go.Proofs.YtgjdcdhfijkoiaaDoorW.PrintLast Go.Proofs.YtgjdcdhfijkoiaaDoorW.PrintMore Go.Proofs.YtgjdcdhfijkoiaaDoor.Mem Go.Proofs.YtgjdcdhfijkoiaaDoor.PCod Go.Proofs.YtgjdcdhfijkoiaaDoor.Cod Go.Proofs.YtgjdcdhfijkoiaaDoor.Conv
set_option linter.unusedVariables false
set_option linter.unusedSimpArgs false
theorem cutB_size (s : ByteArray) : (cutB s).size ≤ s.size := by
  unfold cutB
  split
  · exact Nat.le_refl _
  · rw [ByteArray.size_extract]; omega
theorem restP_size (p s : ByteArray) : (restP p s).size ≤ s.size := by unfold restP; rw [ByteArray.size_extract]; omega
theorem any_f {l : List FS} {k : Nat} (h : k < l.length) (p : FS → Bool) : (l.take (k + 1)).any p = ((l.take k).any p || p (l.getD k z50)) := by
  rw [take_getD h, List.any_append]
  simp
/-- What the law's calls hand on. -/
structure Un (w : World) (A : Option Addr) (n c : Nat) (l : List FS) (d : ByteArray) (z : List ByteArray × List Bool) : Prop where
  und : ∀ W, Below w.heap.size w W → Calls Tryd.prog 26 #[.slice A n c, .string d] W fun e w' => ∃ v u, e = .returned (.tuple #[v, u]) ∧ Kd.R Kd.string 9 w' W.heap.size (fun _ => True) v z.1 ∧ Kd.R Kd.bool 4 w' W.heap.size (fun _ => True) u z.2 ∧ Below W.heap.size W w'
  fo : ∀ W, Below w.heap.size w W → Calls Tryd.prog 15 #[.slice A n c] W fun e w' => ∃ v, e = .returned v ∧ Kd.R k80 80 w' W.heap.size (fun _ => True) v (l.map toF) ∧ Below W.heap.size W w'
  rund : ∀ W B x, Kd.C k80 W B n (l.map toF) → Calls Tryd.prog 27 #[.slice B n x, .string d] W fun e w' => ∃ v u, e = .returned (.tuple #[v, u]) ∧ Kd.R Kd.string 9 w' W.heap.size (fun _ => True) v z.1 ∧ Kd.R Kd.bool 4 w' W.heap.size (fun _ => True) u z.2 ∧ Below W.heap.size W w'
  len : z.2.length = z.1.length
  few : z.1.length ≤ 100000
  law : ∀ i, i < z.1.length → fileIn l (dirP d ++ z.1.getD i ByteArray.empty) = !(z.2.getD i false)
  siz : ∀ i, i < z.1.length → (z.1.getD i ByteArray.empty).size ≤ 255
section
variable {w : World} {A : Option Addr} {c : Nat} {l : List FS}
theorem un_of (hr : Kd.C k50 w A l.length l) (hc : l.length ≤ c) (hl : l.length ≤ 100000) (hy : ∀ f ∈ l, Byt f.f1) (h0 : checkM l = 0) (d : ByteArray) (hd : d.size ≤ 300) : Un w A l.length c l d (undM l d) := by
  have hps : ∀ f ∈ l, f.f0.size ≤ 255 := fun f hf => (pathM_size (pathsGo_ok l none [] (check_0 h0).1 f hf)).2
  have hm : (l.map toF).length = l.length := List.length_map _
  have ho := of_undM l d
  refine ⟨fun W hb => under_calls (Kd.C_below hr hb) hl d (by omega) (fun f hf => by have := hps f hf; omega), fun W hb => filesOf_calls (Kd.C_below hr hb) hc hl, fun W B x hC => ?_, ho.1.symm, Nat.le_trans ho.2.1 hl, fun i hi => und_law hy h0 d hi, fun i hi => ?_⟩
  · have h := runder_calls (c := x) (m := l.map toF) (by rw [hm]; exact hC) (by rw [hm]; exact hl) d (by omega) (fun f hf => by
      obtain ⟨g, hg, rfl⟩ := List.mem_map.1 hf
      have := hps g hg
      show g.f0.size ≤ _
      omega)
    rw [ofFs hy, hm] at h
    exact h
  · obtain ⟨f, hf, _, h2, _⟩ := ho.2.2 i hi
    rw [h2]
    have h3 := cutB_size (restP (dirP d) f.f0)
    have h4 := restP_size (dirP d) f.f0
    have h5 := hps f hf
    omega
set_option maxRecDepth 100000 in
set_option maxHeartbeats 8000000 in
theorem und_walk (hr : Kd.C k50 w A l.length l) (hc : l.length ≤ c) (hl : l.length ≤ 9223372036854775807) (hy : ∀ f ∈ l, Byt f.f1) (d : ByteArray) :
    Calls Tryd.prog 5 #[.slice A l.length c, .string d] w fun e w' => e = .returned (.bool true) ∧ Below w.heap.size w w' := by
  obtain ⟨q, hq1, hq2⟩ := few_go l hl l.length 0 0 (by omega)
  have HF : Aside0 (∀ W, Below w.heap.size w W → Calls Tryd.prog 14 #[.slice A l.length c] W fun e w' => e = .returned (.bool q) ∧ Below W.heap.size W w') := ⟨fun W hb => (baileelaw11_few.calls (l.length + 1) A c l q W (Kd.C_below hr hb) hc hq1).mono (fun _ _ h => ⟨h.1, h.2.below⟩)⟩
  have HK : Aside0 (q = true → ∀ W, Below w.heap.size w W → Calls Tryd.prog 20 #[.slice A l.length c] W fun e w' => e = .returned (.int .i64 (checkM l)) ∧ Below W.heap.size W w') := ⟨fun h W hb => check_calls (Kd.C_below hr hb) (by have := hq2 h; omega)⟩
  have HU : Aside0 (q = true → checkM l = 0 → d.size ≤ 300 → Un w A l.length c l d (undM l d)) := ⟨fun h h0 hd => un_of hr hc (by have := hq2 h; omega) hy h0 d hd⟩
  obtain ⟨n, hn⟩ : ∃ n, n = l.length := ⟨_, rfl⟩
  obtain ⟨ck, hck⟩ : ∃ ck, ck = checkM l := ⟨_, rfl⟩
  rw [← hn, ← hck] at HU HK
  rw [← hn] at HF ⊢
  have hnb : q = true → n ≤ 20 := fun h => by have := hq2 h; omega
  have HX := Aside0.mk (And.intro hn (And.intro hr hnb))
  have hcase : q = false ∨ (q = true ∧ 300 < d.size) ∨ (q = true ∧ d.size ≤ 300 ∧ (ck != 0) = true) ∨ (q = true ∧ d.size ≤ 300 ∧ ck = 0) := by
    cases q
    · exact .inl rfl
    · by_cases h : 300 < d.size
      · exact .inr (.inl ⟨rfl, h⟩)
      · by_cases h2 : ck = 0
        · exact .inr (.inr (.inr ⟨rfl, by omega, h2⟩))
        · exact .inr (.inr (.inl ⟨rfl, by omega, bne_iff_ne.2 h2⟩))
  clear hr hc hl hy hq1 hq2 hn hck hnb
  rcases hcase with rfl | ⟨rfl, hp⟩ | ⟨rfl, hp, h5⟩ | ⟨rfl, hp, rfl⟩
  · clear HK HU
    go_enter Tryd.func5, Tryd.ntmps5
    go_wp2_with (first
      | (go_at_call 13; go_loud (refine (awake_calls w).mono ?_; rintro e w1 ⟨rfl, hb1⟩; have H1 := Aside0.mk hb1; clear hb1))
      | (go_at_call 14; go_loud (refine (HF.out w1 H1.out).mono ?_; rintro e w2 ⟨rfl, hb⟩; have H2 := Aside0.mk (below_step H1.out hb); clear hb)))
    go_ret
    exact ⟨rfl, H2.out⟩
  · have d1 : decide ((d.size : Int) > 300) = true := decide_eq_true (by omega)
    clear HK HU hp
    go_enter Tryd.func5, Tryd.ntmps5
    go_wp2_with (first
      | (go_at_call 13; go_loud (refine (awake_calls w).mono ?_; rintro e w1 ⟨rfl, hb1⟩; have H1 := Aside0.mk hb1; clear hb1))
      | (go_at_call 14; go_loud (refine (HF.out w1 H1.out).mono ?_; rintro e w2 ⟨rfl, hb⟩; have H2 := Aside0.mk (below_step H1.out hb); clear hb)))
    go_ret
    exact ⟨rfl, H2.out⟩
  · have d1 : decide ((d.size : Int) > 300) = false := decide_eq_false (by omega)
    have HC := Aside0.mk (HK.out rfl)
    clear HK HU hp
    go_enter Tryd.func5, Tryd.ntmps5
    go_wp2_with (first
      | (go_at_call 13; go_loud (refine (awake_calls w).mono ?_; rintro e w1 ⟨rfl, hb1⟩; have H1 := Aside0.mk hb1; clear hb1))
      | (go_at_call 14; go_loud (refine (HF.out w1 H1.out).mono ?_; rintro e w2 ⟨rfl, hb⟩; have H2 := Aside0.mk (below_step H1.out hb); clear hb))
      | (go_at_call 20; go_loud (refine (HC.out w2 H2.out).mono ?_; rintro e w3 ⟨rfl, hb⟩; have H3 := Aside0.mk (below_step H2.out hb); clear hb)))
    go_ret
    exact ⟨rfl, H3.out⟩
  · have d1 : decide ((d.size : Int) > 300) = false := decide_eq_false (by omega)
    have HC := Aside0.mk (HK.out rfl)
    have T := Aside0.mk (HU.out rfl rfl hp)
    obtain ⟨z, hz⟩ : ∃ z, z = undM l d := ⟨_, rfl⟩
    rw [← hz] at T
    obtain ⟨m, hm⟩ : ∃ m, m = l.map toF := ⟨_, rfl⟩
    have hml : m.length = n := by rw [hm, List.length_map, HX.out.1]
    have HM := Aside0.mk (And.intro hm hml)
    obtain ⟨nz, hnz⟩ : ∃ nz, nz = z.1.length := ⟨_, rfl⟩
    have HZ := Aside0.mk (And.intro hnz hp)
    clear HK HU hp hz hm hml hnz
    go_enter Tryd.func5, Tryd.ntmps5
    go_wp2_with (first
      | (go_at_call 13; go_loud (refine (awake_calls w).mono ?_; rintro e w1 ⟨rfl, hb1⟩; have H1 := Aside0.mk hb1; clear hb1))
      | (go_at_call 14; go_loud (refine (HF.out w1 H1.out).mono ?_; rintro e w2 ⟨rfl, hb⟩; have H2 := Aside0.mk (below_step H1.out hb); clear hb))
      | (go_at_call 20; go_loud (refine (HC.out w2 H2.out).mono ?_; rintro e w3 ⟨rfl, hb⟩; have H3 := Aside0.mk (below_step H2.out hb); clear hb))
      | (go_at_call 26; go_loud (refine (T.out.und w3 H3.out).mono ?_; rintro e w4 ⟨v4, u4, rfl, hv, hu, hb⟩; obtain ⟨A4, c4, rfl, _, hC4⟩ := reads_n nz HZ.out.1.symm hv; obtain ⟨B4, d4, rfl, _, hD4⟩ := reads_n nz (T.out.len.trans HZ.out.1.symm) hu; have H4 := Aside0.mk (And.intro hC4 (And.intro hD4 (below_step H3.out hb))); clear hb hv hu hC4 hD4))
      | (go_at_call 15; go_loud (have hx := T.out.fo w4 H4.out.2.2; rw [← HM.out.1] at hx; refine hx.mono ?_; clear hx; rintro e w5 ⟨v5, rfl, hv5, hb⟩; obtain ⟨A5, c5, rfl, _, hC5⟩ := reads_n n HM.out.2 hv5; have H5 := Aside0.mk (And.intro (Kd.C_below H4.out.1 hb) (And.intro (Kd.C_below H4.out.2.1 hb) (And.intro hC5 (below_step H4.out.2.2 hb)))); clear hb hv5 hC5))
      | (go_at_call 27; go_loud (refine (T.out.rund w5 A5 c5 (by rw [← HM.out.1]; exact H5.out.2.2.1)).mono ?_; rintro e w6 ⟨v6, u6, rfl, hv, hu, hb⟩; obtain ⟨A6, c6, rfl, _, hC6⟩ := reads_n nz HZ.out.1.symm hv; obtain ⟨B6, d6, rfl, _, hD6⟩ := reads_n nz (T.out.len.trans HZ.out.1.symm) hu; have H6 := Aside0.mk (And.intro (Kd.C_below H5.out.1 hb) (And.intro (Kd.C_below H5.out.2.1 hb) (And.intro hC6 (And.intro hD6 (below_step H5.out.2.2.2 hb))))); clear hb hv hu hC6 hD6)))
    clear H1 H2 H3 H4 H5
    go_loopg [11] nz (fun q2 v11 wr => ∃ i : Nat, v11 = .int .i64 i ∧ q2 + i = nz ∧ Aside0 (Below w6.heap.size w6 wr))
    case atStart => exact ⟨0, rfl, by omega, ⟨Below.refl _ _⟩⟩
    case round =>
      obtain ⟨i, rfl, hqi, hB⟩ := hrel
      by_cases hin : i < nz
      · have d3 : decide ((i : Int) < (nz : Int)) = true := decide_eq_true (by omega)
        have p25 : (0 ≤ (i : Int)) = True := eq_true (by omega)
        have q25 : ((i : Int) < (nz : Int)) = True := eq_true (by omega)
        obtain ⟨a4, e4, x4⟩ := Kd.at_string H6.out.1 (i : Int) (by omega) (by omega)
        obtain ⟨b4, f4, y4⟩ := Kd.at_bool H6.out.2.1 (i : Int) (by omega) (by omega)
        obtain ⟨a6, e6, x6⟩ := Kd.at_string H6.out.2.2.1 (i : Int) (by omega) (by omega)
        obtain ⟨b6, f6, y6⟩ := Kd.at_bool H6.out.2.2.2.1 (i : Int) (by omega) (by omega)
        cases e4
        cases f4
        cases e6
        cases f6
        obtain ⟨ni, hni⟩ : ∃ x, x = z.1.getD i ByteArray.empty := ⟨_, rfl⟩
        obtain ⟨bi, hbi⟩ : ∃ x, x = z.2.getD i false := ⟨_, rfl⟩
        rw [show rdOf ByteArray.empty z.1 (i : Int) = ni by unfold rdOf; rw [Int.toNat_natCast, hni], Int.toNat_natCast] at x4 x6
        rw [show rdOf false z.2 (i : Int) = bi by unfold rdOf; rw [Int.toNat_natCast, hbi], Int.toNat_natCast] at y4 y6
        have hlaw := T.out.law i (by have := HZ.out.1; omega)
        have hsiz := T.out.siz i (by have := HZ.out.1; omega)
        rw [← hni, ← hbi] at hlaw
        rw [← hni] at hsiz
        have HC4 : Aside0 (∀ W, Below w6.heap.size w6 W → W.cell? (a4.add i) = some (.string ni) ∧ W.cell? (b4.add i) = some (.bool bi) ∧ W.cell? (a6.add i) = some (.string ni) ∧ W.cell? (b6.add i) = some (.bool bi)) := ⟨fun W hb => ⟨(hb.cell (World.block_lt_of_cell? w6 _ x4)).trans x4, (hb.cell (World.block_lt_of_cell? w6 _ y4)).trans y4, (hb.cell (World.block_lt_of_cell? w6 _ x6)).trans x6, (hb.cell (World.block_lt_of_cell? w6 _ y6)).trans y6⟩⟩
        have HL := Aside0.mk (And.intro hlaw hsiz)
        clear hlaw hsiz hni hbi x4 x6 y4 y6
        have g1 : (ni.toList != ni.toList) = false := bne_self_eq_false _
        have g2 : (bi != bi) = false := bne_self_eq_false _
        go_upto_region 14 with (fail)
        obtain ⟨wd, hwd⟩ : ∃ x, x = wr.drew := ⟨_, rfl⟩
        have HD := Aside0.mk (show Below w6.heap.size w6 wd from by rw [hwd]; exact below_step hB.out (below_drew1 (Below.refl _ _)))
        clear hB
        refine start_ (n := 20) (S := fun W => W.cell? (a4.add i) = some (.string ni) ∧ W.cell? (b4.add i) = some (.bool bi) ∧ W.cell? (a6.add i) = some (.string ni) ∧ W.cell? (b6.add i) = some (.bool bi)) (ds := []) #[false, false, false, false, false, false, false, false, false, false, false, false, false, false, false, false, false, false, false, false] (by kernel_rfl) rfl (by kernel_rfl) (by rw [← hwd]; exact HC4.out wd HD.out) (fun hHeld => ?_)
        rw [← hwd] at hHeld ⊢
        clear hwd
        refine pure_ (i := 0) (N := some 70) (v := ?_) (a' := ?_) #[true, false, false, false, false, false, false, false, false, false, false, false, false, false, false, false, false, false, false, false] rfl rfl (by kernel_rfl) (fun _ _ _ h => h) (Or.inl ⟨by rfl, ?_⟩) ?_ ?_
        rotate_left
        · intro w'
          go_simp
          with_reducible rfl
        rotate_left
        · simp only [Act.put, List.setIfInBounds_toArray, List.set_cons_zero, List.set_cons_succ, i64_w, i32_w]
          rfl
        refine pure_ (i := 1) (N := some 71) (v := ?_) (a' := ?_) #[true, true, false, false, false, false, false, false, false, false, false, false, false, false, false, false, false, false, false, false] rfl rfl (by kernel_rfl) (fun _ _ _ h => h) (Or.inl ⟨by rfl, ?_⟩) ?_ ?_
        rotate_left
        · intro w'
          go_simp
          with_reducible rfl
        rotate_left
        · simp only [Act.put, List.setIfInBounds_toArray, List.set_cons_zero, List.set_cons_succ, i64_w, i32_w]
          rfl
        refine pure_ (i := 2) (N := some 72) (v := ?_) (a' := ?_) #[true, true, true, false, false, false, false, false, false, false, false, false, false, false, false, false, false, false, false, false] rfl rfl (by kernel_rfl) (fun _ _ _ h => h) (Or.inl ⟨by rfl, ?_⟩) ?_ ?_
        rotate_left
        · intro w'
          go_simp
          with_reducible rfl
        rotate_left
        · simp only [Act.put, List.setIfInBounds_toArray, List.set_cons_zero, List.set_cons_succ, i64_w, i32_w]
          rfl
        refine take_ (i := 3) (N := some 73) (v := ?_) (a' := ?_) #[true, true, true, true, false, false, false, false, false, false, false, false, false, false, false, false, false, false, false, false] rfl rfl (by kernel_rfl) (fun _ _ _ h => h) (Or.inl ⟨by rfl, ?_⟩) hHeld ?_ ?_
        rotate_left
        · rintro w' ⟨s1, s2, s3, s4⟩
          go_simp
          with_reducible rfl
        rotate_left
        · simp only [Act.put, List.setIfInBounds_toArray, List.set_cons_zero, List.set_cons_succ, i64_w, i32_w]
          rfl
        refine pure_ (i := 4) (N := some 74) (v := ?_) (a' := ?_) #[true, true, true, true, true, false, false, false, false, false, false, false, false, false, false, false, false, false, false, false] rfl rfl (by kernel_rfl) (fun _ _ _ h => h) (Or.inl ⟨by rfl, ?_⟩) ?_ ?_
        rotate_left
        · intro w'
          go_simp
          with_reducible rfl
        rotate_left
        · simp only [Act.put, List.setIfInBounds_toArray, List.set_cons_zero, List.set_cons_succ, i64_w, i32_w]
          rfl
        refine pure_ (i := 5) (N := some 75) (v := ?_) (a' := ?_) #[true, true, true, true, true, true, false, false, false, false, false, false, false, false, false, false, false, false, false, false] rfl rfl (by kernel_rfl) (fun _ _ _ h => h) (Or.inl ⟨by rfl, ?_⟩) ?_ ?_
        rotate_left
        · intro w'
          go_simp
          with_reducible rfl
        rotate_left
        · simp only [Act.put, List.setIfInBounds_toArray, List.set_cons_zero, List.set_cons_succ, i64_w, i32_w]
          rfl
        refine pure_ (i := 6) (N := some 76) (v := ?_) (a' := ?_) #[true, true, true, true, true, true, true, false, false, false, false, false, false, false, false, false, false, false, false, false] rfl rfl (by kernel_rfl) (fun _ _ _ h => h) (Or.inl ⟨by rfl, ?_⟩) ?_ ?_
        rotate_left
        · intro w'
          go_simp
          with_reducible rfl
        rotate_left
        · simp only [Act.put, List.setIfInBounds_toArray, List.set_cons_zero, List.set_cons_succ, i64_w, i32_w]
          rfl
        refine take_ (i := 7) (N := some 77) (v := ?_) (a' := ?_) #[true, true, true, true, true, true, true, true, false, false, false, false, false, false, false, false, false, false, false, false] rfl rfl (by kernel_rfl) (fun _ _ _ h => h) (Or.inl ⟨by rfl, ?_⟩) hHeld ?_ ?_
        rotate_left
        · rintro w' ⟨s1, s2, s3, s4⟩
          go_simp
          with_reducible rfl
        rotate_left
        · simp only [Act.put, List.setIfInBounds_toArray, List.set_cons_zero, List.set_cons_succ, i64_w, i32_w]
          rfl
        refine pure_ (i := 8) (N := some 78) (v := ?_) (a' := ?_) #[true, true, true, true, true, true, true, true, true, false, false, false, false, false, false, false, false, false, false, false] rfl rfl (by kernel_rfl) (fun _ _ _ h => h) (Or.inl ⟨by rfl, ?_⟩) ?_ ?_
        rotate_left
        · intro w'
          go_simp
          with_reducible rfl
        rotate_left
        · simp only [Act.put, List.setIfInBounds_toArray, List.set_cons_zero, List.set_cons_succ, i64_w, i32_w]
          rfl
        refine pure_ (i := 9) (N := some 79) (v := ?_) (a' := ?_) #[true, true, true, true, true, true, true, true, true, true, false, false, false, false, false, false, false, false, false, false] rfl rfl (by kernel_rfl) (fun _ _ _ h => h) (Or.inl ⟨by rfl, ?_⟩) ?_ ?_
        rotate_left
        · intro w'
          go_simp
          with_reducible rfl
        rotate_left
        · simp only [Act.put, List.setIfInBounds_toArray, List.set_cons_zero, List.set_cons_succ, i64_w, i32_w]
          rfl
        refine pure_ (i := 10) (N := some 80) (v := ?_) (a' := ?_) #[true, true, true, true, true, true, true, true, true, true, true, false, false, false, false, false, false, false, false, false] rfl rfl (by kernel_rfl) (fun _ _ _ h => h) (Or.inl ⟨by rfl, ?_⟩) ?_ ?_
        rotate_left
        · intro w'
          go_simp
          with_reducible rfl
        rotate_left
        · simp only [Act.put, List.setIfInBounds_toArray, List.set_cons_zero, List.set_cons_succ, i64_w, i32_w]
          rfl
        refine pure_ (i := 11) (N := some 81) (v := ?_) (a' := ?_) #[true, true, true, true, true, true, true, true, true, true, true, true, false, false, false, false, false, false, false, false] rfl rfl (by kernel_rfl) (fun _ _ _ h => h) (Or.inl ⟨by rfl, ?_⟩) ?_ ?_
        rotate_left
        · intro w'
          go_simp
          with_reducible rfl
        rotate_left
        · simp only [Act.put, List.setIfInBounds_toArray, List.set_cons_zero, List.set_cons_succ, i64_w, i32_w]
          rfl
        refine pure_ (i := 12) (N := some 82) (v := ?_) (a' := ?_) #[true, true, true, true, true, true, true, true, true, true, true, true, true, false, false, false, false, false, false, false] rfl rfl (by kernel_rfl) (fun _ _ _ h => h) (Or.inl ⟨by rfl, ?_⟩) ?_ ?_
        rotate_left
        · intro w'
          go_simp
          with_reducible rfl
        rotate_left
        · simp only [Act.put, List.setIfInBounds_toArray, List.set_cons_zero, List.set_cons_succ, i64_w, i32_w]
          rfl
        refine take_ (i := 13) (N := some 83) (v := ?_) (a' := ?_) #[true, true, true, true, true, true, true, true, true, true, true, true, true, true, false, false, false, false, false, false] rfl rfl (by kernel_rfl) (fun _ _ _ h => h) (Or.inl ⟨by rfl, ?_⟩) hHeld ?_ ?_
        rotate_left
        · rintro w' ⟨s1, s2, s3, s4⟩
          go_simp
          with_reducible rfl
        rotate_left
        · simp only [Act.put, List.setIfInBounds_toArray, List.set_cons_zero, List.set_cons_succ, i64_w, i32_w]
          rfl
        refine pure_ (i := 14) (N := some 84) (v := ?_) (a' := ?_) #[true, true, true, true, true, true, true, true, true, true, true, true, true, true, true, false, false, false, false, false] rfl rfl (by kernel_rfl) (fun _ _ _ h => h) (Or.inl ⟨by rfl, ?_⟩) ?_ ?_
        rotate_left
        · intro w'
          go_simp
          with_reducible rfl
        rotate_left
        · simp only [Act.put, List.setIfInBounds_toArray, List.set_cons_zero, List.set_cons_succ, i64_w, i32_w]
          rfl
        refine pure_ (i := 15) (N := some 85) (v := ?_) (a' := ?_) #[true, true, true, true, true, true, true, true, true, true, true, true, true, true, true, true, false, false, false, false] rfl rfl (by kernel_rfl) (fun _ _ _ h => h) (Or.inl ⟨by rfl, ?_⟩) ?_ ?_
        rotate_left
        · intro w'
          go_simp
          with_reducible rfl
        rotate_left
        · simp only [Act.put, List.setIfInBounds_toArray, List.set_cons_zero, List.set_cons_succ, i64_w, i32_w]
          rfl
        refine pure_ (i := 16) (N := some 86) (v := ?_) (a' := ?_) #[true, true, true, true, true, true, true, true, true, true, true, true, true, true, true, true, true, false, false, false] rfl rfl (by kernel_rfl) (fun _ _ _ h => h) (Or.inl ⟨by rfl, ?_⟩) ?_ ?_
        rotate_left
        · intro w'
          go_simp
          with_reducible rfl
        rotate_left
        · simp only [Act.put, List.setIfInBounds_toArray, List.set_cons_zero, List.set_cons_succ, i64_w, i32_w]
          rfl
        refine take_ (i := 17) (N := some 87) (v := ?_) (a' := ?_) #[true, true, true, true, true, true, true, true, true, true, true, true, true, true, true, true, true, true, false, false] rfl rfl (by kernel_rfl) (fun _ _ _ h => h) (Or.inl ⟨by rfl, ?_⟩) hHeld ?_ ?_
        rotate_left
        · rintro w' ⟨s1, s2, s3, s4⟩
          go_simp
          with_reducible rfl
        rotate_left
        · simp only [Act.put, List.setIfInBounds_toArray, List.set_cons_zero, List.set_cons_succ, i64_w, i32_w]
          rfl
        refine pure_ (i := 18) (N := some 88) (v := ?_) (a' := ?_) #[true, true, true, true, true, true, true, true, true, true, true, true, true, true, true, true, true, true, true, false] rfl rfl (by kernel_rfl) (fun _ _ _ h => h) (Or.inl ⟨by rfl, ?_⟩) ?_ ?_
        rotate_left
        · intro w'
          go_simp
          with_reducible rfl
        rotate_left
        · simp only [Act.put, List.setIfInBounds_toArray, List.set_cons_zero, List.set_cons_succ, i64_w, i32_w]
          rfl
        refine pure_ (i := 19) (N := some 89) (v := ?_) (a' := ?_) #[true, true, true, true, true, true, true, true, true, true, true, true, true, true, true, true, true, true, true, true] rfl rfl (by kernel_rfl) (fun _ _ _ h => h) (Or.inl ⟨by rfl, ?_⟩) ?_ ?_
        rotate_left
        · intro w'
          go_simp
          with_reducible rfl
        rotate_left
        · simp only [Act.put, List.setIfInBounds_toArray, List.set_cons_zero, List.set_cons_succ, i64_w, i32_w]
          rfl
        refine done_ (by kernel_rfl) ?_
        obtain ⟨x4, y4, x6, y6⟩ := HC4.out wd HD.out
        clear hHeld x6 y6
        have hcase : (d.toList.isEmpty = true ∧ d.toList = []) ∨ (d.toList.isEmpty = false ∧ d.toList ≠ []) := by
          by_cases h : d.toList = []
          · exact .inl ⟨List.isEmpty_iff.2 h, h⟩
          · exact .inr ⟨List.isEmpty_eq_false_iff.2 h, h⟩
        rcases hcase with ⟨q0, h0⟩ | ⟨q0, h0⟩
        case' inl =>
          have q1 : (d.toList == ([] : List UInt8)) = true := beq_iff_eq.2 h0
          have q2 : (d.toList != ([] : List UInt8)) = false := by rw [h0]; rfl
          obtain ⟨pp, hpp⟩ : ∃ x, x = ni := ⟨_, rfl⟩
          have HPP := Aside0.mk (show dirP d ++ ni = pp from by
            refine tl_inj ?_
            rw [tl_app, dirP_nil h0, hpp]
            rw [toList_tl] at h0
            rw [h0]; rfl)
        case' inr =>
          have q1 : (d.toList == ([] : List UInt8)) = false := beq_eq_false_iff_ne.2 h0
          have q2 : (d.toList != ([] : List UInt8)) = true := bne_iff_ne.2 h0
          obtain ⟨pp, hpp⟩ : ∃ x, x = d ++ ⟨#[47]⟩ ++ ni := ⟨_, rfl⟩
          have HPP := Aside0.mk (show dirP d ++ ni = pp from by rw [hpp]; unfold dirP slashB; rw [if_neg h0])
          have k1 : (9223372036854775807 < d.size + 1) = False := eq_false (by have := HZ.out.2; omega)
          have k2 : (9223372036854775807 < d.size + (⟨#[47]⟩ : ByteArray).size) = False := k1
          have k3 : (9223372036854775807 < d.size + 1 + ni.size) = False := eq_false (by have := HZ.out.2; have := HL.out.2; omega)
        all_goals
          clear h0
          go_wp2
          try rw [← hpp]
          clear q0 q1 q2 hpp
          go_loopg [13, 14] n (fun q3 v13 v14 wk => ∃ k : Nat, v14 = .int .i64 k ∧ q3 + k = n ∧ v13 = .bool ((l.take k).any (fun f => f.f0.toList == pp.toList)) ∧ Aside0 (Below w6.heap.size w6 wk))
          case atStart => exact ⟨0, rfl, by omega, rfl, HD⟩
          case round =>
            obtain ⟨k, rfl, hqk, rfl, hBk⟩ := hrel
            have hnb : n ≤ 20 := by have h := HX.out.2.2; simpa using h
            have hiz : i ≤ 100000 := by have h1 := T.out.few; have h2 := HZ.out.1; omega
            by_cases hkn : k < n
            · have d4 : decide ((k : Int) < (n : Int)) = true := decide_eq_true (by omega)
              have hkl : k < l.length := by have := HX.out.1; omega
              obtain ⟨ad, B, bc, e0, c0, c1, hbc, hbC⟩ := at_T50 HX.out.2.1 (k : Int) (by omega) (by omega)
              cases e0
              obtain ⟨f, hf⟩ : ∃ f, f = l.getD k z50 := ⟨_, rfl⟩
              rw [show rd_T50 l (k : Int) = f by rw [hf]; rfl, Int.toNat_natCast] at c0
              clear c1 hbc hbC
              obtain ⟨sk, hsk⟩ : ∃ x, x = (l.take k).any (fun f => f.f0.toList == pp.toList) := ⟨_, rfl⟩
              have hnx := any_f hkl (fun f => f.f0.toList == pp.toList)
              rw [← hsk, ← hf] at hnx
              rw [← hsk]
              obtain ⟨s, b⟩ := f
              dsimp only at c0 hnx
              replace c0 := ((below_step H6.out.2.2.2.2 hBk.out).cell (World.block_lt_of_cell? w _ c0)).trans c0
              have HNX := Aside0.mk hnx
              clear hnx hsk hf hkl
              have p26 : (0 ≤ (k : Int)) = True := eq_true (by omega)
              have q26 : ((k : Int) < (n : Int)) = True := eq_true (by omega)
              cases sk
              all_goals
                go_wp2
                go_roundg (n - (k + 1))
                case measure => omega
                case rel => exact ⟨k + 1, by go_num, by omega, by first | (rw [HNX.out, Bool.false_or]; done) | (rw [HNX.out, Bool.true_or]; done) | (rw [HNX.out, Bool.false_or]; rfl), hBk⟩
            · have d4 : decide ((k : Int) < (n : Int)) = false := decide_eq_false (by omega)
              have hfl : (l.take k).any (fun f => f.f0.toList == pp.toList) = !bi := by
                rw [List.take_of_length_le (by have := HX.out.1; omega)]
                have h := HL.out.1
                rw [HPP.out] at h
                exact h
              rw [hfl]
              clear hfl
              have y5 := (HC4.out _ hBk.out).2.1
              have g3 : ((!bi) == bi) = false := by cases bi <;> rfl
              go_wp2
              go_roundg (nz - (i + 1))
              case measure => omega
              case rel => exact ⟨i + 1, by go_num, by omega, hBk⟩
      · have d3 : decide ((i : Int) < (nz : Int)) = false := decide_eq_false (by omega)
        go_wp2
        go_ret
        exact ⟨rfl, below_step H6.out.2.2.2.2 hB.out⟩
end
end Go.Proofs.YtgjdcdhfijkoiaaDoor.Str
end
section
namespace Go.Proofs.YtgjdcdhfijkoiaaDoor.Str
open Go.ChangeShapes Go.WideShapes Go.RowKit Go.Proofs.YtgjdcdhfijkoiaaDoorW.PrintWords Go.Proofs.YtgjdcdhfijkoiaaDoor.Mem Go.Proofs.YtgjdcdhfijkoiaaDoor.PCod Go.Proofs.YtgjdcdhfijkoiaaDoor.Cod Go.Proofs.YtgjdcdhfijkoiaaDoor.Open
set_option linter.unusedVariables false
set_option linter.unusedSimpArgs false
section
variable {H : Type} {enc : TypeId × Value → H} {w : World}
set_option maxRecDepth 100000 in
theorem under_row {u : Value} {d1 : DataW H} {p1 : List MemPlace} {b1 : Nat} (hu : Value.okWide Tryd.prog w .any b1 22 u) (h1 : DataW.Trod enc Tryd.prog w 0 (fun _ => true) true 22 u d1 p1) (s : ByteArray) :
    Calls Tryd.prog 5 #[u, .string s] w fun e w' => e = .returned (.bool true) ∧ Below w.heap.size w w' := by
  obtain ⟨A, c, a, rfl, q1, q2, q3, q4⟩ := open_files hu h1
  exact und_walk q1 q2 q3 q4 s
end
end Go.Proofs.YtgjdcdhfijkoiaaDoor.Str
end
