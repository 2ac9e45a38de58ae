/- ObjectsBelow walked. -/
import Derived.Test.YtgjdcdhfijkoiaaDoorObD
import Derived.Test.YtgjdcdhfijkoiaaDoorFiE
import Derived.OpenShut
import Derived.ShutString
import Derived.Lib.SmallJoins
section
namespace Go.Proofs.YtgjdcdhfijkoiaaDoor.Obj
open Go.RowKit Go.Proofs.YtgjdcdhfijkoiaaDoorW.PrintWords Go.Proofs.YtgjdcdhfijkoiaaDoorW.PrintLast Go.Proofs.YtgjdcdhfijkoiaaDoorW.PrintMore Go.Proofs.YtgjdcdhfijkoiaaDoor.Mem Go.Proofs.YtgjdcdhfijkoiaaDoor.Cod Go.Proofs.YtgjdcdhfijkoiaaDoor.PCod Go.Proofs.YtgjdcdhfijkoiaaDoor.Str Go.Proofs.YtgjdcdhfijkoiaaDoor.Open Go.Proofs.YtgjdcdhfijkoiaaDoor.Conv
set_option linter.unusedVariables false
set_option linter.unusedSimpArgs false
/-- A row of n ids in its own block. -/
def RowB (W : World) (b n : Nat) (L : Nat → List Int) : Prop := ∃ cur : List Value, W.heap[b]? = some (.cells cur.toArray 74 (0, 0)) ∧ n * 32 ≤ cur.length ∧ ∀ i, i < n → (L i).length = 32 ∧ ∀ (j : Nat) (v : Value), (nums .u8 (L i))[j]? = some v → cur[i * 32 + j]? = some v
section
variable {W W' : World} {b n : Nat} {L : Nat → List Int}
theorem RowB.blk (h : RowB W b n L) (hb : W'.heap[b]? = W.heap[b]?) : RowB W' b n L := by
  obtain ⟨cur, h1, h2⟩ := h
  exact ⟨cur, hb.trans h1, h2⟩
theorem RowB.lt (h : RowB W b n L) : b < W.heap.size := by
  obtain ⟨cur, h1, h2⟩ := h
  exact blk_lt h1
theorem RowB.cell (h : RowB W b n L) {i : Nat} (hi : i < n) : ∀ (j : Nat) (v : Value), (nums .u8 (L i))[j]? = some v → W.cell? ⟨b, i * 32 + j, none⟩ = some v := by
  obtain ⟨cur, h1, h2, h3⟩ := h
  intro j v hj
  rw [blk_cell h1, List.getElem?_toArray]
  exact (h3 i hi).2 j v hj
theorem RowB.set (h : RowB W b n L) {i : Nat} (hi : i < n) (y : Int) : RowB (W.setCell ⟨b, i * 32, none⟩ (.int .u8 y)) b n (fun q => if q = i then (L i).set 0 y else L q) := by
  obtain ⟨cur, h1, h2, h3⟩ := h
  refine ⟨cur.set (i * 32) (.int .u8 y), by simpa using blk_set h1 (i * 32) (.int .u8 y), by rw [List.length_set]; exact h2, fun q hq => ?_⟩
  by_cases e : q = i
  · subst e
    dsimp only
    rw [if_pos rfl]
    refine ⟨by rw [List.length_set]; exact (h3 q hq).1, fun j v hj => ?_⟩
    by_cases hj0 : j = 0
    · subst hj0
      rw [Nat.add_zero, List.getElem?_set_self (by omega)]
      unfold nums at hj
      rw [List.getElem?_map, List.getElem?_set_self (by rw [(h3 q hq).1]; omega)] at hj
      exact hj
    · rw [List.getElem?_set_ne (by omega)]
      refine (h3 q hq).2 j v ?_
      unfold nums at hj ⊢
      rw [List.getElem?_map] at hj ⊢
      rw [List.getElem?_set_ne (by omega)] at hj
      exact hj
  · dsimp only
    rw [if_neg e]
    refine ⟨(h3 q hq).1, fun j v hj => ?_⟩
    have hj32 : j < 32 := by
      have := (List.getElem?_eq_some_iff.1 hj).1
      rw [nums_length, (h3 q hq).1] at this
      exact this
    rw [List.getElem?_set_ne (by omega)]
    exact (h3 q hq).2 j v hj
theorem exec_store1 {P : Program} {o : Oper} {ev : Operand → Value} (W : World) (ty : TypeId) (x y : Operand) (ho : o.op = .store ty x y) (g off : Nat) (v : Value) (hx : ev x = .pointer (some ⟨g, off, none⟩)) (hy : ev y = v) (hc : v.cells = #[v])
    (t : TypeId) (cs : List Value) (hg : W.heap[g]? = some (.cells cs.toArray t (0, 0))) (hi : (P.info? ty).map (·.size) = some 1) (hl : off < cs.length) (h1 : v.oneCell' = true) :
    (execOp ev o).run P W = .ok .skip (W.setCell ⟨g, off, none⟩ v) := by
  have hst := run_storeCells_cells (P := P) g off [v] 0 W (fun j hj => by
    have : j = 0 := by simp at hj; omega
    subst this
    rw [blk_cell hg, List.getElem?_toArray, List.getElem?_eq_getElem (by omega)]; rfl) (fun j hj => blk_frozen hg _) (fun u hu => by rw [List.mem_singleton.1 hu]; exact h1)
  cases hq : P.info? ty with
  | none => simp [hq] at hi
  | some i =>
    have hs : i.size = 1 := by simp [hq] at hi; exact hi
    unfold execOp
    simp only [ho, hx, hy, Instr.storeAt, Instr.sureAddr, Sem.run_bind, Sem.run_pure, Result.andThen_ok]
    simp [storeVar, sizeOf, typeInfo, hq, hc, hs, hst, World.setCells]
end
def incL (p : List Int) : List Int := p.set 0 (IntKind.u8.wrap (p.getD 0 0 + 1))
theorem incL_ne {p : List Int} (hp : p.length = 32) (hy : Byt p) : (p == incL p) = false := by
  rw [beq_eq_false_iff_ne]
  intro e
  have h0 : 0 < p.length := by omega
  have hg : p.getD 0 0 = p[0] := by rw [List.getD_eq_getElem?_getD, List.getElem?_eq_getElem h0]; rfl
  have h1 : p[0]? = (incL p)[0]? := by rw [← e]
  unfold incL at h1
  rw [List.getElem?_set_self h0, List.getElem?_eq_getElem h0, hg] at h1
  have h2 := hy p[0] (List.getElem_mem h0)
  have h3 := Option.some.inj h1
  rw [IntKind.wrap_u8] at h3
  omega
def stL (L0 : Nat → List Int) (i : Nat) : Nat → List Int := fun q => if q < i then incL (L0 q) else L0 q
theorem stL_succ (L0 : Nat → List Int) (i : Nat) : (fun q => if q = i then (stL L0 i i).set 0 (IntKind.u8.wrap ((L0 i).getD 0 0 + 1)) else stL L0 i q) = stL L0 (i + 1) := by
  funext q
  unfold stL
  rw [if_neg (Nat.lt_irrefl i)]
  by_cases e : q = i
  · subst e
    rw [if_pos rfl, if_pos (by omega)]; rfl
  · rw [if_neg e]
    by_cases h : q < i
    · rw [if_pos h, if_pos (by omega)]
    · rw [if_neg h, if_neg (by omega)]
theorem below_len (x : OM) : (belowM x).length = x.ids.length + x.es.length := by unfold belowM; rw [List.length_append, List.length_map]
theorem below_ids (x : OM) {i : Nat} (h : i < x.ids.length) : (belowM x).getD i [] = x.ids.getD i [] := by
  unfold belowM
  rw [List.getD_eq_getElem?_getD, List.getD_eq_getElem?_getD, List.getElem?_append_left h]
theorem below_es (x : OM) {i : Nat} (h : ¬ i < x.ids.length) (h2 : i < x.ids.length + x.es.length) : (belowM x).getD i [] = (x.es.getD (i - x.ids.length) eNone).id := by
  unfold belowM
  rw [List.getD_eq_getElem?_getD, List.getD_eq_getElem?_getD, List.getElem?_append_right (by omega), List.getElem?_map, List.getElem?_eq_getElem (by omega)]
  rfl
section
variable {w : World} {x : OM} {cs : Array Value} {A Y E : Option Addr} {bc yc ec : Nat}
/-- The row of R, in its block. -/
theorem row_block {W : World} {N n : Nat} {v : Value} {xs : List (List Int)} (h : Kd.R kId 74 W N (fun _ => True) v xs) (hn : xs.length = n) (h0 : n ≠ 0) : ∃ b c, v = .slice (some ⟨b, 0, none⟩) n c ∧ N ≤ b ∧ RowB W b n (fun i => xs.getD i []) := by
  obtain ⟨A, c, rfl, _, hC⟩ := Kd.R_reads h
  have hb := (Kd.R_bound h).1
  obtain ⟨_, inner, hown, hr⟩ := h
  rcases hown.2 with ⟨hv, hz⟩ | ⟨b, cap, cur, hv, hNb, hh, h1, h2, h3, h4⟩
  · omega
  · injection hv with hA hn2 hc
    subst hA
    subst hn
    have hall : ∀ i, i < xs.length → (xs.getD i []).length = 32 ∧ ∀ (j : Nat) (v : Value), (nums .u8 (xs.getD i []))[j]? = some v → cur.toList[i * 32 + j]? = some v := fun i hi => by
      obtain ⟨ad, e, h32, hcell⟩ := at_id hC hi
      cases e
      refine ⟨h32, fun j v hj => ?_⟩
      have hq := hcell j v hj
      rw [add_0, Nat.zero_add, blk_cell hh] at hq
      simpa using hq
    refine ⟨b, c, rfl, hNb, cur.toList, by simpa using hh, ?_, hall⟩
    obtain ⟨h32, hc⟩ := hall (xs.length - 1) (by omega)
    have hlt : 31 < (nums .u8 (xs.getD (xs.length - 1) [])).length := by rw [nums_length, h32]; omega
    have hq := hc 31 _ (List.getElem?_eq_getElem hlt)
    have := (List.getElem?_eq_some_iff.1 hq).1
    omega
theorem row_any {W : World} {N n : Nat} {v : Value} {xs : List (List Int)} (h : Kd.R kId 74 W N (fun _ => True) v xs) (hn : xs.length = n) : ∃ Ad b c, v = .slice Ad n c ∧ (n ≠ 0 → Ad = some ⟨b, 0, none⟩ ∧ N ≤ b ∧ RowB W b n (fun i => xs.getD i [])) := by
  by_cases h0 : n = 0
  · obtain ⟨A, c, rfl, _, hC⟩ := Kd.R_reads h
    subst hn
    exact ⟨A, 0, c, rfl, fun h => absurd h0 h⟩
  · obtain ⟨b, c, h1, h2, h3⟩ := row_block h hn h0
    exact ⟨_, b, c, h1, fun _ => ⟨rfl, h2, h3⟩⟩
theorem run_id0 (W : World) : (Instr.build 74 #[]).run Tryd.prog W = .ok (.agg zid) W := by kernel_rfl
theorem exec_id0 {o : Oper} {ev : Operand → Value} {W : World} (ho : o.op = .build 74 #[]) : (execOp ev o).run Tryd.prog W = .ok (.value (.agg zid)) W := by
  have h := run_id0 W
  unfold execOp
  simp [ho, h]
theorem zid_fit : idFit (List.replicate 32 0) := id_fit rfl
set_option maxRecDepth 100000 in
set_option maxHeartbeats 8000000 in
theorem bel_law (hcs : OV cs x A Y E bc yc ec) (hI : InO w x A Y E) :
    Calls Tryd.prog 11 #[.agg cs] w fun e w' => e = .returned (.bool true) ∧ Below w.heap.size w w' := by
  have HCS := Aside0.mk (And.intro hcs hI)
  clear hcs hI
  obtain ⟨sm, hsm⟩ : ∃ b, b = smallM x := ⟨_, rfl⟩
  have HSM := Aside0.mk hsm
  cases sm
  · clear hsm
    go_enter Tryd.func11, Tryd.ntmps11
    go_wp2_with (first
      | ((with_reducible refine gate_dst (N := 1) rfl ?_); refine box_event ?hg (N := 1) ?hd (cs := cs) (t := 57) ?hr ?_; (case hd => rfl); (case hg => rfl); (case hr => exact exec_box _ _ _ rfl cs rfl); intro gb hgb w1 hbox hb1; have H1 := Aside0.mk (show OB w1 gb x A Y E bc yc ec ∧ Below w.heap.size w w1 from And.intro (OB.of HCS.out.1 hbox) hb1); clear hbox hb1 hgb)
      | (go_at_call 28; go_loud (refine (awake12_calls w1).mono ?_; rintro e w2 ⟨rfl, hb⟩; have H2 := Aside0.mk (show OB w2 gb x A Y E bc yc ec ∧ Below w.heap.size w w2 from ⟨H1.out.1.below hb, below_step H1.out.2 hb⟩); clear hb))
      | ((with_reducible refine gate_dst (N := 13) rfl ?_); refine Kd.event_run rfl (v := .agg cs) (w1 := w2) ?hr ?_; (case hr => exact H2.out.1.load HCS.out.1 (.tmp 1) rfl rfl))
      | (go_at_call 29; go_loud (have hx := small_calls HCS.out.1 (HCS.out.2.below H2.out.2); rw [← HSM.out] at hx; refine hx.mono ?_; clear hx; rintro e w3 ⟨rfl, hb⟩; have H3 := Aside0.mk (below_step H2.out.2 hb); clear hb)))
    go_ret
    exact ⟨rfl, H3.out⟩
  · obtain ⟨hy, he⟩ := small_few hsm.symm
    obtain ⟨yl, hyl⟩ : ∃ k, k = x.ids.length := ⟨_, rfl⟩
    obtain ⟨el, hel⟩ : ∃ k, k = x.es.length := ⟨_, rfl⟩
    obtain ⟨n, hn⟩ : ∃ k, k = yl + el := ⟨_, rfl⟩
    have hbl := below_len x
    rw [← hyl] at hy
    rw [← hel] at he
    have HN := Aside0.mk (And.intro hyl (And.intro hel (And.intro hn (show (belowM x).length = n by rw [hbl, hn, hyl, hel]))))
    have hws : wrap64 ((yl : Int) + (el : Int)) = ((n : Nat) : Int) := (IntWalk.wrap64_in _ ⟨by omega, by omega⟩).trans (by omega)
    have hsum : ((yl : Int) + (el : Int)) = (n : Int) := by omega
    have hnn : ((n : Int) != (n : Int)) = false := bne_self_eq_false _
    have hn80 : n ≤ 80 := by omega
    clear hsm hyl hel hbl hn
    go_enter Tryd.func11, Tryd.ntmps11
    go_wp2_with (first
      | ((with_reducible refine gate_dst (N := 1) rfl ?_); refine box_event ?hg (N := 1) ?hd (cs := cs) (t := 57) ?hr ?_; (case hd => rfl); (case hg => rfl); (case hr => exact exec_box _ _ _ rfl cs rfl); intro gb hgb w1 hbox hb1; have HB0 := Aside0.mk (show w.heap.size ≤ gb by omega); have H1 := Aside0.mk (show OB w1 gb x A Y E bc yc ec ∧ Below w.heap.size w w1 from And.intro (OB.of HCS.out.1 hbox) hb1); clear hbox hb1 hgb)
      | (go_at_call 28; go_loud (refine (awake12_calls w1).mono ?_; rintro e w2 ⟨rfl, hb⟩; have H2 := Aside0.mk (show OB w2 gb x A Y E bc yc ec ∧ Below w.heap.size w w2 from ⟨H1.out.1.below hb, below_step H1.out.2 hb⟩); clear hb))
      | ((with_reducible refine gate_dst (N := 13) rfl ?_); refine Kd.event_run rfl (v := .agg cs) (w1 := w2) ?hr ?_; (case hr => exact H2.out.1.load HCS.out.1 (.tmp 1) rfl rfl))
      | (go_at_call 29; go_loud (have hx := small_calls HCS.out.1 (HCS.out.2.below H2.out.2); rw [← HSM.out] at hx; refine hx.mono ?_; clear hx; rintro e w3 ⟨rfl, hb⟩; have H3 := Aside0.mk (show OB w3 gb x A Y E bc yc ec ∧ Below w.heap.size w w3 from ⟨H2.out.1.below hb, below_step H2.out.2 hb⟩); clear hb))
      | ((with_reducible refine gate_dst (N := 17) rfl ?_); refine Kd.event_run rfl (v := .agg cs) (w1 := w3) ?hr ?_; (case hr => exact H3.out.1.load HCS.out.1 (.tmp 1) rfl rfl))
      | (go_at_call 38; go_loud (refine (obelow_calls HCS.out.1 (HCS.out.2.below H3.out.2) (by have := HN.out.1; omega) (by have := HN.out.2.1; omega)).mono ?_; rintro e w4 ⟨v4, rfl, hv4, hb⟩; obtain ⟨Ad, bb, c4, rfl, hrow4⟩ := row_any hv4 HN.out.2.2.2; have H4 := Aside0.mk (show OB w4 gb x A Y E bc yc ec ∧ Below w.heap.size w w4 ∧ (n ≠ 0 → gb < bb ∧ RowB w4 bb n (stL (fun i => (belowM x).getD i []) 0)) from ⟨H3.out.1.below hb, below_step H3.out.2 hb, fun h => ⟨Nat.lt_of_lt_of_le (blk_lt H3.out.1) (hrow4 h).2.1, (hrow4 h).2.2⟩⟩); have HAd : Aside0 (n ≠ 0 → Ad = some ⟨bb, 0, none⟩) := ⟨fun h => (hrow4 h).1⟩; obtain ⟨_, _, _, a3, a4, _⟩ := H4.out.1.cells; rw [← HN.out.1] at a3; rw [← HN.out.2.1] at a4; clear hb hv4 hrow4)))
    clear a3 a4
    go_loopg [6] n (fun q v6 wr => ∃ i : Nat, v6 = .int .i64 i ∧ q + i = n ∧ Aside0 (OB wr gb x A Y E bc yc ec ∧ Below w.heap.size w wr ∧ (n ≠ 0 → gb < bb ∧ RowB wr bb n (stL (fun i => (belowM x).getD i []) i))))
    case atStart => exact ⟨0, rfl, by omega, H4⟩
    case round =>
      clear H1 H2 H3 H4
      obtain ⟨i, rfl, hq, hI⟩ := hrel
      by_cases hin : i < n
      rotate_left
      · have d1 : decide ((i : Int) < (n : Int)) = false := decide_eq_false (by omega)
        obtain rfl : i = n := by omega
        have hby : ∀ q, q < i → Byt ((belowM x).getD q []) ∧ ((belowM x).getD q []).length = 32 := fun q hqi => by
          by_cases hq1 : q < x.ids.length
          · rw [below_ids x hq1]
            exact ⟨HCS.out.2.bi _ (memGet hq1), (at_id HCS.out.2.yC hq1).choose_spec.2.1⟩
          · have h1 := HN.out.1
            have h2 := HN.out.2.1
            have h3 := HN.out.2.2.1
            rw [below_es x hq1 (by omega)]
            exact ⟨HCS.out.2.be _ (memGet (by omega)), (at_e HCS.out.2.eC (i := q - x.ids.length) (by omega)).choose_spec.2.1⟩
        have HBY := Aside0.mk hby
        clear hby hq
        go_wp2_with (first
          | ((with_reducible refine gate_dst (N := 70) rfl ?_); refine Kd.event_run rfl (v := .agg cs) (w1 := wr) ?hr ?_; (case hr => exact hI.out.1.load HCS.out.1 (.tmp 1) rfl rfl))
          | (go_at_call 38; go_loud (refine (obelow_calls HCS.out.1 (HCS.out.2.below hI.out.2.1) (by have := HN.out.1; omega) (by have := HN.out.2.1; omega)).mono ?_; rintro e w6 ⟨v6, rfl, hv6, hb⟩; obtain ⟨A6, c6, rfl, _, hC6⟩ := Kd.R_reads hv6; rw [HN.out.2.2.2] at hC6 ⊢; have H6 := Aside0.mk (show Kd.C kId w6 A6 i (belowM x) ∧ Below w.heap.size w w6 ∧ (i ≠ 0 → RowB w6 bb i (stL (fun i => (belowM x).getD i []) i)) from ⟨hC6, below_step hI.out.2.1 hb, fun h => (hI.out.2.2 h).2.blk (hb.block _ (hI.out.2.2 h).2.lt)⟩); clear hb hv6 hC6)))
        go_loopg [9] i (fun q v9 wk => ∃ k : Nat, v9 = .int .i64 k ∧ q + k = i ∧ Aside0 (Below w6.heap.size w6 wk))
        case atStart => exact ⟨0, rfl, by omega, ⟨Below.refl _ _⟩⟩
        case round =>
          obtain ⟨k, rfl, hqk, hB⟩ := hrel
          by_cases hki : k < i
          · have d3 : decide ((k : Int) < (i : Int)) = true := decide_eq_true (by omega)
            have p0 : (0 ≤ (k : Int)) = True := eq_true (by omega)
            have p1 : ((k : Int) < (i : Int)) = True := eq_true (by omega)
            have hn0 : i ≠ 0 := by omega
            have hAd := HAd.out hn0
            subst hAd
            obtain ⟨ad, e6, h32, hcell⟩ := at_id H6.out.1 hki
            cases e6
            have hrow := (H6.out.2.2 hn0).cell hki
            have hst : stL (fun i => (belowM x).getD i []) i k = incL ((belowM x).getD k []) := by unfold stL; rw [if_pos hki]
            rw [hst] at hrow
            have hbk := HBY.out k hki
            obtain ⟨id, hid⟩ : ∃ id, id = (belowM x).getD k [] := ⟨_, rfl⟩
            rw [← hid] at hcell hrow hbk
            have hl32 : (incL id).length = 32 := by unfold incL; rw [List.length_set]; exact hbk.2
            have hqe : ∀ W : World, (Op.equalIn 10000 74 (.agg (nums .u8 id).toArray) (.agg (nums .u8 (incL id)).toArray)).run Tryd.prog W = .ok false W := fun W => by have h := eq_id id (incL id) hbk.2 hl32 W; rw [incL_ne hbk.2 hbk.1] at h; exact h
            have HZ := Aside0.mk (show (∀ W, Below w6.heap.size w6 W → (∀ (j : Nat) (v : Value), (nums .u8 id)[j]? = some v → W.cell? (ad.add (k * 32 + j)) = some v) ∧ ∀ (j : Nat) (v : Value), (nums .u8 (incL id))[j]? = some v → W.cell? ⟨bb, k * 32 + j, none⟩ = some v) ∧ id.length = 32 ∧ (incL id).length = 32 from ⟨fun W hb => ⟨fun j v hj => (hb.cell (World.block_lt_of_cell? w6 _ (hcell j v hj))).trans (hcell j v hj), fun j v hj => (hb.cell (World.block_lt_of_cell? w6 _ (hrow j v hj))).trans (hrow j v hj)⟩, hbk.2, hl32⟩)
            clear hid hcell hrow hbk hst h32 hl32 hn0
            go_upto_region 24 with (fail)
            obtain ⟨wd, hwd⟩ : ∃ z, z = wr.drew := ⟨_, rfl⟩
            have HD := Aside0.mk (show Below w6.heap.size w6 wd from by rw [hwd]; exact below_step hB.out (below_drew1 (Below.refl _ _)))
            refine start_ (n := 9) (S := fun W => Below w6.heap.size w6 W) (ds := []) #[false, false, false, false, false, false, false, false, false] (by kernel_rfl) rfl (by kernel_rfl) (by rw [← hwd]; exact HD.out) (fun hHeld => ?_)
            rw [← hwd] at hHeld ⊢
            clear hwd
            refine pure_ (i := 0) (N := some 78) (v := ?_) (a' := ?_) #[true, false, false, false, false, false, false, false, false] rfl rfl (by kernel_rfl) (fun _ _ _ h => h) (Or.inl ⟨by rfl, ?_⟩) ?_ ?_
            rotate_left
            · intro w'
              go_simp
              with_reducible rfl
            rotate_left
            · simp only [Act.put, List.setIfInBounds_toArray, List.set_cons_zero, List.set_cons_succ, i64_w, i32_w]
              rfl
            refine pure_ (i := 1) (N := some 79) (v := ?_) (a' := ?_) #[true, true, false, false, false, false, false, false, false] rfl rfl (by kernel_rfl) (fun _ _ _ h => h) (Or.inl ⟨by rfl, ?_⟩) ?_ ?_
            rotate_left
            · intro w'
              go_simp
              with_reducible rfl
            rotate_left
            · simp only [Act.put, List.setIfInBounds_toArray, List.set_cons_zero, List.set_cons_succ, i64_w, i32_w]
              rfl
            refine pure_ (i := 2) (N := some 80) (v := ?_) (a' := ?_) #[true, true, true, false, false, false, false, false, false] rfl rfl (by kernel_rfl) (fun _ _ _ h => h) (Or.inl ⟨by rfl, ?_⟩) ?_ ?_
            rotate_left
            · intro w'
              go_simp
              with_reducible rfl
            rotate_left
            · simp only [Act.put, List.setIfInBounds_toArray, List.set_cons_zero, List.set_cons_succ, i64_w, i32_w]
              rfl
            refine pure_ (i := 4) (N := some 82) (v := ?_) (a' := ?_) #[true, true, true, false, true, false, false, false, false] rfl rfl (by kernel_rfl) (fun _ _ _ h => h) (Or.inl ⟨by rfl, ?_⟩) ?_ ?_
            rotate_left
            · intro w'
              go_simp
              with_reducible rfl
            rotate_left
            · simp only [Act.put, List.setIfInBounds_toArray, List.set_cons_zero, List.set_cons_succ, i64_w, i32_w]
              rfl
            refine pure_ (i := 5) (N := some 83) (v := ?_) (a' := ?_) #[true, true, true, false, true, true, false, false, false] rfl rfl (by kernel_rfl) (fun _ _ _ h => h) (Or.inl ⟨by rfl, ?_⟩) ?_ ?_
            rotate_left
            · intro w'
              go_simp
              with_reducible rfl
            rotate_left
            · simp only [Act.put, List.setIfInBounds_toArray, List.set_cons_zero, List.set_cons_succ, i64_w, i32_w]
              rfl
            refine pure_ (i := 6) (N := some 84) (v := ?_) (a' := ?_) #[true, true, true, false, true, true, true, false, false] rfl rfl (by kernel_rfl) (fun _ _ _ h => h) (Or.inl ⟨by rfl, ?_⟩) ?_ ?_
            rotate_left
            · intro w'
              go_simp
              with_reducible rfl
            rotate_left
            · simp only [Act.put, List.setIfInBounds_toArray, List.set_cons_zero, List.set_cons_succ, i64_w, i32_w]
              rfl
            refine take_ (i := 3) (N := some 81) (v := .agg (nums .u8 id).toArray) (a' := ?_) #[true, true, true, true, true, true, true, false, false] rfl rfl (by kernel_rfl) (fun _ _ _ h => h) (Or.inl ⟨by rfl, fun w' s0 => ?ld⟩) hHeld ?_ ?_
            case ld => exact exec_load_any w' 74 (.tmp 80) rfl (ad.add (k * 32)) rfl (nums .u8 id) _ (fun j v hj => by rw [Go.Deep.add_add]; exact (HZ.out.1 w' s0).1 j v hj) Tryd.underlying74 rfl (by rw [nums_length, HZ.out.2.1]; kernel_rfl)
            rotate_left
            · simp only [Act.put, List.setIfInBounds_toArray, List.set_cons_zero, List.set_cons_succ, i64_w, i32_w]
              rfl
            refine take_ (i := 7) (N := some 85) (v := .agg (nums .u8 (incL id)).toArray) (a' := ?_) #[true, true, true, true, true, true, true, true, false] rfl rfl (by kernel_rfl) (fun _ _ _ h => h) (Or.inl ⟨by rfl, fun w' s0 => ?ld⟩) hHeld ?_ ?_
            case ld => exact exec_load_any w' 74 (.tmp 84) rfl ⟨bb, k * 32, none⟩ rfl (nums .u8 (incL id)) _ (fun j v hj => by rw [add_0]; exact (HZ.out.1 w' s0).2 j v hj) Tryd.underlying74 rfl (by rw [nums_length, HZ.out.2.2]; kernel_rfl)
            rotate_left
            · simp only [Act.put, List.setIfInBounds_toArray, List.set_cons_zero, List.set_cons_succ, i64_w, i32_w]
              rfl
            refine pure_ (i := 8) (N := some 86) (v := ?_) (a' := ?_) #[true, true, true, true, true, true, true, true, true] rfl rfl (by kernel_rfl) (fun _ _ _ h => h) (Or.inl ⟨by rfl, ?_⟩) ?_ ?_
            rotate_left
            · intro w'
              go_simp
              with_reducible rfl
            rotate_left
            · simp only [Act.put, List.setIfInBounds_toArray, List.set_cons_zero, List.set_cons_succ, i64_w, i32_w]
              rfl
            refine done_ (by kernel_rfl) ?_
            clear hHeld hqe
            go_wp2
            go_roundg (i - (k + 1))
            case measure => omega
            case rel => exact ⟨k + 1, by go_num, by omega, HD⟩
          · have d3 : decide ((k : Int) < (i : Int)) = false := decide_eq_false (by omega)
            go_wp2
            go_ret
            exact ⟨rfl, below_step H6.out.2.1 hB.out⟩
      have d1 : decide ((i : Int) < (n : Int)) = true := decide_eq_true (by omega)
      have p0 : (0 ≤ (i : Int)) = True := eq_true (by omega)
      have p1 : ((i : Int) < (n : Int)) = True := eq_true (by omega)
      have hn0 : n ≠ 0 := by omega
      have hAd := HAd.out hn0
      subst hAd
      have HR := Aside0.mk (hI.out.2.2 hn0)
      obtain ⟨id, hid⟩ : ∃ id, id = (belowM x).getD i [] := ⟨_, rfl⟩
      obtain ⟨_, _, _, a3, a4, _⟩ := hI.out.1.cells
      rw [← HN.out.1] at a3
      rw [← HN.out.2.1] at a4
      by_cases hi : i < yl
      · have d2 : decide ((i : Int) < (yl : Int)) = true := decide_eq_true (by omega)
        have p2 : ((i : Int) < (yl : Int)) = True := eq_true (by omega)
        have hid2 := below_ids x (i := i) (by have := HN.out.1; omega)
        obtain ⟨ad, e0, h32, hcell⟩ := at_id HCS.out.2.yC (i := i) (by have := HN.out.1; omega)
        cases e0
        rw [← hid2, ← hid] at h32 hcell
        have HZ := Aside0.mk (And.intro hcell h32)
        have HID := Aside0.mk hid
        clear h32 hcell hid2 hid
        go_upto_region 17 with (first
        | ((with_reducible refine gate_dst (N := 35) rfl ?_); refine Kd.event_run rfl (v := .agg zid) (w1 := wr) ?hr ?_; (case hr => exact exec_id0 rfl))
        | ((with_reducible refine gate_dst (N := 7) rfl ?_); refine Kd.event_run rfl (v := .pointer (some ⟨wr.heap.size, 0, none⟩)) (w1 := wr.alloc (.cells zid 74)) ?hr ?_; (case hr => first | kernel_rfl | (go_simp; done) | (go_simp; rfl)); go_loud (refine wpName (fun W5 hW5 => ?_); obtain ⟨g7, hg7⟩ : ∃ g, g = wr.heap.size := ⟨_, rfl⟩; have H5 := Aside0.mk (show W5.heap[g7]? = some (.cells zid 74 (0, 0)) ∧ Below wr.heap.size wr W5 ∧ g7 = wr.heap.size from ⟨by rw [hW5, hg7]; exact blk_new wr _, by rw [hW5]; exact below_alloc (Below.refl _ _) _, hg7⟩); rw [← hg7]; clear hW5 hg7))
        | ((with_reducible refine gate_store (ty := 74) (x := .tmp 7) (y := .tmp 35) rfl ?_); go_loud (refine wpList_store_row rfl 74 (.tmp 7) (.tmp 35) rfl g7 zid rfl rfl 74 zid H5.out.1 zid_fit.1 zid_fit.2.1 zid_fit.2.2 ?_; refine wpName (fun W6 hW6 => ?_); have hb6 : Below wr.heap.size wr W6 := (by rw [hW6]; exact below_setRow H5.out.2.1 (by rw [H5.out.2.2]; exact Nat.le_refl _) _); have H6 := Aside0.mk (show W6.heap[g7]? = some (.cells zid 74 (0, 0)) ∧ OB W6 gb x A (some ad) E bc yc ec ∧ Below w.heap.size w W6 ∧ gb < bb ∧ RowB W6 bb n (stL (fun i => (belowM x).getD i []) i) ∧ bb < g7 from ⟨by rw [hW6]; exact setRow_heap _ _ _ _ _ _ H5.out.1, hI.out.1.below hb6, below_step hI.out.2.1 hb6, HR.out.1, HR.out.2.blk (hb6.block _ HR.out.2.lt), by rw [H5.out.2.2]; exact HR.out.2.lt⟩); obtain ⟨_, _, _, a3, a4, _⟩ := H6.out.2.1.cells; rw [← HN.out.1] at a3; rw [← HN.out.2.1] at a4; clear hW6 hb6))
        | ((with_reducible refine gate_dst (N := 45) rfl ?_); refine Kd.event_run rfl (v := .agg (nums .u8 id).toArray) (w1 := W6) ?hr ?_; (case hr => exact exec_load_any W6 74 (.tmp 44) rfl (ad.add (i * 32)) rfl (nums .u8 id) _ (fun j v hj => by have h := HZ.out.1 j v hj; rw [Go.Deep.add_add]; exact (H6.out.2.2.1.cell (World.block_lt_of_cell? w _ h)).trans h) Tryd.underlying74 rfl (by rw [nums_length, HZ.out.2]; kernel_rfl)))
        | ((with_reducible refine gate_store (ty := 74) (x := .tmp 7) (y := .tmp 45) rfl ?_); go_loud (refine wpList_store_row rfl 74 (.tmp 7) (.tmp 45) rfl g7 (nums .u8 id).toArray rfl rfl 74 zid H6.out.1 (id_fit HZ.out.2).1 (id_fit HZ.out.2).2.1 (id_fit HZ.out.2).2.2 ?_; refine wpName (fun W7 hW7 => ?_); have hk7 : Kept W6 W7 (fun k => k = g7) := (by rw [hW7]; exact ⟨by simp, fun i _ hn => setRow_other _ _ _ _ hn⟩); have H7 := Aside0.mk (show W7.heap[g7]? = some (.cells (nums .u8 id).toArray 74 (0, 0)) ∧ OB W7 gb x A (some ad) E bc yc ec ∧ Below w.heap.size w W7 ∧ gb < bb ∧ RowB W7 bb n (stL (fun i => (belowM x).getD i []) i) ∧ id.length = 32 from ⟨by rw [hW7]; exact setRow_heap _ _ _ _ _ _ H6.out.1, blk_kept H6.out.2.1 hk7 (fun e => by have h1 := H6.out.2.2.2.1; have h2 := H6.out.2.2.2.2.2; omega), by rw [hW7]; exact below_setRow H6.out.2.2.1 (by have h1 := H6.out.2.2.2.2.2; have h2 := HR.out.1; have h3 := HB0.out; omega) _, H6.out.2.2.2.1, H6.out.2.2.2.2.1.blk (hk7.2 _ H6.out.2.2.2.2.1.lt (fun e => by have h2 := H6.out.2.2.2.2.2; omega)), HZ.out.2⟩); clear hW7 hk7)))
        clear H5 H6
        try clear a3 a4
        obtain ⟨wd, hwd⟩ : ∃ z, z = W7.drew := ⟨_, rfl⟩
        have hbd : Below W7.heap.size W7 wd := by rw [hwd]; exact below_drew1 (Below.refl _ _)
        have HD := Aside0.mk (show wd.heap[g7]? = some (.cells (nums .u8 id).toArray 74 (0, 0)) ∧ OB wd gb x A (some ad) E bc yc ec ∧ Below w.heap.size w wd ∧ gb < bb ∧ RowB wd bb n (stL (fun i => (belowM x).getD i []) i) ∧ id.length = 32 from ⟨(hbd.block _ (blk_lt H7.out.1)).trans H7.out.1, H7.out.2.1.below hbd, below_step H7.out.2.2.1 hbd, H7.out.2.2.2.1, H7.out.2.2.2.2.1.blk (hbd.block _ H7.out.2.2.2.2.1.lt), H7.out.2.2.2.2.2⟩)
        have HC := Aside0.mk (show ∀ (j : Nat) (v : Value), (nums .u8 id)[j]? = some v → wd.cell? ⟨bb, i * 32 + j, none⟩ = some v from fun j v hj => HD.out.2.2.2.2.1.cell hin j v (by unfold stL; rw [if_neg (Nat.lt_irrefl i)]; show (nums .u8 ((belowM x).getD i []))[j]? = some v; rw [← HID.out]; exact hj))
        have hqe : ∀ W : World, (Op.equalIn 10000 74 (.agg (nums .u8 id).toArray) (.agg (nums .u8 id).toArray)).run Tryd.prog W = .ok true W := fun W => by have h := eq_id id id HD.out.2.2.2.2.2 HD.out.2.2.2.2.2 W; simpa using h
        clear hbd
        refine start_ (n := 6) (S := fun W => (∀ (j : Nat) (v : Value), (nums .u8 id)[j]? = some v → W.cell? ⟨bb, i * 32 + j, none⟩ = some v) ∧ W.heap[g7]? = some (.cells (nums .u8 id).toArray 74 (0, 0))) (ds := []) #[false, false, false, false, false, false] (by kernel_rfl) rfl (by kernel_rfl) (by rw [← hwd]; exact ⟨HC.out, HD.out.1⟩) (fun hHeld => ?_)
        rw [← hwd] at hHeld ⊢
        clear hwd
        refine pure_ (i := 0) (N := some 56) (v := ?_) (a' := ?_) #[true, false, false, false, false, false] rfl rfl (by kernel_rfl) (fun _ _ _ h => h) (Or.inl ⟨by rfl, ?_⟩) ?_ ?_
        rotate_left
        · intro w'
          go_simp
          with_reducible rfl
        rotate_left
        · simp only [Act.put, List.setIfInBounds_toArray, List.set_cons_zero, List.set_cons_succ, i64_w, i32_w]
          rfl
        refine pure_ (i := 1) (N := some 57) (v := ?_) (a' := ?_) #[true, true, false, false, false, false] rfl rfl (by kernel_rfl) (fun _ _ _ h => h) (Or.inl ⟨by rfl, ?_⟩) ?_ ?_
        rotate_left
        · intro w'
          go_simp
          with_reducible rfl
        rotate_left
        · simp only [Act.put, List.setIfInBounds_toArray, List.set_cons_zero, List.set_cons_succ, i64_w, i32_w]
          rfl
        refine pure_ (i := 2) (N := some 58) (v := ?_) (a' := ?_) #[true, true, true, false, false, false] rfl rfl (by kernel_rfl) (fun _ _ _ h => h) (Or.inl ⟨by rfl, ?_⟩) ?_ ?_
        rotate_left
        · intro w'
          go_simp
          with_reducible rfl
        rotate_left
        · simp only [Act.put, List.setIfInBounds_toArray, List.set_cons_zero, List.set_cons_succ, i64_w, i32_w]
          rfl
        refine take_ (i := 3) (N := some 59) (v := .agg (nums .u8 id).toArray) (a' := ?_) #[true, true, true, true, false, false] rfl rfl (by kernel_rfl) (fun _ _ _ h => h) (Or.inl ⟨by rfl, fun w' s0 => ?ld⟩) hHeld ?_ ?_
        case ld => exact exec_load_any w' 74 (.tmp 58) rfl ⟨bb, i * 32, none⟩ rfl (nums .u8 id) _ (fun j v hj => by rw [add_0]; exact s0.1 j v hj) Tryd.underlying74 rfl (by rw [nums_length, HD.out.2.2.2.2.2]; kernel_rfl)
        rotate_left
        · simp only [Act.put, List.setIfInBounds_toArray, List.set_cons_zero, List.set_cons_succ, i64_w, i32_w]
          rfl
        refine take_ (i := 4) (N := some 60) (v := .agg (nums .u8 id).toArray) (a' := ?_) #[true, true, true, true, true, false] rfl rfl (by kernel_rfl) (fun _ _ _ h => h) (Or.inl ⟨by rfl, fun w' s0 => ?ld⟩) hHeld ?_ ?_
        case ld => exact exec_load_row w' 74 (.tmp 7) rfl g7 rfl 74 _ (0, 0) _ s0.2 Tryd.underlying74 rfl (id_fit HD.out.2.2.2.2.2).1
        rotate_left
        · simp only [Act.put, List.setIfInBounds_toArray, List.set_cons_zero, List.set_cons_succ, i64_w, i32_w]
          rfl
        refine pure_ (i := 5) (N := some 61) (v := ?_) (a' := ?_) #[true, true, true, true, true, true] rfl rfl (by kernel_rfl) (fun _ _ _ h => h) (Or.inl ⟨by rfl, ?_⟩) ?_ ?_
        rotate_left
        · intro w'
          go_simp
          with_reducible rfl
        rotate_left
        · simp only [Act.put, List.setIfInBounds_toArray, List.set_cons_zero, List.set_cons_succ, i64_w, i32_w]
          rfl
        refine done_ (by kernel_rfl) ?_
        clear hHeld
        go_upto_region 19 with (fail)
        obtain ⟨we, hwe⟩ : ∃ z, z = wd.drew := ⟨_, rfl⟩
        have hbe : Below wd.heap.size wd we := by rw [hwe]; exact below_drew1 (Below.refl _ _)
        have HE := Aside0.mk (show OB we gb x A (some ad) E bc yc ec ∧ Below w.heap.size w we ∧ RowB we bb n (stL (fun i => (belowM x).getD i []) i) from ⟨HD.out.2.1.below hbe, below_step HD.out.2.2.1 hbe, HD.out.2.2.2.2.1.blk (hbe.block _ HD.out.2.2.2.2.1.lt)⟩)
        have hc0 : we.cell? ⟨bb, i * 32, none⟩ = some (.int .u8 (id.getD 0 0)) := (hbe.cell (World.block_lt_of_cell? wd _ (HC.out 0 _ (by unfold nums; rw [List.getElem?_map, List.getElem?_eq_getElem (by have := HD.out.2.2.2.2.2; omega)]; rfl)))).trans (by rw [HC.out 0 (.int .u8 (id[0]'(by have := HD.out.2.2.2.2.2; omega))) (by unfold nums; rw [List.getElem?_map, List.getElem?_eq_getElem (by have := HD.out.2.2.2.2.2; omega)]; rfl), List.getD_eq_getElem?_getD, List.getElem?_eq_getElem (by have := HD.out.2.2.2.2.2; omega)]; rfl)
        clear hbe hqe
        refine start_ (n := 9) (S := fun W => W.cell? ⟨bb, i * 32, none⟩ = some (.int .u8 (id.getD 0 0))) (ds := [8]) #[false, false, false, false, false, false, false, false, false] (by kernel_rfl) rfl (by kernel_rfl) (by rw [← hwe]; exact hc0) (fun hHeld => ?_)
        rw [← hwe] at hHeld ⊢
        clear hwe
        refine pure_ (i := 0) (N := some 62) (v := ?_) (a' := ?_) #[true, false, false, false, false, false, false, false, false] rfl rfl (by kernel_rfl) (fun _ _ _ h => h) (Or.inl ⟨by rfl, ?_⟩) ?_ ?_
        rotate_left
        · intro w'
          go_simp
          with_reducible rfl
        rotate_left
        · simp only [Act.put, List.setIfInBounds_toArray, List.set_cons_zero, List.set_cons_succ, i64_w, i32_w]
          rfl
        refine pure_ (i := 1) (N := some 63) (v := ?_) (a' := ?_) #[true, true, false, false, false, false, false, false, false] rfl rfl (by kernel_rfl) (fun _ _ _ h => h) (Or.inl ⟨by rfl, ?_⟩) ?_ ?_
        rotate_left
        · intro w'
          go_simp
          with_reducible rfl
        rotate_left
        · simp only [Act.put, List.setIfInBounds_toArray, List.set_cons_zero, List.set_cons_succ, i64_w, i32_w]
          rfl
        refine pure_ (i := 2) (N := some 64) (v := ?_) (a' := ?_) #[true, true, true, false, false, false, false, false, false] rfl rfl (by kernel_rfl) (fun _ _ _ h => h) (Or.inl ⟨by rfl, ?_⟩) ?_ ?_
        rotate_left
        · intro w'
          go_simp
          with_reducible rfl
        rotate_left
        · simp only [Act.put, List.setIfInBounds_toArray, List.set_cons_zero, List.set_cons_succ, i64_w, i32_w]
          rfl
        refine pure_ (i := 3) (N := some 65) (v := ?_) (a' := ?_) #[true, true, true, true, false, false, false, false, false] rfl rfl (by kernel_rfl) (fun _ _ _ h => h) (Or.inl ⟨by rfl, ?_⟩) ?_ ?_
        rotate_left
        · intro w'
          go_simp
          with_reducible rfl
        rotate_left
        · simp only [Act.put, List.setIfInBounds_toArray, List.set_cons_zero, List.set_cons_succ, i64_w, i32_w]
          rfl
        refine take_ (i := 4) (N := some 66) (v := ?_) (a' := ?_) #[true, true, true, true, true, false, false, false, false] rfl rfl (by kernel_rfl) (fun _ _ _ h => h) (Or.inl ⟨by rfl, ?_⟩) hHeld ?_ ?_
        rotate_left
        · rintro w' s0
          go_simp
          with_reducible rfl
        rotate_left
        · simp only [Act.put, List.setIfInBounds_toArray, List.set_cons_zero, List.set_cons_succ, i64_w, i32_w]
          rfl
        refine pure_ (i := 5) (N := some 67) (v := ?_) (a' := ?_) #[true, true, true, true, true, true, false, false, false] rfl rfl (by kernel_rfl) (fun _ _ _ h => h) (Or.inl ⟨by rfl, ?_⟩) ?_ ?_
        rotate_left
        · intro w'
          go_simp
          with_reducible rfl
        rotate_left
        · simp only [Act.put, List.setIfInBounds_toArray, List.set_cons_zero, List.set_cons_succ, i64_w, i32_w]
          rfl
        refine pure_ (i := 6) (N := some 68) (v := ?_) (a' := ?_) #[true, true, true, true, true, true, true, false, false] rfl rfl (by kernel_rfl) (fun _ _ _ h => h) (Or.inl ⟨by rfl, ?_⟩) ?_ ?_
        rotate_left
        · intro w'
          go_simp
          with_reducible rfl
        rotate_left
        · simp only [Act.put, List.setIfInBounds_toArray, List.set_cons_zero, List.set_cons_succ, i64_w, i32_w]
          rfl
        refine pure_ (i := 7) (N := some 69) (v := ?_) (a' := ?_) #[true, true, true, true, true, true, true, true, false] rfl rfl (by kernel_rfl) (fun _ _ _ h => h) (Or.inl ⟨by rfl, ?_⟩) ?_ ?_
        rotate_left
        · intro w'
          go_simp
          with_reducible rfl
        rotate_left
        · simp only [Act.put, List.setIfInBounds_toArray, List.set_cons_zero, List.set_cons_succ, i64_w, i32_w]
          rfl
        refine last_ (i := 8) (N := none) #[true, true, true, true, true, true, true, true, true] rfl rfl (by kernel_rfl) (by decide) (fun K hK => ?_)
        refine skip_ (w1 := we.setCell ⟨bb, i * 32, none⟩ (.int .u8 (IntKind.u8.wrap (id.getD 0 0 + 1)))) (by rfl) rfl ?hr ?_
        case hr =>
          obtain ⟨cur, q1, q2, q3⟩ := HE.out.2.2
          exact exec_store1 we 5 (.tmp 69) (.tmp 67) rfl bb (i * 32) _ rfl rfl rfl 74 cur q1 (by kernel_rfl) (by omega) rfl
        have HA := Aside0.mk (show OB (we.setCell ⟨bb, i * 32, none⟩ (.int .u8 (IntKind.u8.wrap (id.getD 0 0 + 1)))) gb x A (some ad) E bc yc ec ∧ Below w.heap.size w (we.setCell ⟨bb, i * 32, none⟩ (.int .u8 (IntKind.u8.wrap (id.getD 0 0 + 1)))) ∧ RowB (we.setCell ⟨bb, i * 32, none⟩ (.int .u8 (IntKind.u8.wrap (id.getD 0 0 + 1)))) bb n (stL (fun i => (belowM x).getD i []) (i + 1)) from ⟨blk_kept HE.out.1 ((Kept.refl we (fun k => k = bb)).setCell (p := ⟨bb, i * 32, none⟩) (.inl rfl) _) (fun e => by have h1 := HD.out.2.2.2.1; omega), below_set HE.out.2.1 (by have h1 := HD.out.2.2.2.1; have h2 := HB0.out; show w.heap.size ≤ bb; omega), by
          rw [← stL_succ]
          have h := HE.out.2.2.set hin (IntKind.u8.wrap (id.getD 0 0 + 1))
          rw [HID.out] at h ⊢
          exact h⟩)
        clear hHeld hc0
        refine hK.out _ _ ?_
        clear hK K
        refine done_ (by kernel_rfl) ?_
        go_wp2
        go_roundg (n - (i + 1))
        case measure => omega
        case rel => exact ⟨i + 1, by go_num, by omega, ⟨HA.out.1, HA.out.2.1, fun _ => ⟨HD.out.2.2.2.1, HA.out.2.2⟩⟩⟩
      · have d2 : decide ((i : Int) < (yl : Int)) = false := decide_eq_false (by omega)
        have hsub : wrap64 ((i : Int) - (yl : Int)) = ((i - yl : Nat) : Int) := (IntWalk.wrap64_in _ ⟨by omega, by omega⟩).trans (by omega)
        have hnn2 := HN.out.2.2.1
        have p2 : (i - yl < el) = True := eq_true (by omega)
        have p3 : (((i - yl : Nat) : Int) < (el : Int)) = True := eq_true (by omega)
        clear hnn2
        have hid2 := below_es x (i := i) (by have := HN.out.1; omega) (by have := HN.out.1; have := HN.out.2.1; omega)
        rw [show i - x.ids.length = i - yl by have := HN.out.1; omega] at hid2
        obtain ⟨ad, e0, h32, hcell, _⟩ := at_e HCS.out.2.eC (i := i - yl) (by have := HN.out.2.1; have := HN.out.2.2.1; omega)
        cases e0
        rw [← hid2, ← hid] at h32
        have hcell2 : ∀ (j : Nat) (v : Value), (nums .u8 id)[j]? = some v → w.cell? (ad.add ((i - yl) * 34 + 2 + j)) = some v := fun j v hj => by
          rw [hid, hid2] at hj
          have h := hcell (j + 2) v (by unfold ecells; exact hj)
          rw [show (i - yl) * 34 + 2 + j = (i - yl) * 34 + (j + 2) by omega]
          exact h
        have HZ := Aside0.mk (And.intro hcell2 h32)
        have HID := Aside0.mk hid
        clear h32 hcell hcell2 hid2 hid
        go_upto_region 17 with (first
        | ((with_reducible refine gate_dst (N := 35) rfl ?_); refine Kd.event_run rfl (v := .agg zid) (w1 := wr) ?hr ?_; (case hr => exact exec_id0 rfl))
        | ((with_reducible refine gate_dst (N := 7) rfl ?_); refine Kd.event_run rfl (v := .pointer (some ⟨wr.heap.size, 0, none⟩)) (w1 := wr.alloc (.cells zid 74)) ?hr ?_; (case hr => first | kernel_rfl | (go_simp; done) | (go_simp; rfl)); go_loud (refine wpName (fun W5 hW5 => ?_); obtain ⟨g7, hg7⟩ : ∃ g, g = wr.heap.size := ⟨_, rfl⟩; have H5 := Aside0.mk (show W5.heap[g7]? = some (.cells zid 74 (0, 0)) ∧ Below wr.heap.size wr W5 ∧ g7 = wr.heap.size from ⟨by rw [hW5, hg7]; exact blk_new wr _, by rw [hW5]; exact below_alloc (Below.refl _ _) _, hg7⟩); rw [← hg7]; clear hW5 hg7))
        | ((with_reducible refine gate_store (ty := 74) (x := .tmp 7) (y := .tmp 35) rfl ?_); go_loud (refine wpList_store_row rfl 74 (.tmp 7) (.tmp 35) rfl g7 zid rfl rfl 74 zid H5.out.1 zid_fit.1 zid_fit.2.1 zid_fit.2.2 ?_; refine wpName (fun W6 hW6 => ?_); have hb6 : Below wr.heap.size wr W6 := (by rw [hW6]; exact below_setRow H5.out.2.1 (by rw [H5.out.2.2]; exact Nat.le_refl _) _); have H6 := Aside0.mk (show W6.heap[g7]? = some (.cells zid 74 (0, 0)) ∧ OB W6 gb x A Y (some ad) bc yc ec ∧ Below w.heap.size w W6 ∧ gb < bb ∧ RowB W6 bb n (stL (fun i => (belowM x).getD i []) i) ∧ bb < g7 from ⟨by rw [hW6]; exact setRow_heap _ _ _ _ _ _ H5.out.1, hI.out.1.below hb6, below_step hI.out.2.1 hb6, HR.out.1, HR.out.2.blk (hb6.block _ HR.out.2.lt), by rw [H5.out.2.2]; exact HR.out.2.lt⟩); obtain ⟨_, _, _, a3, a4, _⟩ := H6.out.2.1.cells; rw [← HN.out.1] at a3; rw [← HN.out.2.1] at a4; clear hW6 hb6))
        | ((with_reducible refine gate_dst (N := 55) rfl ?_); refine Kd.event_run rfl (v := .agg (nums .u8 id).toArray) (w1 := W6) ?hr ?_; (case hr => exact exec_load_any W6 74 (.tmp 54) rfl ⟨(ad.add ((i - yl) * 34)).block, (ad.add ((i - yl) * 34)).off + 2, none⟩ rfl (nums .u8 id) _ (fun j v hj => by have h := HZ.out.1 j v hj; rw [← add_field _ _ 2 (by omega), Go.Deep.add_add]; exact (H6.out.2.2.1.cell (World.block_lt_of_cell? w _ h)).trans h) Tryd.underlying74 rfl (by rw [nums_length, HZ.out.2]; kernel_rfl)))
        | ((with_reducible refine gate_store (ty := 74) (x := .tmp 7) (y := .tmp 55) rfl ?_); go_loud (refine wpList_store_row rfl 74 (.tmp 7) (.tmp 55) rfl g7 (nums .u8 id).toArray rfl rfl 74 zid H6.out.1 (id_fit HZ.out.2).1 (id_fit HZ.out.2).2.1 (id_fit HZ.out.2).2.2 ?_; refine wpName (fun W7 hW7 => ?_); have hk7 : Kept W6 W7 (fun k => k = g7) := (by rw [hW7]; exact ⟨by simp, fun i _ hn => setRow_other _ _ _ _ hn⟩); have H7 := Aside0.mk (show W7.heap[g7]? = some (.cells (nums .u8 id).toArray 74 (0, 0)) ∧ OB W7 gb x A Y (some ad) bc yc ec ∧ Below w.heap.size w W7 ∧ gb < bb ∧ RowB W7 bb n (stL (fun i => (belowM x).getD i []) i) ∧ id.length = 32 from ⟨by rw [hW7]; exact setRow_heap _ _ _ _ _ _ H6.out.1, blk_kept H6.out.2.1 hk7 (fun e => by have h1 := H6.out.2.2.2.1; have h2 := H6.out.2.2.2.2.2; omega), by rw [hW7]; exact below_setRow H6.out.2.2.1 (by have h1 := H6.out.2.2.2.2.2; have h2 := HR.out.1; have h3 := HB0.out; omega) _, H6.out.2.2.2.1, H6.out.2.2.2.2.1.blk (hk7.2 _ H6.out.2.2.2.2.1.lt (fun e => by have h2 := H6.out.2.2.2.2.2; omega)), HZ.out.2⟩); clear hW7 hk7)))
        clear H5 H6
        try clear a3 a4
        obtain ⟨wd, hwd⟩ : ∃ z, z = W7.drew := ⟨_, rfl⟩
        have hbd : Below W7.heap.size W7 wd := by rw [hwd]; exact below_drew1 (Below.refl _ _)
        have HD := Aside0.mk (show wd.heap[g7]? = some (.cells (nums .u8 id).toArray 74 (0, 0)) ∧ OB wd gb x A Y (some ad) bc yc ec ∧ Below w.heap.size w wd ∧ gb < bb ∧ RowB wd bb n (stL (fun i => (belowM x).getD i []) i) ∧ id.length = 32 from ⟨(hbd.block _ (blk_lt H7.out.1)).trans H7.out.1, H7.out.2.1.below hbd, below_step H7.out.2.2.1 hbd, H7.out.2.2.2.1, H7.out.2.2.2.2.1.blk (hbd.block _ H7.out.2.2.2.2.1.lt), H7.out.2.2.2.2.2⟩)
        have HC := Aside0.mk (show ∀ (j : Nat) (v : Value), (nums .u8 id)[j]? = some v → wd.cell? ⟨bb, i * 32 + j, none⟩ = some v from fun j v hj => HD.out.2.2.2.2.1.cell hin j v (by unfold stL; rw [if_neg (Nat.lt_irrefl i)]; show (nums .u8 ((belowM x).getD i []))[j]? = some v; rw [← HID.out]; exact hj))
        have hqe : ∀ W : World, (Op.equalIn 10000 74 (.agg (nums .u8 id).toArray) (.agg (nums .u8 id).toArray)).run Tryd.prog W = .ok true W := fun W => by have h := eq_id id id HD.out.2.2.2.2.2 HD.out.2.2.2.2.2 W; simpa using h
        clear hbd
        refine start_ (n := 6) (S := fun W => (∀ (j : Nat) (v : Value), (nums .u8 id)[j]? = some v → W.cell? ⟨bb, i * 32 + j, none⟩ = some v) ∧ W.heap[g7]? = some (.cells (nums .u8 id).toArray 74 (0, 0))) (ds := []) #[false, false, false, false, false, false] (by kernel_rfl) rfl (by kernel_rfl) (by rw [← hwd]; exact ⟨HC.out, HD.out.1⟩) (fun hHeld => ?_)
        rw [← hwd] at hHeld ⊢
        clear hwd
        refine pure_ (i := 0) (N := some 56) (v := ?_) (a' := ?_) #[true, false, false, false, false, false] rfl rfl (by kernel_rfl) (fun _ _ _ h => h) (Or.inl ⟨by rfl, ?_⟩) ?_ ?_
        rotate_left
        · intro w'
          go_simp
          with_reducible rfl
        rotate_left
        · simp only [Act.put, List.setIfInBounds_toArray, List.set_cons_zero, List.set_cons_succ, i64_w, i32_w]
          rfl
        refine pure_ (i := 1) (N := some 57) (v := ?_) (a' := ?_) #[true, true, false, false, false, false] rfl rfl (by kernel_rfl) (fun _ _ _ h => h) (Or.inl ⟨by rfl, ?_⟩) ?_ ?_
        rotate_left
        · intro w'
          go_simp
          with_reducible rfl
        rotate_left
        · simp only [Act.put, List.setIfInBounds_toArray, List.set_cons_zero, List.set_cons_succ, i64_w, i32_w]
          rfl
        refine pure_ (i := 2) (N := some 58) (v := ?_) (a' := ?_) #[true, true, true, false, false, false] rfl rfl (by kernel_rfl) (fun _ _ _ h => h) (Or.inl ⟨by rfl, ?_⟩) ?_ ?_
        rotate_left
        · intro w'
          go_simp
          with_reducible rfl
        rotate_left
        · simp only [Act.put, List.setIfInBounds_toArray, List.set_cons_zero, List.set_cons_succ, i64_w, i32_w]
          rfl
        refine take_ (i := 3) (N := some 59) (v := .agg (nums .u8 id).toArray) (a' := ?_) #[true, true, true, true, false, false] rfl rfl (by kernel_rfl) (fun _ _ _ h => h) (Or.inl ⟨by rfl, fun w' s0 => ?ld⟩) hHeld ?_ ?_
        case ld => exact exec_load_any w' 74 (.tmp 58) rfl ⟨bb, i * 32, none⟩ rfl (nums .u8 id) _ (fun j v hj => by rw [add_0]; exact s0.1 j v hj) Tryd.underlying74 rfl (by rw [nums_length, HD.out.2.2.2.2.2]; kernel_rfl)
        rotate_left
        · simp only [Act.put, List.setIfInBounds_toArray, List.set_cons_zero, List.set_cons_succ, i64_w, i32_w]
          rfl
        refine take_ (i := 4) (N := some 60) (v := .agg (nums .u8 id).toArray) (a' := ?_) #[true, true, true, true, true, false] rfl rfl (by kernel_rfl) (fun _ _ _ h => h) (Or.inl ⟨by rfl, fun w' s0 => ?ld⟩) hHeld ?_ ?_
        case ld => exact exec_load_row w' 74 (.tmp 7) rfl g7 rfl 74 _ (0, 0) _ s0.2 Tryd.underlying74 rfl (id_fit HD.out.2.2.2.2.2).1
        rotate_left
        · simp only [Act.put, List.setIfInBounds_toArray, List.set_cons_zero, List.set_cons_succ, i64_w, i32_w]
          rfl
        refine pure_ (i := 5) (N := some 61) (v := ?_) (a' := ?_) #[true, true, true, true, true, true] rfl rfl (by kernel_rfl) (fun _ _ _ h => h) (Or.inl ⟨by rfl, ?_⟩) ?_ ?_
        rotate_left
        · intro w'
          go_simp
          with_reducible rfl
        rotate_left
        · simp only [Act.put, List.setIfInBounds_toArray, List.set_cons_zero, List.set_cons_succ, i64_w, i32_w]
          rfl
        refine done_ (by kernel_rfl) ?_
        clear hHeld
        go_upto_region 19 with (fail)
        obtain ⟨we, hwe⟩ : ∃ z, z = wd.drew := ⟨_, rfl⟩
        have hbe : Below wd.heap.size wd we := by rw [hwe]; exact below_drew1 (Below.refl _ _)
        have HE := Aside0.mk (show OB we gb x A Y (some ad) bc yc ec ∧ Below w.heap.size w we ∧ RowB we bb n (stL (fun i => (belowM x).getD i []) i) from ⟨HD.out.2.1.below hbe, below_step HD.out.2.2.1 hbe, HD.out.2.2.2.2.1.blk (hbe.block _ HD.out.2.2.2.2.1.lt)⟩)
        have hc0 : we.cell? ⟨bb, i * 32, none⟩ = some (.int .u8 (id.getD 0 0)) := (hbe.cell (World.block_lt_of_cell? wd _ (HC.out 0 _ (by unfold nums; rw [List.getElem?_map, List.getElem?_eq_getElem (by have := HD.out.2.2.2.2.2; omega)]; rfl)))).trans (by rw [HC.out 0 (.int .u8 (id[0]'(by have := HD.out.2.2.2.2.2; omega))) (by unfold nums; rw [List.getElem?_map, List.getElem?_eq_getElem (by have := HD.out.2.2.2.2.2; omega)]; rfl), List.getD_eq_getElem?_getD, List.getElem?_eq_getElem (by have := HD.out.2.2.2.2.2; omega)]; rfl)
        clear hbe hqe
        refine start_ (n := 9) (S := fun W => W.cell? ⟨bb, i * 32, none⟩ = some (.int .u8 (id.getD 0 0))) (ds := [8]) #[false, false, false, false, false, false, false, false, false] (by kernel_rfl) rfl (by kernel_rfl) (by rw [← hwe]; exact hc0) (fun hHeld => ?_)
        rw [← hwe] at hHeld ⊢
        clear hwe
        refine pure_ (i := 0) (N := some 62) (v := ?_) (a' := ?_) #[true, false, false, false, false, false, false, false, false] rfl rfl (by kernel_rfl) (fun _ _ _ h => h) (Or.inl ⟨by rfl, ?_⟩) ?_ ?_
        rotate_left
        · intro w'
          go_simp
          with_reducible rfl
        rotate_left
        · simp only [Act.put, List.setIfInBounds_toArray, List.set_cons_zero, List.set_cons_succ, i64_w, i32_w]
          rfl
        refine pure_ (i := 1) (N := some 63) (v := ?_) (a' := ?_) #[true, true, false, false, false, false, false, false, false] rfl rfl (by kernel_rfl) (fun _ _ _ h => h) (Or.inl ⟨by rfl, ?_⟩) ?_ ?_
        rotate_left
        · intro w'
          go_simp
          with_reducible rfl
        rotate_left
        · simp only [Act.put, List.setIfInBounds_toArray, List.set_cons_zero, List.set_cons_succ, i64_w, i32_w]
          rfl
        refine pure_ (i := 2) (N := some 64) (v := ?_) (a' := ?_) #[true, true, true, false, false, false, false, false, false] rfl rfl (by kernel_rfl) (fun _ _ _ h => h) (Or.inl ⟨by rfl, ?_⟩) ?_ ?_
        rotate_left
        · intro w'
          go_simp
          with_reducible rfl
        rotate_left
        · simp only [Act.put, List.setIfInBounds_toArray, List.set_cons_zero, List.set_cons_succ, i64_w, i32_w]
          rfl
        refine pure_ (i := 3) (N := some 65) (v := ?_) (a' := ?_) #[true, true, true, true, false, false, false, false, false] rfl rfl (by kernel_rfl) (fun _ _ _ h => h) (Or.inl ⟨by rfl, ?_⟩) ?_ ?_
        rotate_left
        · intro w'
          go_simp
          with_reducible rfl
        rotate_left
        · simp only [Act.put, List.setIfInBounds_toArray, List.set_cons_zero, List.set_cons_succ, i64_w, i32_w]
          rfl
        refine take_ (i := 4) (N := some 66) (v := ?_) (a' := ?_) #[true, true, true, true, true, false, false, false, false] rfl rfl (by kernel_rfl) (fun _ _ _ h => h) (Or.inl ⟨by rfl, ?_⟩) hHeld ?_ ?_
        rotate_left
        · rintro w' s0
          go_simp
          with_reducible rfl
        rotate_left
        · simp only [Act.put, List.setIfInBounds_toArray, List.set_cons_zero, List.set_cons_succ, i64_w, i32_w]
          rfl
        refine pure_ (i := 5) (N := some 67) (v := ?_) (a' := ?_) #[true, true, true, true, true, true, false, false, false] rfl rfl (by kernel_rfl) (fun _ _ _ h => h) (Or.inl ⟨by rfl, ?_⟩) ?_ ?_
        rotate_left
        · intro w'
          go_simp
          with_reducible rfl
        rotate_left
        · simp only [Act.put, List.setIfInBounds_toArray, List.set_cons_zero, List.set_cons_succ, i64_w, i32_w]
          rfl
        refine pure_ (i := 6) (N := some 68) (v := ?_) (a' := ?_) #[true, true, true, true, true, true, true, false, false] rfl rfl (by kernel_rfl) (fun _ _ _ h => h) (Or.inl ⟨by rfl, ?_⟩) ?_ ?_
        rotate_left
        · intro w'
          go_simp
          with_reducible rfl
        rotate_left
        · simp only [Act.put, List.setIfInBounds_toArray, List.set_cons_zero, List.set_cons_succ, i64_w, i32_w]
          rfl
        refine pure_ (i := 7) (N := some 69) (v := ?_) (a' := ?_) #[true, true, true, true, true, true, true, true, false] rfl rfl (by kernel_rfl) (fun _ _ _ h => h) (Or.inl ⟨by rfl, ?_⟩) ?_ ?_
        rotate_left
        · intro w'
          go_simp
          with_reducible rfl
        rotate_left
        · simp only [Act.put, List.setIfInBounds_toArray, List.set_cons_zero, List.set_cons_succ, i64_w, i32_w]
          rfl
        refine last_ (i := 8) (N := none) #[true, true, true, true, true, true, true, true, true] rfl rfl (by kernel_rfl) (by decide) (fun K hK => ?_)
        refine skip_ (w1 := we.setCell ⟨bb, i * 32, none⟩ (.int .u8 (IntKind.u8.wrap (id.getD 0 0 + 1)))) (by rfl) rfl ?hr ?_
        case hr =>
          obtain ⟨cur, q1, q2, q3⟩ := HE.out.2.2
          exact exec_store1 we 5 (.tmp 69) (.tmp 67) rfl bb (i * 32) _ rfl rfl rfl 74 cur q1 (by kernel_rfl) (by omega) rfl
        have HA := Aside0.mk (show OB (we.setCell ⟨bb, i * 32, none⟩ (.int .u8 (IntKind.u8.wrap (id.getD 0 0 + 1)))) gb x A Y (some ad) bc yc ec ∧ Below w.heap.size w (we.setCell ⟨bb, i * 32, none⟩ (.int .u8 (IntKind.u8.wrap (id.getD 0 0 + 1)))) ∧ RowB (we.setCell ⟨bb, i * 32, none⟩ (.int .u8 (IntKind.u8.wrap (id.getD 0 0 + 1)))) bb n (stL (fun i => (belowM x).getD i []) (i + 1)) from ⟨blk_kept HE.out.1 ((Kept.refl we (fun k => k = bb)).setCell (p := ⟨bb, i * 32, none⟩) (.inl rfl) _) (fun e => by have h1 := HD.out.2.2.2.1; omega), below_set HE.out.2.1 (by have h1 := HD.out.2.2.2.1; have h2 := HB0.out; show w.heap.size ≤ bb; omega), by
          rw [← stL_succ]
          have h := HE.out.2.2.set hin (IntKind.u8.wrap (id.getD 0 0 + 1))
          rw [HID.out] at h ⊢
          exact h⟩)
        clear hHeld hc0
        refine hK.out _ _ ?_
        clear hK K
        refine done_ (by kernel_rfl) ?_
        go_wp2
        go_roundg (n - (i + 1))
        case measure => omega
        case rel => exact ⟨i + 1, by go_num, by omega, ⟨HA.out.1, HA.out.2.1, fun _ => ⟨HD.out.2.2.2.1, HA.out.2.2⟩⟩⟩

end
end Go.Proofs.YtgjdcdhfijkoiaaDoor.Obj
end
section
namespace Go.Proofs.YtgjdcdhfijkoiaaDoor.Obj
open Go.RowKit Go.Proofs.YtgjdcdhfijkoiaaDoorW.PrintWords Go.Proofs.YtgjdcdhfijkoiaaDoorW.PrintLast Go.Proofs.YtgjdcdhfijkoiaaDoorW.PrintMore Go.Proofs.YtgjdcdhfijkoiaaDoor.Mem Go.Proofs.YtgjdcdhfijkoiaaDoor.Cod Go.Proofs.YtgjdcdhfijkoiaaDoor.PCod Go.Proofs.YtgjdcdhfijkoiaaDoor.Str Go.Proofs.YtgjdcdhfijkoiaaDoor.Open Go.Proofs.YtgjdcdhfijkoiaaDoor.Conv
set_option linter.unusedVariables false
set_option linter.unusedSimpArgs false
theorem exec_mk {P : Program} {o : Oper} {ev : Operand → Value} {W W1 : World} {t : TypeId} {u v : Value} (x : Operand) (ho : o.op = .makeSlice t x x) (hx : ev x = u) (h : (Instr.makeSlice t u u).run P W = .ok v W1) : (execOp ev o).run P W = .ok (.value v) W1 := by
  unfold execOp
  simp [ho, hx, h]
theorem made_zero {z : Array Value} {c : Nat} (hz : ∀ j, j < z.size → z[j]? = some (.int .u8 0)) (hs : 0 < z.size) : madeCells z c = (nums .u8 (List.replicate c 0)).toArray := by
  apply Array.ext_getElem?
  intro j
  unfold madeCells nums
  by_cases hj : j < c
  · have hm : j % z.size < z.size := Nat.mod_lt _ hs
    have hzz := hz _ hm
    rw [Array.getElem?_eq_getElem hm] at hzz
    have h2 : z[j % z.size]! = .int .u8 0 := by rw [getElem!_pos z _ hm]; exact Option.some.inj hzz
    simp [hj, h2]
  · rw [Array.getElem?_eq_none (by simp; omega), Array.getElem?_eq_none (by simp; omega)]
theorem mk_bytes (W : World) {n : Nat} (hn : n ≤ 100000) : (Instr.makeSlice 27 (.int .i64 n) (.int .i64 n)).run Tryd.prog W = .ok (.slice (some ⟨W.heap.size, 0, none⟩) n n) (W.alloc (.cells (nums .u8 (List.replicate n 0)).toArray 5)) := by
  have hi0 : (Tryd.prog.info? 5).map (fun i => (i.zero, i.size, i.bytes)) = some (some (.int .u8 0), 1, 1) := by kernel_rfl
  obtain ⟨i0, hi, hzz⟩ := Option.map_eq_some_iff.1 hi0
  simp only [Prod.mk.injEq] at hzz
  obtain ⟨hz0, hz1, hz2⟩ := hzz
  have hr := run_make (P := Tryd.prog) W 27 5 i0 (.int .u8 0) Tryd.underlying27 hi hz0 .i64 .i64 (n : Int) (n : Int) (by omega) (by omega) (by rw [hz2]; omega) (by omega)
  simp only [Int.toNat_natCast] at hr
  rw [hz1, Nat.mul_one, made_zero (z := (Value.int .u8 0).cells) (fun j hj => by have h1 : (Value.int .u8 0).cells.size = 1 := rfl; have h0 : j = 0 := (by omega); rw [h0]; rfl) (by decide)] at hr
  exact hr
theorem mk_ids (W : World) {m : Nat} (hm : m ≤ 255) : (Instr.makeSlice 54 (.int .i64 m) (.int .i64 m)).run Tryd.prog W = .ok (.slice (some ⟨W.heap.size, 0, none⟩) m m) (W.alloc (.cells (nums .u8 (List.replicate (m * 32) 0)).toArray 74)) := by
  obtain ⟨i0, hi, hzz⟩ := Option.map_eq_some_iff.1 info_kid
  simp only [Prod.mk.injEq] at hzz
  obtain ⟨hz0, hz1, hz2⟩ := hzz
  have hr := run_make (P := Tryd.prog) W 54 74 i0 (.agg zid) Tryd.underlying54 hi hz0 .i64 .i64 (m : Int) (m : Int) (by omega) (by omega) (by rw [hz2]; omega) (by omega)
  simp only [Int.toNat_natCast] at hr
  rw [hz1, made_zero (z := (Value.agg zid).cells) (fun j hj => by
    have h1 : (Value.agg zid).cells = zid := rfl
    rw [h1] at hj ⊢
    have hs : zid.size = 32 := rfl
    unfold zid
    rw [List.getElem?_toArray]
    unfold nums
    rw [List.getElem?_map, List.getElem?_replicate, if_pos (by omega)]
    rfl) (by decide)] at hr
  exact hr
theorem mk_id1 (W : World) : (Instr.makeSlice 54 (.int .i64 1) (.int .i64 1)).run Tryd.prog W = .ok (.slice (some ⟨W.heap.size, 0, none⟩) 1 1) (W.alloc (.cells (nums .u8 (List.replicate 32 0)).toArray 74)) := mk_ids W (m := 1) (by decide)
def zero32 : List Int := List.replicate 32 0
theorem zeros_row {W : World} {g n : Nat} {t : TypeId} (h : W.heap[g]? = some (.cells (nums .u8 (List.replicate n 0)).toArray t (0, 0))) (hn : n ≤ 100000) : Kd.C (Kd.int .u8) W (some ⟨g, 0, none⟩) (List.replicate n (0 : Int)).length (List.replicate n 0) :=
  cells_row (by rw [List.length_replicate]; omega) (fun j v hj => by rw [add_0, Nat.zero_add, blk_cell h, List.getElem?_toArray]; exact hj)
theorem exec_b3 {o : Oper} {ev : Operand → Value} {W : World} {ty : TypeId} {i j l : Nat} (x y z : Operand) {u v q r : Value} (h : (Instr.build ty #[(i, u), (j, v), (l, q)]).run Tryd.prog W = .ok r W) (ho : o.op = .build ty #[(i, x), (j, y), (l, z)]) (hx : ev x = u) (hy : ev y = v) (hz : ev z = q) : (execOp ev o).run Tryd.prog W = .ok (.value r) W := by
  unfold execOp
  simp [ho, hx, hy, hz, h]
theorem build_kys (W : World) (k : Int) (A : Option Addr) (n c : Nat) (s : ByteArray) : (Instr.build 57 #[(0, .int .u8 k), (3, .slice A n c), (5, .string s)]).run Tryd.prog W = .ok (.agg (ocells k 0 (.slice none 0 0) (.slice A n c) (.slice none 0 0) s).toArray) W := by kernel_rfl
theorem build_kny (W : World) (k z : Int) (A : Option Addr) (n c : Nat) : (Instr.build 57 #[(0, .int .u8 k), (2, .int .u64 z), (3, .slice A n c)]).run Tryd.prog W = .ok (.agg (ocells k z (.slice none 0 0) (.slice A n c) (.slice none 0 0) ByteArray.empty).toArray) W := by kernel_rfl
def pO (n : Nat) : OM := ⟨1, List.replicate n 0, 0, [], [], ByteArray.empty⟩
def sO (k : Nat) : OM := ⟨4, [], 0, [zero32], [], S (List.replicate k 0)⟩
def lO (z : Int) (d : Nat) : OM := ⟨2, [], z, List.replicate d zero32, [], ByteArray.empty⟩
theorem errB (x : OM) : (errC x == 0) = checkO x := by unfold errC; cases checkO x <;> rfl
theorem checkO_1 {x : OM} (h : x.k = 1) : checkO x = pieceM x := by unfold checkO; rw [if_pos h]
theorem checkO_2 {x : OM} (h : x.k = 2) : checkO x = listM x := by unfold checkO; rw [if_neg (by omega), if_pos h]
theorem checkO_4 {x : OM} (h : x.k = 4) : checkO x = snapM x := by unfold checkO; rw [if_neg (by omega), if_neg (by omega), if_neg (by omega), if_pos h]
theorem pO_err (n : Nat) : (errC (pO n) == 0) = decide ((n : Int) ≤ 32768) := by
  rw [errB, checkO_1 rfl]
  unfold pieceM
  rw [show bareM true false false false (pO n) = true by kernel_rfl, Bool.true_and, show (pO n).b.length = n from List.length_replicate]
theorem sO_err (k : Nat) : (errC (sO k) == 0) = decide ((k : Int) ≤ 255) := by
  rw [errB, checkO_4 rfl]
  unfold snapM
  rw [show bareM false true true false (sO k) = true by kernel_rfl, Bool.true_and, show (sO k).s.size = k by show (S (List.replicate k 0)).size = k; rw [S_size, List.length_replicate], show (((sO k).ids.length : Int) == 1) = true from rfl, Bool.true_and]
theorem lO_err (z : Int) (d : Nat) (hd : d ≤ 255) : (errC (lO z d) == 0) = (decide (z ≤ 1048576) && ((z == 0) == ((d : Int) == 0))) := by
  rw [errB, checkO_2 rfl]
  unfold listM
  rw [show bareM false true true false (lO z d) = true by kernel_rfl, Bool.true_and, show (lO z d).ids.length = d from List.length_replicate, decide_eq_true (show (d : Int) ≤ 1000 by omega), Bool.true_and]
  rfl
section
variable {w : World}
set_option maxRecDepth 100000 in
set_option maxHeartbeats 8000000 in
theorem lim_law (n m d : Nat) (z : Int) (hn : n ≤ 65535) (hm : m ≤ 65535) (hz : 0 ≤ z ∧ z ≤ 18446744073709551615) (hd : d ≤ 255) :
    Calls Tryd.prog 12 #[.int .u16 n, .int .u16 m, .int .u64 z, .int .u8 d] w fun e w' => e = .returned (.bool true) ∧ Below w.heap.size w w' := by
  obtain ⟨k, hk⟩ : ∃ k, k = m % 600 := ⟨_, rfl⟩
  have hkl : k ≤ 599 := by omega
  have hrem : (m : Int).tmod 600 = (k : Int) := by rw [hk]; exact (Int.ofNat_tmod m 600).symm
  have hrem2 : (m : Int) % 600 = (k : Int) := by omega
  have hw1 : wrap64 (n : Int) = (n : Int) := (IntWalk.wrap64_in _ ⟨by omega, by omega⟩)
  have hw2 : wrap64 (k : Int) = (k : Int) := (IntWalk.wrap64_in _ ⟨by omega, by omega⟩)
  have hw3 : wrap64 (d : Int) = (d : Int) := (IntWalk.wrap64_in _ ⟨by omega, by omega⟩)
  have hw4 : IntKind.u16.wrap (k : Int) = (k : Int) := by rw [IntKind.wrap_u16]; omega
  obtain ⟨ep, hep⟩ : ∃ z, z = errC (pO n) := ⟨_, rfl⟩
  obtain ⟨es, hes⟩ : ∃ z, z = errC (sO k) := ⟨_, rfl⟩
  obtain ⟨el, hel⟩ : ∃ y, y = errC (lO z d) := ⟨_, rfl⟩
  obtain ⟨bp, hbp⟩ : ∃ b, b = decide ((n : Int) ≤ 32768) := ⟨_, rfl⟩
  obtain ⟨bs, hbs⟩ : ∃ b, b = decide ((k : Int) ≤ 255) := ⟨_, rfl⟩
  obtain ⟨b1, hb1⟩ : ∃ b, b = decide (z ≤ 1048576) := ⟨_, rfl⟩
  obtain ⟨b2, hb2⟩ : ∃ b, b = ((z == 0) == ((d : Int) == 0)) := ⟨_, rfl⟩
  have e1 : (ep == 0) = bp := by rw [hep, hbp]; exact pO_err n
  have e2 : (es == 0) = bs := by rw [hes, hbs]; exact sO_err k
  have e3 : (el == 0) = (b1 && b2) := by rw [hel, hb1, hb2]; exact lO_err z d hd
  obtain ⟨ls, hls⟩ : ∃ s, s = S (List.replicate k 0) := ⟨_, rfl⟩
  have HE := Aside0.mk (And.intro hep (And.intro hes (And.intro hel (And.intro hn (And.intro hkl (And.intro hd (And.intro hz hls)))))))
  have q1 := hbp.symm
  have q2 := hbs.symm
  have q3 := hb1.symm
  have q4 := hb2.symm
  have Q := Aside0.mk (And.intro e1 (And.intro e2 (And.intro e3 (And.intro q1 (And.intro q2 (And.intro q3 q4))))))
  clear hep hes hel hbp hbs hb1 hb2 hk e1 e2 e3 q1 q2 q3 q4 hm hls
  go_enter Tryd.func12, Tryd.ntmps12
  go_upto_region 5 with (first
    | (go_at_call 28; go_loud (refine (awake12_calls w).mono ?_; rintro e w1 ⟨rfl, hb⟩; have H1 := Aside0.mk hb; clear hb))
    | ((with_reducible refine gate_dst (N := 18) rfl ?_); refine Kd.event_run rfl (v := .slice (some ⟨w1.heap.size, 0, none⟩) n n) (w1 := w1.alloc (.cells (nums .u8 (List.replicate n 0)).toArray 5)) ?hr ?_; (case hr => exact exec_mk (.tmp 17) rfl rfl (mk_bytes w1 (by have := HE.out.2.2.2.1; omega))); go_loud (refine wpName (fun w2 hw2 => ?_); have H2 := Aside0.mk (show w2.heap[w1.heap.size]? = some (.cells (nums .u8 (List.replicate n 0)).toArray 5 (0, 0)) ∧ Below w.heap.size w w2 from ⟨by rw [hw2]; exact blk_new w1 _, by rw [hw2]; exact below_step H1.out (below_alloc (Below.refl _ _) _)⟩); clear hw2))
    | ((with_reducible refine gate_dst (N := 19) rfl ?_); refine Kd.event_run rfl (v := .agg (ocells 1 0 (.slice (some ⟨w1.heap.size, 0, none⟩) n n) (.slice none 0 0) (.slice none 0 0) ByteArray.empty).toArray) (w1 := w2) ?hr ?_; (case hr => exact exec_b2 (.const (.int .u8 1)) (.tmp 18) (build_kb w2 1 _ n n) rfl rfl rfl))
    | (go_at_call 33; go_loud (have hx := ocheck_calls (w := w2) (x := pO n) (A := some ⟨w1.heap.size, 0, none⟩) (Y := none) (E := none) (bc := n) (yc := 0) (ec := 0) (cs := (ocells 1 0 (.slice (some ⟨w1.heap.size, 0, none⟩) n n) (.slice none 0 0) (.slice none 0 0) ByteArray.empty).toArray) (by unfold OV pO; dsimp only; rw [List.length_replicate]; rfl) (Kd.C_nil _ _) (Nat.zero_le _) (by show (0 : Int) ≤ 1 ∧ (1 : Int) ≤ 255; decide); rw [← HE.out.1] at hx; refine hx.mono ?_; clear hx; rintro e w3 ⟨rfl, hb⟩; have H3 := Aside0.mk (below_step H2.out.2 hb); clear hb)))
  obtain ⟨wd, hwd⟩ : ∃ x, x = w3.drew := ⟨_, rfl⟩
  have HD := Aside0.mk (show Below w.heap.size w wd from by rw [hwd]; exact below_step H3.out (below_drew1 (Below.refl _ _)))
  refine start_ (n := 9) (S := fun _ => True) (ds := []) #[false, false, false, false, false, false, false, false, false] (by kernel_rfl) rfl (by kernel_rfl) (trivial) (fun hHeld => ?_)
  rw [← hwd]
  clear hHeld
  have hHeld : True := trivial
  clear hwd
  refine pure_ (i := 1) (N := some 22) (v := ?_) (a' := ?_) #[false, true, false, false, false, false, false, false, false] rfl rfl (by kernel_rfl) (fun _ _ _ h => h) (Or.inl ⟨by rfl, ?_⟩) ?_ ?_
  rotate_left
  · intro w'
    go_simp
    with_reducible rfl
  rotate_left
  · simp only [Act.put, List.setIfInBounds_toArray, List.set_cons_zero, List.set_cons_succ, i64_w, i32_w]
    rfl
  refine pure_ (i := 2) (N := some 23) (v := ?_) (a' := ?_) #[false, true, true, false, false, false, false, false, false] rfl rfl (by kernel_rfl) (fun _ _ _ h => h) (Or.inl ⟨by rfl, ?_⟩) ?_ ?_
  rotate_left
  · intro w'
    go_simp
    with_reducible rfl
  rotate_left
  · simp only [Act.put, List.setIfInBounds_toArray, List.set_cons_zero, List.set_cons_succ, i64_w, i32_w]
    rfl
  refine pure_ (i := 3) (N := some 24) (v := ?_) (a' := ?_) #[false, true, true, true, false, false, false, false, false] rfl rfl (by kernel_rfl) (fun _ _ _ h => h) (Or.inl ⟨by rfl, ?_⟩) ?_ ?_
  rotate_left
  · intro w'
    go_simp
    with_reducible rfl
  rotate_left
  · simp only [Act.put, List.setIfInBounds_toArray, List.set_cons_zero, List.set_cons_succ, i64_w, i32_w]
    rfl
  rw [hw2]
  refine two_ (i := 0) (j := 4) (Ni := some 21) (Nj := some 25) #[true, true, true, true, false, false, false, false, false] #[false, true, true, true, true, false, false, false, false] rfl rfl rfl rfl (by kernel_rfl) (by decide) (by decide) (fun K hK => ?_) (fun K hK => ?_)
  · obtain ⟨wY, hwY⟩ : ∃ x, x = wd.alloc (.cells (nums .u8 (List.replicate 32 0)).toArray 74) := ⟨_, rfl⟩
    obtain ⟨gY, hgY⟩ : ∃ z, z = wd.heap.size := ⟨_, rfl⟩
    have hY0 : wY.heap[gY]? = some (.cells (nums .u8 (List.replicate 32 0)).toArray 74 (0, 0)) := by rw [hwY, hgY]; exact blk_new wd _
    have hbY : Below wd.heap.size wd wY := by rw [hwY]; exact below_alloc (Below.refl _ _) _
    refine value_ (v := .slice (some ⟨gY, 0, none⟩) 1 1) (w1 := wY) (by rfl) rfl ?hr ?_
    case hr => rw [hwY, hgY]; exact exec_mk (.const (.int .i64 1)) rfl rfl (mk_id1 wd)
    clear hwY hgY
    refine hK.out _ _ (trivial) (fun hHeld => ?_)
    clear hK K
    refine norm_ (a' := ?_) ?_ ?_
    rotate_left
    · show Act.put _ (some 21) _ = _
      simp only [Act.put, List.setIfInBounds_toArray, List.set_cons_zero, List.set_cons_succ, i64_w, i32_w]
      rfl
    refine one_ (i := 4) (N := some 25) #[true, true, true, true, true, false, false, false, false] rfl rfl (by kernel_rfl) (by decide) (fun K hK => ?_)
    obtain ⟨wB, hwB⟩ : ∃ x, x = wY.alloc (.cells (nums .u8 (List.replicate k 0)).toArray 5) := ⟨_, rfl⟩
    obtain ⟨gB, hgB⟩ : ∃ z, z = wY.heap.size := ⟨_, rfl⟩
    have hB0 : wB.heap[gB]? = some (.cells (nums .u8 (List.replicate k 0)).toArray 5 (0, 0)) := by rw [hwB, hgB]; exact blk_new wY _
    have hbB : Below wY.heap.size wY wB := by rw [hwB]; exact below_alloc (Below.refl _ _) _
    refine value_ (v := .slice (some ⟨gB, 0, none⟩) k k) (w1 := wB) (by rfl) rfl ?hr ?_
    case hr => rw [hwB, hgB]; exact exec_mk (.tmp 24) rfl rfl (mk_bytes wY (by have := HE.out.2.2.2.2.1; omega))
    clear hwB hgB
    refine hK.out _ _ (trivial) (fun hHeld => ?_)
    clear hK K
    refine norm_ (a' := ?_) ?_ ?_
    rotate_left
    · show Act.put _ (some 25) _ = _
      simp only [Act.put, List.setIfInBounds_toArray, List.set_cons_zero, List.set_cons_succ, i64_w, i32_w]
      rfl
    refine hold_ (S' := fun W => W.heap[gB]? = some (.cells (nums .u8 (List.replicate k 0)).toArray 5 (0, 0))) _ _ _ _ ?_
    clear hHeld
    have hHeld : wB.heap[gB]? = some (.cells (nums .u8 (List.replicate k 0)).toArray 5 (0, 0)) := hB0
    refine take_ (i := 5) (N := some 26) (v := ?_) (a' := ?_) #[true, true, true, true, true, true, false, false, false] rfl rfl (by kernel_rfl) (fun _ _ _ h => h) (Or.inl ⟨by rfl, ?_⟩) hHeld ?_ ?_
    rotate_left
    · rintro w' s0
      have hcv := conv_row (c := k) (n := k) (List.length_replicate).symm (zeros_row s0 (by have := HE.out.2.2.2.2.1; omega)) (Below.refl _ _); rw [← HE.out.2.2.2.2.2.2.2] at hcv
      go_simp
      with_reducible rfl
    rotate_left
    · simp only [Act.put, List.setIfInBounds_toArray, List.set_cons_zero, List.set_cons_succ, i64_w, i32_w]
      rfl
    have H6 := Aside0.mk (show wB.heap[gY]? = some (.cells (nums .u8 (List.replicate 32 0)).toArray 74 (0, 0)) ∧ Below w.heap.size w wB from ⟨(hbB.block _ (blk_lt hY0)).trans hY0, below_step (below_step HD.out hbY) hbB⟩)
    obtain ⟨W6, rfl⟩ : ∃ z, z = wB := ⟨_, rfl⟩
    clear hbB hbY hB0 hY0
    refine pure_ (i := 6) (N := some 27) (v := .agg (ocells 4 0 (.slice none 0 0) (.slice (some ⟨gY, 0, none⟩) 1 1) (.slice none 0 0) ls).toArray) (a' := ?_) #[true, true, true, true, true, true, true, false, false] rfl rfl (by kernel_rfl) (fun _ _ _ h => h) (Or.inl ⟨by rfl, fun w' => ?ld⟩) ?_ ?_
    case ld => exact exec_b3 (.const (.int .u8 4)) (.tmp 21) (.tmp 26) (build_kys _ 4 _ 1 1 ls) rfl rfl rfl rfl
    rotate_left
    · simp only [Act.put, List.setIfInBounds_toArray, List.set_cons_zero, List.set_cons_succ, i64_w, i32_w]
      rfl
    refine one_ (i := 7) (N := some 28) #[true, true, true, true, true, true, true, true, false] rfl rfl (by kernel_rfl) (by decide) (fun K hK => ?_)
    refine goes_ Tryd.func33 (by kernel_rfl) rfl #[.agg (ocells 4 0 (.slice none 0 0) (.slice (some ⟨gY, 0, none⟩) 1 1) (.slice none 0 0) ls).toArray] (by rfl) rfl rfl (by (try simp only [List.map_toArray, List.map_cons, List.map_nil]); rfl) ?_
    have hx := ocheck_calls (w := W6) (x := sO k) (A := none) (Y := some ⟨gY, 0, none⟩) (E := none) (bc := 0) (yc := 1) (ec := 0) (cs := (ocells 4 0 (.slice none 0 0) (.slice (some ⟨gY, 0, none⟩) 1 1) (.slice none 0 0) ls).toArray) (by rw [HE.out.2.2.2.2.2.2.2]; rfl) (Kd.C_nil _ _) (Nat.zero_le _) (by show (0 : Int) ≤ 4 ∧ (4 : Int) ≤ 255; decide)
    rw [← HE.out.2.1] at hx
    refine hx.mono ?_
    clear hx
    rintro e w7 ⟨rfl, hb7⟩
    refine ⟨_, rfl, ?_⟩
    have H7 := Aside0.mk (below_step H6.out.2 hb7)
    have hH7 := (hb7.block _ (blk_lt hHeld)).trans hHeld
    clear hb7
    refine hK.out _ _ (hH7) (fun hHeld => ?_)
    clear hK K
    refine norm_ (a' := ?_) ?_ ?_
    rotate_left
    · show Act.put _ (some 28) _ = _
      simp only [Act.put, List.setIfInBounds_toArray, List.set_cons_zero, List.set_cons_succ, i64_w, i32_w]
      rfl
    refine pure_ (i := 8) (N := some 11) (v := ?_) (a' := ?_) #[true, true, true, true, true, true, true, true, true] rfl rfl (by kernel_rfl) (fun _ _ _ h => h) (Or.inl ⟨by rfl, ?_⟩) ?_ ?_
    rotate_left
    · intro w'
      go_simp
      with_reducible rfl
    rotate_left
    · simp only [Act.put, List.setIfInBounds_toArray, List.set_cons_zero, List.set_cons_succ, i64_w, i32_w]
      rfl
    refine done_ (by kernel_rfl) ?_
    clear hHeld hH7
    obtain ⟨e1, e2, e3, q1, q2, q3, q4⟩ := Q.out
    have f1 : (bp == bp) = true := beq_self_eq_true bp
    have f2 : (bs == bs) = true := beq_self_eq_true bs
    cases b1
    all_goals
      (try (have f3 : (b2 == b2) = true := beq_self_eq_true b2))
      simp only [Bool.false_and, Bool.true_and] at e3
      go_wp2_with (first
        | ((with_reducible refine gate_dst (N := 32) rfl ?_); refine Kd.event_run rfl (v := .slice (some ⟨w7.heap.size, 0, none⟩) d d) (w1 := w7.alloc (.cells (nums .u8 (List.replicate (d * 32) 0)).toArray 74)) ?hr ?_; (case hr => exact exec_mk (.tmp 31) rfl rfl (mk_ids w7 HE.out.2.2.2.2.2.1)); go_loud (refine wpName (fun w8 hw8 => ?_); have H8 := Aside0.mk (show w8.heap[w7.heap.size]? = some (.cells (nums .u8 (List.replicate (d * 32) 0)).toArray 74 (0, 0)) ∧ Below w.heap.size w w8 from ⟨by rw [hw8]; exact blk_new w7 _, by rw [hw8]; exact below_step H7.out (below_alloc (Below.refl _ _) _)⟩); clear hw8))
        | ((with_reducible refine gate_dst (N := 33) rfl ?_); refine Kd.event_run rfl (v := .agg (ocells 2 z (.slice none 0 0) (.slice (some ⟨w7.heap.size, 0, none⟩) d d) (.slice none 0 0) ByteArray.empty).toArray) (w1 := w8) ?hr ?_; (case hr => exact exec_b3 (.const (.int .u8 2)) (.tmp 29) (.tmp 32) (build_kny w8 2 z _ d d) rfl rfl rfl rfl))
        | (go_at_call 33; go_loud (have hx := ocheck_calls (w := w8) (x := lO z d) (A := none) (Y := some ⟨w7.heap.size, 0, none⟩) (E := none) (bc := 0) (yc := d) (ec := 0) (cs := (ocells 2 z (.slice none 0 0) (.slice (some ⟨w7.heap.size, 0, none⟩) d d) (.slice none 0 0) ByteArray.empty).toArray) (by unfold OV lO; dsimp only; rw [List.length_replicate]; rfl) (Kd.C_nil _ _) (Nat.zero_le _) (by show (0 : Int) ≤ 2 ∧ (2 : Int) ≤ 255; decide); rw [← HE.out.2.2.1] at hx; refine hx.mono ?_; clear hx; rintro e w9 ⟨rfl, hb9⟩; have H9 := Aside0.mk (below_step H8.out.2 hb9); clear hb9)))
      go_ret
      exact ⟨rfl, H9.out⟩
  · obtain ⟨wB, hwB⟩ : ∃ x, x = wd.alloc (.cells (nums .u8 (List.replicate k 0)).toArray 5) := ⟨_, rfl⟩
    obtain ⟨gB, hgB⟩ : ∃ z, z = wd.heap.size := ⟨_, rfl⟩
    have hB0 : wB.heap[gB]? = some (.cells (nums .u8 (List.replicate k 0)).toArray 5 (0, 0)) := by rw [hwB, hgB]; exact blk_new wd _
    have hbB : Below wd.heap.size wd wB := by rw [hwB]; exact below_alloc (Below.refl _ _) _
    refine value_ (v := .slice (some ⟨gB, 0, none⟩) k k) (w1 := wB) (by rfl) rfl ?hr ?_
    case hr => rw [hwB, hgB]; exact exec_mk (.tmp 24) rfl rfl (mk_bytes wd (by have := HE.out.2.2.2.2.1; omega))
    clear hwB hgB
    refine hK.out _ _ (trivial) (fun hHeld => ?_)
    clear hK K
    refine norm_ (a' := ?_) ?_ ?_
    rotate_left
    · show Act.put _ (some 25) _ = _
      simp only [Act.put, List.setIfInBounds_toArray, List.set_cons_zero, List.set_cons_succ, i64_w, i32_w]
      rfl
    refine hold_ (S' := fun W => W.heap[gB]? = some (.cells (nums .u8 (List.replicate k 0)).toArray 5 (0, 0))) _ _ _ _ ?_
    clear hHeld
    have hHeld : wB.heap[gB]? = some (.cells (nums .u8 (List.replicate k 0)).toArray 5 (0, 0)) := hB0
    refine take_ (i := 5) (N := some 26) (v := ?_) (a' := ?_) #[false, true, true, true, true, true, false, false, false] rfl rfl (by kernel_rfl) (fun _ _ _ h => h) (Or.inl ⟨by rfl, ?_⟩) hHeld ?_ ?_
    rotate_left
    · rintro w' s0
      have hcv := conv_row (c := k) (n := k) (List.length_replicate).symm (zeros_row s0 (by have := HE.out.2.2.2.2.1; omega)) (Below.refl _ _); rw [← HE.out.2.2.2.2.2.2.2] at hcv
      go_simp
      with_reducible rfl
    rotate_left
    · simp only [Act.put, List.setIfInBounds_toArray, List.set_cons_zero, List.set_cons_succ, i64_w, i32_w]
      rfl
    refine one_ (i := 0) (N := some 21) #[true, true, true, true, true, true, false, false, false] rfl rfl (by kernel_rfl) (by decide) (fun K hK => ?_)
    obtain ⟨wY, hwY⟩ : ∃ x, x = wB.alloc (.cells (nums .u8 (List.replicate 32 0)).toArray 74) := ⟨_, rfl⟩
    obtain ⟨gY, hgY⟩ : ∃ z, z = wB.heap.size := ⟨_, rfl⟩
    have hY0 : wY.heap[gY]? = some (.cells (nums .u8 (List.replicate 32 0)).toArray 74 (0, 0)) := by rw [hwY, hgY]; exact blk_new wB _
    have hbY : Below wB.heap.size wB wY := by rw [hwY]; exact below_alloc (Below.refl _ _) _
    refine value_ (v := .slice (some ⟨gY, 0, none⟩) 1 1) (w1 := wY) (by rfl) rfl ?hr ?_
    case hr => rw [hwY, hgY]; exact exec_mk (.const (.int .i64 1)) rfl rfl (mk_id1 wB)
    clear hwY hgY
    refine hK.out _ _ ((hbY.block _ (blk_lt hB0)).trans hB0) (fun hHeld => ?_)
    clear hK K
    refine norm_ (a' := ?_) ?_ ?_
    rotate_left
    · show Act.put _ (some 21) _ = _
      simp only [Act.put, List.setIfInBounds_toArray, List.set_cons_zero, List.set_cons_succ, i64_w, i32_w]
      rfl
    have H6 := Aside0.mk (show wY.heap[gY]? = some (.cells (nums .u8 (List.replicate 32 0)).toArray 74 (0, 0)) ∧ Below w.heap.size w wY from ⟨hY0, below_step (below_step HD.out hbB) hbY⟩)
    obtain ⟨W6, rfl⟩ : ∃ z, z = wY := ⟨_, rfl⟩
    clear hbB hbY hB0 hY0
    refine pure_ (i := 6) (N := some 27) (v := .agg (ocells 4 0 (.slice none 0 0) (.slice (some ⟨gY, 0, none⟩) 1 1) (.slice none 0 0) ls).toArray) (a' := ?_) #[true, true, true, true, true, true, true, false, false] rfl rfl (by kernel_rfl) (fun _ _ _ h => h) (Or.inl ⟨by rfl, fun w' => ?ld⟩) ?_ ?_
    case ld => exact exec_b3 (.const (.int .u8 4)) (.tmp 21) (.tmp 26) (build_kys _ 4 _ 1 1 ls) rfl rfl rfl rfl
    rotate_left
    · simp only [Act.put, List.setIfInBounds_toArray, List.set_cons_zero, List.set_cons_succ, i64_w, i32_w]
      rfl
    refine one_ (i := 7) (N := some 28) #[true, true, true, true, true, true, true, true, false] rfl rfl (by kernel_rfl) (by decide) (fun K hK => ?_)
    refine goes_ Tryd.func33 (by kernel_rfl) rfl #[.agg (ocells 4 0 (.slice none 0 0) (.slice (some ⟨gY, 0, none⟩) 1 1) (.slice none 0 0) ls).toArray] (by rfl) rfl rfl (by (try simp only [List.map_toArray, List.map_cons, List.map_nil]); rfl) ?_
    have hx := ocheck_calls (w := W6) (x := sO k) (A := none) (Y := some ⟨gY, 0, none⟩) (E := none) (bc := 0) (yc := 1) (ec := 0) (cs := (ocells 4 0 (.slice none 0 0) (.slice (some ⟨gY, 0, none⟩) 1 1) (.slice none 0 0) ls).toArray) (by rw [HE.out.2.2.2.2.2.2.2]; rfl) (Kd.C_nil _ _) (Nat.zero_le _) (by show (0 : Int) ≤ 4 ∧ (4 : Int) ≤ 255; decide)
    rw [← HE.out.2.1] at hx
    refine hx.mono ?_
    clear hx
    rintro e w7 ⟨rfl, hb7⟩
    refine ⟨_, rfl, ?_⟩
    have H7 := Aside0.mk (below_step H6.out.2 hb7)
    have hH7 := (hb7.block _ (blk_lt hHeld)).trans hHeld
    clear hb7
    refine hK.out _ _ (hH7) (fun hHeld => ?_)
    clear hK K
    refine norm_ (a' := ?_) ?_ ?_
    rotate_left
    · show Act.put _ (some 28) _ = _
      simp only [Act.put, List.setIfInBounds_toArray, List.set_cons_zero, List.set_cons_succ, i64_w, i32_w]
      rfl
    refine pure_ (i := 8) (N := some 11) (v := ?_) (a' := ?_) #[true, true, true, true, true, true, true, true, true] rfl rfl (by kernel_rfl) (fun _ _ _ h => h) (Or.inl ⟨by rfl, ?_⟩) ?_ ?_
    rotate_left
    · intro w'
      go_simp
      with_reducible rfl
    rotate_left
    · simp only [Act.put, List.setIfInBounds_toArray, List.set_cons_zero, List.set_cons_succ, i64_w, i32_w]
      rfl
    refine done_ (by kernel_rfl) ?_
    clear hHeld hH7
    obtain ⟨e1, e2, e3, q1, q2, q3, q4⟩ := Q.out
    have f1 : (bp == bp) = true := beq_self_eq_true bp
    have f2 : (bs == bs) = true := beq_self_eq_true bs
    cases b1
    all_goals
      (try (have f3 : (b2 == b2) = true := beq_self_eq_true b2))
      simp only [Bool.false_and, Bool.true_and] at e3
      go_wp2_with (first
        | ((with_reducible refine gate_dst (N := 32) rfl ?_); refine Kd.event_run rfl (v := .slice (some ⟨w7.heap.size, 0, none⟩) d d) (w1 := w7.alloc (.cells (nums .u8 (List.replicate (d * 32) 0)).toArray 74)) ?hr ?_; (case hr => exact exec_mk (.tmp 31) rfl rfl (mk_ids w7 HE.out.2.2.2.2.2.1)); go_loud (refine wpName (fun w8 hw8 => ?_); have H8 := Aside0.mk (show w8.heap[w7.heap.size]? = some (.cells (nums .u8 (List.replicate (d * 32) 0)).toArray 74 (0, 0)) ∧ Below w.heap.size w w8 from ⟨by rw [hw8]; exact blk_new w7 _, by rw [hw8]; exact below_step H7.out (below_alloc (Below.refl _ _) _)⟩); clear hw8))
        | ((with_reducible refine gate_dst (N := 33) rfl ?_); refine Kd.event_run rfl (v := .agg (ocells 2 z (.slice none 0 0) (.slice (some ⟨w7.heap.size, 0, none⟩) d d) (.slice none 0 0) ByteArray.empty).toArray) (w1 := w8) ?hr ?_; (case hr => exact exec_b3 (.const (.int .u8 2)) (.tmp 29) (.tmp 32) (build_kny w8 2 z _ d d) rfl rfl rfl rfl))
        | (go_at_call 33; go_loud (have hx := ocheck_calls (w := w8) (x := lO z d) (A := none) (Y := some ⟨w7.heap.size, 0, none⟩) (E := none) (bc := 0) (yc := d) (ec := 0) (cs := (ocells 2 z (.slice none 0 0) (.slice (some ⟨w7.heap.size, 0, none⟩) d d) (.slice none 0 0) ByteArray.empty).toArray) (by unfold OV lO; dsimp only; rw [List.length_replicate]; rfl) (Kd.C_nil _ _) (Nat.zero_le _) (by show (0 : Int) ≤ 2 ∧ (2 : Int) ≤ 255; decide); rw [← HE.out.2.2.1] at hx; refine hx.mono ?_; clear hx; rintro e w9 ⟨rfl, hb9⟩; have H9 := Aside0.mk (below_step H8.out.2 hb9); clear hb9)))
      go_ret
      exact ⟨rfl, H9.out⟩
end
end Go.Proofs.YtgjdcdhfijkoiaaDoor.Obj
end
section
namespace Go.Proofs.YtgjdcdhfijkoiaaDoor.Obj
open Go.ChangeShapes Go.WideShapes Go.RowKit Go.Proofs.YtgjdcdhfijkoiaaDoorW.PrintWords Go.Proofs.YtgjdcdhfijkoiaaDoor.Mem Go.Proofs.YtgjdcdhfijkoiaaDoor.Cod Go.Proofs.YtgjdcdhfijkoiaaDoor.PCod Go.Proofs.YtgjdcdhfijkoiaaDoor.Str Go.Proofs.YtgjdcdhfijkoiaaDoor.Open
set_option linter.unusedVariables false
set_option linter.unusedSimpArgs false
section
variable {H : Type} {enc : TypeId × Value → H} {P : Program} {w : World} {base : Nat} {held : Bool}
theorem open_arr {t e : TypeId} {n fuel : Nat} {cs : List Value} {x : DataW H × List MemPlace} (ht : P.underlying t = some (.array n e)) (he : P.underlying e = some (.int .u8)) (ce : P.cellsOf e = 1) (ct : P.cellsOf t = n) (h : DataW.trod enc P w base (fun _ => true) held fuel t cs = some x) : ∃ p : List Int, p.length = n ∧ cs = nums .u8 p ∧ Byt p := by
  obtain ⟨xs, m, _, _, hl, hn, hi⟩ := DataW.trod_array ht h
  rw [ce] at hi
  rw [ct] at hl
  have hx : ∀ i, i < n → ∃ z : Int, (cs.drop i).take 1 = [.int .u8 z] ∧ 0 ≤ z ∧ z ≤ 255 := by
    intro i hin
    have h1 := hi i hin
    rw [Nat.mul_one, List.getElem?_eq_getElem (by omega)] at h1
    obtain ⟨z, e1, _, w1⟩ := DataW.trod_int he h1
    have hb : (0 ≤ z ∧ z ≤ 255) := by simpa [Lit.wf, IntKind.min, IntKind.max, IntKind.signed, IntKind.bits] using w1
    exact ⟨z, e1, hb⟩
  obtain ⟨f, hf⟩ : ∃ f : Nat → Int, ∀ i, i < n → (cs.drop i).take 1 = [.int .u8 (f i)] ∧ 0 ≤ f i ∧ f i ≤ 255 := Deep.choose_lt hx
  refine ⟨(List.range n).map f, by simp, ?_, fun y hy => ?_⟩
  · apply List.ext_getElem?
    intro j
    unfold nums
    by_cases hj : j < n
    · have h1 := (hf j hj).1
      have h2 : ((cs.drop j).take 1)[0]? = some (.int .u8 (f j)) := by rw [h1]; rfl
      rw [List.getElem?_take_of_lt (by omega), List.getElem?_drop, Nat.add_zero] at h2
      rw [h2]
      simp [hj]
    · rw [List.getElem?_eq_none (by omega), List.getElem?_eq_none (by simp; omega)]
  · obtain ⟨i, hi2, rfl⟩ := List.mem_map.1 hy
    exact (hf i (by simpa using hi2)).2
/-- A slice of elements that are told by their cells. -/
theorem open_flat {α : Type} {t e : TypeId} {fuel k : Nat} {u : Value} {x : DataW H × List MemPlace} (encv : α → List Value) (h1 : ∀ x, ∀ u ∈ encv x, u.oneCell' = true) (hk : 0 < k) (q : α → Prop) [Inhabited α] (ht : P.underlying t = some (.slice e)) (ck : P.cellsOf e = k)
    (hone : ∀ (m : Nat) (cs : List Value) (y : DataW H × List MemPlace), cs.length = k → DataW.trod enc P w base (fun _ => true) held m e cs = some y → ∃ p : α, cs = encv p ∧ q p) (h : DataW.trod enc P w base (fun _ => true) held fuel t [u] = some x) :
    ∃ (Y : Option Addr) (yc : Nat) (ids : List α), u = .slice Y ids.length yc ∧ Kd.C (flat k encv h1) w Y ids.length ids ∧ ∀ p ∈ ids, q p := by
  rcases Deep.open_slice ht h with ⟨hc, _⟩ | ⟨a, ln, cp, m, n, D, Pl, hc, _, hl, hm, hmm, _, hx⟩
  · simp only [List.cons.injEq, and_true] at hc
    exact ⟨none, 0, [], hc, Kd.C_nil _ _, fun p hp => by cases hp⟩
  · simp only [List.cons.injEq, and_true] at hc
    have hx2 : ∀ i, i < ln → ∃ p : α, q p ∧ (encv p).length = k ∧ ∀ (j : Nat) (v : Value), (encv p)[j]? = some v → w.cell? (a.add (i * k + j)) = some v := by
      intro i hi
      obtain ⟨cs', g1, g2⟩ := hx i (by rw [hmm]; split <;> omega)
      rw [ck] at g1
      obtain ⟨_, hlen, hcell⟩ := World.cells?_some g1
      obtain ⟨p, rfl, hq⟩ := hone _ cs' _ (by rw [hlen]) g2
      refine ⟨p, hq, by rw [hlen], fun j v hv => ?_⟩
      have hj : j < k := by
        have := (List.getElem?_eq_some_iff.1 hv).1
        omega
      have := hcell j hj
      rw [Deep.add_add] at this
      rw [this, hv]
    obtain ⟨f, hf⟩ : ∃ f : Nat → α, ∀ i, i < ln → q (f i) ∧ (encv (f i)).length = k ∧ ∀ (j : Nat) (v : Value), (encv (f i))[j]? = some v → w.cell? (a.add (i * k + j)) = some v := Deep.choose_lt hx2
    refine ⟨some a, cp, (List.range ln).map f, by rw [hc]; simp, ⟨rfl, by simp; unfold maxLen at hm; omega, fun _ => ⟨a, rfl, fun j p hj => ?_⟩⟩, fun p hp => ?_⟩
    · rw [List.getElem?_map] at hj
      obtain ⟨i, hi, rfl⟩ := Option.map_eq_some_iff.1 hj
      obtain ⟨hi1, rfl⟩ := List.getElem?_eq_some_iff.1 hi
      rw [List.getElem_range] at *
      have hjl : j < ln := by simpa using hi1
      exact ⟨encv (f j), (hf j hjl).2.1, ⟨rfl, (hf j hjl).2.1⟩, fun i u hu => (hf j hjl).2.2 i u hu⟩
    · obtain ⟨i, hi, rfl⟩ := List.mem_map.1 hp
      exact (hf i (List.mem_range.1 hi)).1
end
section
variable {H : Type} {enc : TypeId × Value → H} {w : World} {base : Nat}
theorem drop_take {cs : List Value} {i n : Nat} {l : List Value} (h : (cs.drop i).take n = l) (hl : i + n ≤ cs.length) : cs.drop i = l ++ cs.drop (i + n) := by
  rw [← h, ← List.drop_drop]
  exact (List.take_append_drop n (cs.drop i)).symm
set_option maxRecDepth 100000 in
theorem open_kid {fuel : Nat} {u : Value} {x : DataW H × List MemPlace} {held : Bool} (h : DataW.trod enc Tryd.prog w base (fun _ => true) held fuel 54 [u] = some x) :
    ∃ (Y : Option Addr) (yc : Nat) (ids : List (List Int)), u = .slice Y ids.length yc ∧ Kd.C kId w Y ids.length ids ∧ ∀ p ∈ ids, Byt p :=
  open_flat (nums .u8) (fun p => nums_one p) (by decide) Byt Tryd.underlying54 (by kernel_rfl) (fun m cs y _ hy => by
    obtain ⟨p, _, h1, h2⟩ := open_arr Tryd.underlying74 Tryd.underlying5 (by kernel_rfl) (by kernel_rfl) hy
    exact ⟨p, h1, h2⟩) h
instance : Inhabited EM := ⟨eNone⟩
set_option maxRecDepth 100000 in
theorem fields_e : ∃ f0 f1 f2 : Field, Tryd.prog.underlying 76 = some (.struct #[f0, f1, f2]) ∧ f0.offset = 0 ∧ f1.offset = 1 ∧ f2.offset = 2 ∧ f0.type = 9 ∧ f1.type = 4 ∧ f2.type = 74 :=
  ⟨_, _, _, Tryd.underlying76, rfl, rfl, rfl, rfl, rfl, rfl⟩
set_option maxRecDepth 100000 in
theorem open_ke {fuel : Nat} {u : Value} {x : DataW H × List MemPlace} {held : Bool} (h : DataW.trod enc Tryd.prog w base (fun _ => true) held fuel 55 [u] = some x) :
    ∃ (Y : Option Addr) (yc : Nat) (es : List EM), u = .slice Y es.length yc ∧ Kd.C kE w Y es.length es ∧ ∀ e ∈ es, Byt e.id :=
  open_flat ecells ecells_one (by decide) (fun e : EM => Byt e.id) Tryd.underlying55 (by kernel_rfl) (fun m cs y hl hy => by
    obtain ⟨f0, f1, f2, hs, o0, o1, o2, t0, t1, t2⟩ := fields_e
    obtain ⟨xs, m2, _, _, _, hn, hff⟩ := DataW.trod_struct hs hy
    have hn3 : xs.length = 3 := hn
    have g0 := hff 0 f0 rfl
    have g1 := hff 1 f1 rfl
    have g2 := hff 2 f2 rfl
    rw [o0, t0, show Tryd.prog.cellsOf 9 = 1 by kernel_rfl, List.getElem?_eq_getElem (by omega)] at g0
    rw [o1, t1, show Tryd.prog.cellsOf 4 = 1 by kernel_rfl, List.getElem?_eq_getElem (by omega)] at g1
    rw [o2, t2, show Tryd.prog.cellsOf 74 = 32 by kernel_rfl, List.getElem?_eq_getElem (by omega)] at g2
    obtain ⟨s, e0, _⟩ := DataW.trod_string Tryd.underlying9 g0
    obtain ⟨b, e1, _⟩ := DataW.trod_bool Tryd.underlying4 g1
    obtain ⟨p, hp, e2, hpb⟩ := open_arr Tryd.underlying74 Tryd.underlying5 (by kernel_rfl) (by kernel_rfl) g2
    refine ⟨⟨s, b, p⟩, ?_, hpb⟩
    have d0 := drop_take e0 (by omega)
    have d1 := drop_take e1 (by omega)
    have d2 := drop_take e2 (by omega)
    rw [List.drop_zero] at d0
    have d3 : cs.drop 34 = [] := List.drop_of_length_le (by omega)
    rw [d0, show 0 + 1 = 1 from rfl, d1, show 1 + 1 = 2 from rfl, d2, show 2 + 32 = 34 from rfl, d3]
    unfold ecells
    simp) h
set_option maxRecDepth 100000 in
theorem fields_o : ∃ f0 f1 f2 f3 f4 f5 : Field, Tryd.prog.underlying 57 = some (.struct #[f0, f1, f2, f3, f4, f5]) ∧ f0.offset = 0 ∧ f1.offset = 1 ∧ f2.offset = 2 ∧ f3.offset = 3 ∧ f4.offset = 4 ∧ f5.offset = 5 ∧ f0.type = 5 ∧ f1.type = 27 ∧ f2.type = 53 ∧ f3.type = 54 ∧ f4.type = 55 ∧ f5.type = 9 :=
  ⟨_, _, _, _, _, _, Tryd.underlying57, rfl, rfl, rfl, rfl, rfl, rfl, rfl, rfl, rfl, rfl, rfl, rfl⟩
set_option maxRecDepth 100000 in
theorem open_obj {r : Reach} {b0 : Nat} {v : Value} {d : DataW H} {p : List MemPlace} (hv : Value.okWide Tryd.prog w r b0 57 v) (h : DataW.Trod enc Tryd.prog w base (fun _ => true) true 57 v d p) :
    ∃ (cs : Array Value) (x : OM) (A Y E : Option Addr) (bc yc ec : Nat), v = .agg cs ∧ OV cs x A Y E bc yc ec ∧ InO w x A Y E := by
  obtain ⟨f0, f1, f2, f3, f4, f5, hs, o0, o1, o2, o3, o4, o5, t0, t1, t2, t3, t4, t5⟩ := fields_o
  obtain ⟨cs, rfl, hsz⟩ := okWide_struct hs hv
  obtain ⟨fuel, hf⟩ := h
  obtain ⟨xs, m, _, _, hl, hn, hff⟩ := DataW.trod_struct hs hf
  obtain ⟨cs⟩ := cs
  have c6 : Tryd.prog.cellsOf 57 = 6 := by kernel_rfl
  have hl6 : cs.length = 6 := by rw [← c6]; exact hl
  have hn6 : xs.length = 6 := hn
  have hq0 : (Value.agg { toList := cs }).cells.toList = cs := rfl
  rw [hq0] at hff
  have g0 := hff 0 f0 rfl
  have g1 := hff 1 f1 rfl
  have g2 := hff 2 f2 rfl
  have g3 := hff 3 f3 rfl
  have g4 := hff 4 f4 rfl
  have g5 := hff 5 f5 rfl
  rw [o0, t0, show Tryd.prog.cellsOf 5 = 1 by kernel_rfl, List.getElem?_eq_getElem (by omega)] at g0
  rw [o1, t1, show Tryd.prog.cellsOf 27 = 1 by kernel_rfl, List.getElem?_eq_getElem (by omega)] at g1
  rw [o2, t2, show Tryd.prog.cellsOf 53 = 1 by kernel_rfl, List.getElem?_eq_getElem (by omega)] at g2
  rw [o3, t3, show Tryd.prog.cellsOf 54 = 1 by kernel_rfl, List.getElem?_eq_getElem (by omega)] at g3
  rw [o4, t4, show Tryd.prog.cellsOf 55 = 1 by kernel_rfl, List.getElem?_eq_getElem (by omega)] at g4
  rw [o5, t5, show Tryd.prog.cellsOf 9 = 1 by kernel_rfl, List.getElem?_eq_getElem (by omega)] at g5
  have one : ∀ i, i < 6 → ∃ u, (cs.drop i).take 1 = [u] := fun i hi => by
    rw [List.drop_eq_getElem_cons (by omega)]; exact ⟨_, rfl⟩
  obtain ⟨k, e0, _, w0⟩ := DataW.trod_int Tryd.underlying5 g0
  obtain ⟨u1, e1⟩ := one 1 (by omega)
  obtain ⟨n, e2, _, w2⟩ := DataW.trod_int Tryd.underlying53 g2
  obtain ⟨u3, e3⟩ := one 3 (by omega)
  obtain ⟨u4, e4⟩ := one 4 (by omega)
  obtain ⟨s, e5, _⟩ := DataW.trod_string Tryd.underlying9 g5
  rw [e1] at g1
  rw [e3] at g3
  rw [e4] at g4
  obtain ⟨A, bc, bs, rfl, hC, hbc, hbl, hby⟩ := open_bytes Tryd.underlying27 Tryd.underlying5 (by kernel_rfl) g1
  obtain ⟨Y, yc, ids, rfl, hY, hyb⟩ := open_kid g3
  obtain ⟨E, ec, es, rfl, hE, heb⟩ := open_ke g4
  have uk : 0 ≤ k ∧ k ≤ 255 := by simpa [Lit.wf, IntKind.min, IntKind.max, IntKind.signed, IntKind.bits] using w0
  have un : 0 ≤ n ∧ n ≤ 18446744073709551615 := by simpa [Lit.wf, IntKind.min, IntKind.max, IntKind.signed, IntKind.bits] using w2
  refine ⟨_, ⟨k, bs, n, ids, es, s⟩, A, Y, E, bc, yc, ec, rfl, ?_, ⟨hC, hY, hE, hby, hyb, heb, uk, un, hC.2.1, hY.2.1, hE.2.1⟩⟩
  unfold OV
  congr 1
  have d0 := drop_take e0 (by omega)
  have d1 := drop_take e1 (by omega)
  have d2 := drop_take e2 (by omega)
  have d3 := drop_take e3 (by omega)
  have d4 := drop_take e4 (by omega)
  have d5 := drop_take e5 (by omega)
  rw [List.drop_zero] at d0
  have d6 : cs.drop 6 = [] := List.drop_of_length_le (by omega)
  rw [d0, show 0 + 1 = 1 from rfl, d1, show 1 + 1 = 2 from rfl, d2, show 2 + 1 = 3 from rfl, d3, show 3 + 1 = 4 from rfl, d4, show 4 + 1 = 5 from rfl, d5, show 5 + 1 = 6 from rfl, d6]
  unfold ocells
  simp
set_option maxRecDepth 100000 in
theorem bel_row {r : Reach} {b0 : Nat} {v : Value} {d : DataW H} {p : List MemPlace} (hv : Value.okWide Tryd.prog w r b0 57 v) (h : DataW.Trod enc Tryd.prog w base (fun _ => true) true 57 v d p) :
    Calls Tryd.prog 11 #[v] w fun e w' => e = .returned (.bool true) ∧ Below w.heap.size w w' := by
  obtain ⟨cs, x, A, Y, E, bc, yc, ec, rfl, h1, h2⟩ := open_obj hv h
  exact bel_law h1 h2
end
theorem lim_row {w : World} {a0 a1 a2 a3 : Int} (w0 : (Lit.int .u16 a0).wf = true) (w1 : (Lit.int .u16 a1).wf = true) (w2 : (Lit.int .u64 a2).wf = true) (w3 : (Lit.int .u8 a3).wf = true) :
    Calls Tryd.prog 12 #[.int .u16 a0, .int .u16 a1, .int .u64 a2, .int .u8 a3] w fun e w' => e = .returned (.bool true) ∧ Below w.heap.size w w' := by
  have h0 : 0 ≤ a0 ∧ a0 ≤ 65535 := by simpa [Lit.wf, IntKind.min, IntKind.max, IntKind.signed, IntKind.bits] using w0
  have h1 : 0 ≤ a1 ∧ a1 ≤ 65535 := by simpa [Lit.wf, IntKind.min, IntKind.max, IntKind.signed, IntKind.bits] using w1
  have h2 : 0 ≤ a2 ∧ a2 ≤ 18446744073709551615 := by simpa [Lit.wf, IntKind.min, IntKind.max, IntKind.signed, IntKind.bits] using w2
  have h3 : 0 ≤ a3 ∧ a3 ≤ 255 := by simpa [Lit.wf, IntKind.min, IntKind.max, IntKind.signed, IntKind.bits] using w3
  obtain ⟨n, rfl⟩ : ∃ n : Nat, a0 = n := ⟨a0.toNat, by omega⟩
  obtain ⟨m, rfl⟩ : ∃ n : Nat, a1 = n := ⟨a1.toNat, by omega⟩
  obtain ⟨d, rfl⟩ : ∃ n : Nat, a3 = n := ⟨a3.toNat, by omega⟩
  exact lim_law n m d a2 (by omega) (by omega) h2 (by omega)
end Go.Proofs.YtgjdcdhfijkoiaaDoor.Obj
end
