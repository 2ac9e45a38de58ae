/- The reference's Put of an object, kind by kind (printed by gen_rpt.py). -/
import Derived.Test.YtgjdcdhfijkoiaaDoorObH
import Derived.Test.YtgjdcdhfijkoiaaDoorFiF
section
namespace Go.Proofs.YtgjdcdhfijkoiaaDoor.Obj
open Go.RowKit Go.Proofs.YtgjdcdhfijkoiaaDoorW.PrintWords Go.Proofs.YtgjdcdhfijkoiaaDoorW.PrintLast Go.Proofs.YtgjdcdhfijkoiaaDoorW.PrintMore Go.Proofs.YtgjdcdhfijkoiaaDoor.Mem Go.Proofs.YtgjdcdhfijkoiaaDoor.Cod Go.Proofs.YtgjdcdhfijkoiaaDoor.PCod Go.Proofs.YtgjdcdhfijkoiaaDoor.Str Go.Proofs.YtgjdcdhfijkoiaaDoor.Open
set_option linter.unusedVariables false
set_option linter.unusedSimpArgs false
theorem yes_calls (d : Bool) (w : World) : Calls Tryd.prog 62 #[.bool d] w fun e w' => e = .returned (.string (S [bit d])) ∧ Below w.heap.size w w' := by
  refine (baileeref12_yes.calls d (S [bit d]) w ?_).mono (fun e w' h => ⟨h.1, h.2.below⟩)
  cases d
  · show some (⟨#[0]⟩ : ByteArray) = _
    kernel_rfl
  · show some (⟨#[1]⟩ : ByteArray) = _
    kernel_rfl
theorem conv_at {W : World} {ad : Addr} {id : List Int} {n : Nat} (hn : n = id.length) (hl : id.length ≤ 9223372036854775807) (h : ∀ (j : Nat) (v : Value), (nums .u8 id)[j]? = some v → W.cell? (ad.add j) = some v) : (convert 27 9 (.slice (some ad) n n)).run Tryd.prog W = .ok (.string (S id)) W :=
  conv_row hn (cells_row hl h) (Below.refl _ _)
theorem ids_flat {x : OM} {w : World} {Y : Option Addr} (h : Kd.C kId w Y x.ids.length x.ids) : ∀ i, i ≤ x.ids.length → (x.ids.take i).flatten.length = i * 32 := by
  have h32 : ∀ i, i < x.ids.length → (x.ids.getD i []).length = 32 := fun i hi => (at_id h hi).choose_spec.2.1
  intro i
  induction i with
  | zero => intro _; simp
  | succ i ih => intro hi; rw [takeG [] (by omega), List.flatten_append, List.length_append, ih (by omega), List.flatten_cons, List.flatten_nil, List.append_nil, h32 i (by omega)]; omega
theorem es_flat {x : OM} {w : World} {E : Option Addr} (h : Kd.C kE w E x.es.length x.es) (hnm : ∀ e ∈ x.es, e.nm.size ≤ 255) : ∀ i, i ≤ x.es.length → ((x.es.take i).map entB).flatten.length ≤ i * 300 := by
  have h32 : ∀ i, i < x.es.length → (x.es.getD i eNone).id.length = 32 := fun i hi => (at_e h hi).choose_spec.2.1
  intro i
  induction i with
  | zero => intro _; simp
  | succ i ih =>
    intro hi
    have h1 := ih (by omega)
    have h2 := hnm _ (memGet (d := eNone) (show i < x.es.length by omega))
    have h3 := h32 i (by omega)
    have h4 := (putNum_len ((x.es.getD i eNone).nm.size : Int)).1
    have h5 : (entB (x.es.getD i eNone)).length ≤ 300 := by
      unfold entB
      simp only [List.length_append, List.length_cons, List.length_nil, Str.bytesOf_length]
      omega
    rw [takeG eNone (by omega), List.map_append, List.flatten_append, List.length_append, List.map_cons, List.map_nil, List.flatten_cons, List.flatten_nil, List.append_nil]
    omega
section
variable {w : World} {x : OM} {cs : Array Value} {Y E : Option Addr} {yc ec : Nat}
/-- A string by its name. -/
theorem calls_named {f : Nat} {a : Array Value} {T X : ByteArray} {P : Program} (h : Calls P f a w fun e w' => e = .returned (.string X) ∧ Below w.heap.size w w') (hT : T = X) : Calls P f a w fun e w' => e = .returned (.string T) ∧ Below w.heap.size w w' := by rw [hT]; exact h
set_option maxRecDepth 100000 in
set_option maxHeartbeats 8000000 in
theorem rput_1 (hcs : RV cs x Y E yc ec) (hI : InR w x Y E) (h0 : errC x = 0) (hk : x.k = 1) :
    Calls Tryd.prog 31 #[.agg cs] w fun e w' => e = .returned (.tuple #[.string (S (putO x)), .int .i64 0]) ∧ Below w.heap.size w w' := by
  have HCS := Aside0.mk (And.intro hcs (And.intro hI h0))
  have HK := Aside0.mk hk
  obtain ⟨yl, hyl⟩ : ∃ k, k = x.ids.length := ⟨_, rfl⟩
  obtain ⟨el, hel⟩ : ∃ k, k = x.es.length := ⟨_, rfl⟩
  have HV := Aside0.mk (And.intro hyl hel)
  have hput : putO x = [(1 : Int)] ++ bodyO x := by unfold putO; rw [hk]; rfl
  obtain ⟨T0, hT0⟩ : ∃ T : ByteArray, T = S [(1 : Int)] := ⟨_, rfl⟩
  have hz0 : T0.size = 1 := by rw [hT0]; exact S_size _
  have HT0 := Aside0.mk hT0
  have hbl := ok_1 h0 hk
  have hbody : bodyO x = putNum x.b.length ++ x.b := by unfold bodyO; rw [if_pos hk]
  obtain ⟨T1, hT1⟩ : ∃ T : ByteArray, T = S (putNum x.b.length ++ x.b) := ⟨_, rfl⟩
  have hzT1 : T1.size ≤ 33000 := by rw [hT1, S_size, List.length_append]; have := (putNum_len x.b.length).1; omega
  have HT1 := Aside0.mk hT1
  have HP := Aside0.mk (show T0 ++ T1 = S (putO x) by rw [hT0, hT1, S_app, hput, hbody])
  have HBL := Aside0.mk hbl
  have f1 : (9223372036854775807 < T0.size + T1.size) = False := eq_false (by omega)
  clear hbl hbody hT1
  clear hcs hI h0 hk hyl hel hput hT0
  go_enter Tryd.func31, Tryd.ntmps31
  go_wp2_with (first
    | ((with_reducible refine gate_dst (N := 1) rfl ?_); refine box_event ?hg (N := 1) ?hd (cs := cs) (t := 63) ?hr ?_; (case hd => rfl); (case hg => rfl); (case hr => exact exec_box _ _ _ rfl cs rfl); intro gb hgb w1 hbox hb1; have H1 := Aside0.mk (show RBx w1 gb x Y E yc ec ∧ Below w.heap.size w w1 from And.intro (RBx.of HCS.out.1 hbox) hb1); clear hbox hb1 hgb)
    | ((with_reducible refine gate_dst (N := 9) rfl ?_); refine Kd.event_run rfl (v := .agg cs) (w1 := w1) ?hr ?_; (case hr => exact H1.out.1.load HCS.out.1 (.tmp 1) rfl rfl))
    | (go_at_call 34; go_loud (have hx := rocheck_calls (w := w1) HCS.out.1 (HCS.out.2.1.below H1.out.2); rw [HCS.out.2.2] at hx; refine hx.mono ?_; clear hx; rintro e w2 ⟨rfl, hb2⟩; have H2 := Aside0.mk (show RBx w2 gb x Y E yc ec ∧ Below w.heap.size w w2 from And.intro (H1.out.1.below hb2) (below_step H1.out.2 hb2)); clear hb2; (try clear a0 a1 a2 a3 a4 a5); obtain ⟨a0, a1, a2, a3, a4, a5⟩ := H2.out.1.cells; rw [HK.out] at a0; rw [← HV.out.1] at a3; rw [← HV.out.2] at a4))
    | ((with_reducible refine gate_dst (N := 16) rfl ?_); go_loud (refine Kd.R_lit (Kd.int .u8) _ 5 ?hg (N := 16) ?hd (xs := ([1] : List Int)) (inner := [.int .u8 1]) (ok := fun k => True) (okp := fun _ => False) ?hr ?hp (fun _ hk => hk.elim) trivial (Below.refl _ _) (Nat.le_refl _) (by decide) ?_; (case hd => rfl); (case hg => rfl); (case hr => first | (go_simp; done) | (go_simp; rfl)); (case hp => exact Reps.one (show Kd.M (Kd.int .u8) _ _ _ 1 [.int .u8 1] from rfl) (Reps.none _ _)); intro v3 w3 ho3 hb3 hg3 hnew3; have hcv : (convert 27 9 v3).run Tryd.prog w3 = .ok (.string T0) w3 := (by rw [HT0.out]; exact row_conv (fun z hz => by simp at hz; omega) ho3); have H3 := Aside0.mk (show RBx w3 gb x Y E yc ec ∧ Below w.heap.size w w3 from And.intro (H2.out.1.below hb3) (below_step H2.out.2 hb3)); clear ho3 hb3 hg3 hnew3; (try clear a0 a1 a2 a3 a4 a5); obtain ⟨a0, a1, a2, a3, a4, a5⟩ := H3.out.1.cells; rw [HK.out] at a0; rw [← HV.out.1] at a3; rw [← HV.out.2] at a4))
    | (go_at_call 44; go_loud (refine (calls_named (ref_with (w := w3) x.b (by have := HBL.out; omega)) HT1.out).mono ?_; rintro e w4 ⟨rfl, hb4⟩; have H4 := Aside0.mk (show RBx w4 gb x Y E yc ec ∧ Below w.heap.size w w4 from And.intro (H3.out.1.below hb4) (below_step H3.out.2 hb4)); clear hb4; (try clear a0 a1 a2 a3 a4 a5); obtain ⟨a0, a1, a2, a3, a4, a5⟩ := H4.out.1.cells; rw [HK.out] at a0; rw [← HV.out.1] at a3; rw [← HV.out.2] at a4)))
  go_ret2
  exact ⟨by rw [← HP.out]; rfl, H4.out.2⟩
set_option maxRecDepth 100000 in
set_option maxHeartbeats 8000000 in
theorem rput_2 (hcs : RV cs x Y E yc ec) (hI : InR w x Y E) (h0 : errC x = 0) (hk : x.k = 2) :
    Calls Tryd.prog 31 #[.agg cs] w fun e w' => e = .returned (.tuple #[.string (S (putO x)), .int .i64 0]) ∧ Below w.heap.size w w' := by
  have HCS := Aside0.mk (And.intro hcs (And.intro hI h0))
  have HK := Aside0.mk hk
  obtain ⟨yl, hyl⟩ : ∃ k, k = x.ids.length := ⟨_, rfl⟩
  obtain ⟨el, hel⟩ : ∃ k, k = x.es.length := ⟨_, rfl⟩
  have HV := Aside0.mk (And.intro hyl hel)
  have hput : putO x = [(2 : Int)] ++ bodyO x := by unfold putO; rw [hk]; rfl
  obtain ⟨T0, hT0⟩ : ∃ T : ByteArray, T = S [(2 : Int)] := ⟨_, rfl⟩
  have hz0 : T0.size = 1 := by rw [hT0]; exact S_size _
  have HT0 := Aside0.mk hT0
  have hbl := ok_2 h0 hk
  have hbody : bodyO x = putNum x.n ++ putNum x.ids.length ++ x.ids.flatten := by unfold bodyO; rw [if_neg (by omega), if_pos hk]
  obtain ⟨T1, hT1⟩ : ∃ T : ByteArray, T = S (putNum x.n) := ⟨_, rfl⟩
  have hzT1 : T1.size ≤ 10 := by rw [hT1, S_size]; exact (putNum_len x.n).1
  obtain ⟨T2, hT2⟩ : ∃ T : ByteArray, T = S (putNum (yl : Int)) := ⟨_, rfl⟩
  have hzT2 : T2.size ≤ 10 := by rw [hT2, S_size]; exact (putNum_len yl).1
  have HT1 := Aside0.mk hT1
  have HT2 := Aside0.mk hT2
  obtain ⟨pre, hpre⟩ : ∃ p, p = [(2 : Int)] ++ putNum x.n ++ putNum (yl : Int) := ⟨_, rfl⟩
  have HPL := Aside0.mk (show pre.length ≤ 30 from by rw [hpre, List.length_append, List.length_append]; have := (putNum_len x.n).1; have := (putNum_len yl).1; simp; omega)
  have HP0 := Aside0.mk (show T0 ++ T1 ++ T2 = S pre by rw [hT0, hT1, hT2, S_app, S_app, hpre])
  have HP := Aside0.mk (show putO x = pre ++ x.ids.flatten by rw [hput, hbody, hpre, hyl]; simp only [List.append_assoc])
  have HFL := Aside0.mk (show ∀ i, i ≤ yl → (x.ids.take i).flatten.length = i * 32 by rw [hyl]; exact ids_flat hI.yC)
  have hy1000 : yl ≤ 1000 := by omega
  have HYL := Aside0.mk hy1000
  have hwy : IntKind.u64.wrap (yl : Int) = yl := wraps_u64 _ (by omega) (by omega)
  have f1 : (9223372036854775807 < T0.size + T1.size) = False := eq_false (by omega)
  have f2 : (9223372036854775807 < (T0 ++ T1).size + T2.size) = False := eq_false (by rw [ByteArray.size_append]; omega)
  clear hbl hbody hT1 hT2 hpre
  clear hcs hI h0 hk hyl hel hput hT0
  go_enter Tryd.func31, Tryd.ntmps31
  go_wp2_with (first
    | ((with_reducible refine gate_dst (N := 1) rfl ?_); refine box_event ?hg (N := 1) ?hd (cs := cs) (t := 63) ?hr ?_; (case hd => rfl); (case hg => rfl); (case hr => exact exec_box _ _ _ rfl cs rfl); intro gb hgb w1 hbox hb1; have H1 := Aside0.mk (show RBx w1 gb x Y E yc ec ∧ Below w.heap.size w w1 from And.intro (RBx.of HCS.out.1 hbox) hb1); clear hbox hb1 hgb)
    | ((with_reducible refine gate_dst (N := 9) rfl ?_); refine Kd.event_run rfl (v := .agg cs) (w1 := w1) ?hr ?_; (case hr => exact H1.out.1.load HCS.out.1 (.tmp 1) rfl rfl))
    | (go_at_call 34; go_loud (have hx := rocheck_calls (w := w1) HCS.out.1 (HCS.out.2.1.below H1.out.2); rw [HCS.out.2.2] at hx; refine hx.mono ?_; clear hx; rintro e w2 ⟨rfl, hb2⟩; have H2 := Aside0.mk (show RBx w2 gb x Y E yc ec ∧ Below w.heap.size w w2 from And.intro (H1.out.1.below hb2) (below_step H1.out.2 hb2)); clear hb2; (try clear a0 a1 a2 a3 a4 a5); obtain ⟨a0, a1, a2, a3, a4, a5⟩ := H2.out.1.cells; rw [HK.out] at a0; rw [← HV.out.1] at a3; rw [← HV.out.2] at a4))
    | ((with_reducible refine gate_dst (N := 16) rfl ?_); go_loud (refine Kd.R_lit (Kd.int .u8) _ 5 ?hg (N := 16) ?hd (xs := ([2] : List Int)) (inner := [.int .u8 2]) (ok := fun k => True) (okp := fun _ => False) ?hr ?hp (fun _ hk => hk.elim) trivial (Below.refl _ _) (Nat.le_refl _) (by decide) ?_; (case hd => rfl); (case hg => rfl); (case hr => first | (go_simp; done) | (go_simp; rfl)); (case hp => exact Reps.one (show Kd.M (Kd.int .u8) _ _ _ 2 [.int .u8 2] from rfl) (Reps.none _ _)); intro v3 w3 ho3 hb3 hg3 hnew3; have hcv : (convert 27 9 v3).run Tryd.prog w3 = .ok (.string T0) w3 := (by rw [HT0.out]; exact row_conv (fun z hz => by simp at hz; omega) ho3); have H3 := Aside0.mk (show RBx w3 gb x Y E yc ec ∧ Below w.heap.size w w3 from And.intro (H2.out.1.below hb3) (below_step H2.out.2 hb3)); clear ho3 hb3 hg3 hnew3; (try clear a0 a1 a2 a3 a4 a5); obtain ⟨a0, a1, a2, a3, a4, a5⟩ := H3.out.1.cells; rw [HK.out] at a0; rw [← HV.out.1] at a3; rw [← HV.out.2] at a4))
    | (go_at_call 43; have _t := H4; go_loud (clear _t; refine (calls_named (ref_put (w := w4) (yl : Int) (by first | omega | exact HCS.out.2.1.n.1) (by first | omega | (have := HCS.out.2.1.n.2; omega))) HT2.out).mono ?_; rintro e w5 ⟨rfl, hb5⟩; have H5 := Aside0.mk (show RBx w5 gb x Y E yc ec ∧ Below w.heap.size w w5 from And.intro (H4.out.1.below hb5) (below_step H4.out.2 hb5)); clear hb5; (try clear a0 a1 a2 a3 a4 a5); obtain ⟨a0, a1, a2, a3, a4, a5⟩ := H5.out.1.cells; rw [HK.out] at a0; rw [← HV.out.1] at a3; rw [← HV.out.2] at a4))
    | (go_at_call 43; go_loud (refine (calls_named (ref_put (w := w3) x.n (by first | omega | exact HCS.out.2.1.n.1) (by first | omega | (have := HCS.out.2.1.n.2; omega))) HT1.out).mono ?_; rintro e w4 ⟨rfl, hb4⟩; have H4 := Aside0.mk (show RBx w4 gb x Y E yc ec ∧ Below w.heap.size w w4 from And.intro (H3.out.1.below hb4) (below_step H3.out.2 hb4)); clear hb4; (try clear a0 a1 a2 a3 a4 a5); obtain ⟨a0, a1, a2, a3, a4, a5⟩ := H4.out.1.cells; rw [HK.out] at a0; rw [← HV.out.1] at a3; rw [← HV.out.2] at a4)))
  clear a0 a1 a2 a3 a4 a5
  go_loopg [5, 8] yl (fun q v5 v8 wr => ∃ (i : Nat), v8 = .int .i64 i ∧ q + i = yl ∧ v5 = .string (S (pre ++ (x.ids.take i).flatten)) ∧ Aside0 (RBx wr gb x Y E yc ec ∧ Below w.heap.size w wr))
  case atStart => exact ⟨0, rfl, rfl, by rw [List.take_zero, List.flatten_nil, List.append_nil, ← HP0.out], H5⟩
  case round =>
    clear H1 H2 H3 H4 H5
    obtain ⟨i, rfl, hq, rfl, hI⟩ := hrel
    obtain ⟨a0, a1, a2, a3, a4, a5⟩ := hI.out.1.cells; rw [HK.out] at a0; rw [← HV.out.1] at a3; rw [← HV.out.2] at a4
    by_cases hlt : i < yl
    · have d2 : decide ((i : Int) < (yl : Int)) = true := decide_eq_true (by omega)
      have hil : i < x.ids.length := by have := HV.out.1; omega
      obtain ⟨ad, e0, h32, hcell⟩ := at_id HCS.out.2.1.yC hil
      cases e0
      obtain ⟨id, hid⟩ : ∃ id, id = x.ids.getD i [] := ⟨_, rfl⟩
      rw [← hid] at h32 hcell
      have hcv : (convert 27 9 (.slice (some (ad.add (i * 32))) 32 32)).run Tryd.prog wr = .ok (.string (S id)) wr := conv_at h32.symm (by omega) (fun j v hv => by
        have h := hcell j v hv
        rw [Go.Deep.add_add]
        exact (hI.out.2.cell (World.block_lt_of_cell? w _ h)).trans h)
      have p25 : (0 ≤ (i : Int)) = True := eq_true (by omega)
      have q25 : ((i : Int) < (yl : Int)) = True := eq_true (by omega)
      have HN := Aside0.mk (show S (pre ++ (x.ids.take i).flatten) ++ S id = S (pre ++ (x.ids.take (i + 1)).flatten) from by
        rw [S_app, takeG [] hil, ← hid, List.flatten_append, List.flatten_cons, List.flatten_nil, List.append_nil, List.append_assoc])
      have hsz : (S (pre ++ (x.ids.take i).flatten)).size + (S id).size ≤ 1000000 := by
        rw [S_size, S_size, List.length_append, HFL.out i (by omega)]
        have := HPL.out
        have := HYL.out
        omega
      obtain ⟨X0, hX0⟩ : ∃ X0, X0 = S (pre ++ (x.ids.take i).flatten) := ⟨_, rfl⟩
      obtain ⟨X1, hX1⟩ : ∃ X1, X1 = S id := ⟨_, rfl⟩
      rw [← hX0, ← hX1] at HN hsz
      rw [← hX0]
      rw [← hX1] at hcv
      have f8 : (9223372036854775807 < X0.size + X1.size) = False := eq_false (by omega)
      clear hid h32 hcell hX0 hX1 hsz
      go_wp2
      go_roundg (yl - (i + 1))
      case measure => omega
      case rel => exact ⟨i + 1, by go_num, by omega, congrArg Value.string HN.out, hI⟩
    · have d2 : decide ((i : Int) < (yl : Int)) = false := decide_eq_false (by omega)
      have HL := Aside0.mk (show S (pre ++ (x.ids.take i).flatten) = S (putO x) by rw [HP.out, List.take_of_length_le (by have := HV.out.1; omega)])
      go_wp2
      go_ret2
      exact ⟨by rw [← HL.out]; rfl, hI.out.2⟩
set_option maxRecDepth 100000 in
set_option maxHeartbeats 8000000 in
theorem rput_4 (hcs : RV cs x Y E yc ec) (hI : InR w x Y E) (h0 : errC x = 0) (hk : x.k = 4) :
    Calls Tryd.prog 31 #[.agg cs] w fun e w' => e = .returned (.tuple #[.string (S (putO x)), .int .i64 0]) ∧ Below w.heap.size w w' := by
  have HCS := Aside0.mk (And.intro hcs (And.intro hI h0))
  have HK := Aside0.mk hk
  obtain ⟨yl, hyl⟩ : ∃ k, k = x.ids.length := ⟨_, rfl⟩
  obtain ⟨el, hel⟩ : ∃ k, k = x.es.length := ⟨_, rfl⟩
  have HV := Aside0.mk (And.intro hyl hel)
  have hput : putO x = [(4 : Int)] ++ bodyO x := by unfold putO; rw [hk]; rfl
  obtain ⟨T0, hT0⟩ : ∃ T : ByteArray, T = S [(4 : Int)] := ⟨_, rfl⟩
  have hz0 : T0.size = 1 := by rw [hT0]; exact S_size _
  have HT0 := Aside0.mk hT0
  obtain ⟨hbl, hsl⟩ := ok_4 h0 hk
  have hbody : bodyO x = putNum x.n ++ x.ids.flatten ++ (putNum x.s.size ++ bytesOf x.s) := by unfold bodyO; rw [if_neg (by omega), if_neg (by omega), if_neg (by omega)]
  obtain ⟨T1, hT1⟩ : ∃ T : ByteArray, T = S (putNum x.n) := ⟨_, rfl⟩
  have hzT1 : T1.size ≤ 10 := by rw [hT1, S_size]; exact (putNum_len x.n).1
  obtain ⟨T2, hT2⟩ : ∃ T : ByteArray, T = S (putNum x.s.size ++ bytesOf x.s) := ⟨_, rfl⟩
  have hzT2 : T2.size ≤ 300 := by rw [hT2, S_size, List.length_append, Str.bytesOf_length]; have := (putNum_len x.s.size).1; omega
  have HT1 := Aside0.mk hT1
  have HT2 := Aside0.mk hT2
  have HZ2 := Aside0.mk hzT2
  have HSL := Aside0.mk hsl
  obtain ⟨pre, hpre⟩ : ∃ p, p = [(4 : Int)] ++ putNum x.n := ⟨_, rfl⟩
  have HPL := Aside0.mk (show pre.length ≤ 30 from by rw [hpre, List.length_append]; have := (putNum_len x.n).1; simp; omega)
  have HP0 := Aside0.mk (show T0 ++ T1 = S pre by rw [hT0, hT1, S_app, hpre])
  have HP := Aside0.mk (show S (putO x) = S (pre ++ x.ids.flatten) ++ T2 by rw [hT2, S_app, hput, hbody, hpre]; simp only [List.append_assoc])
  have HFL := Aside0.mk (show ∀ i, i ≤ yl → (x.ids.take i).flatten.length = i * 32 by rw [hyl]; exact ids_flat hI.yC)
  have hy1000 : yl ≤ 1000 := by omega
  have HYL := Aside0.mk hy1000
  have f1 : (9223372036854775807 < T0.size + T1.size) = False := eq_false (by omega)
  clear hbl hbody hT1 hT2 hpre hsl
  clear hcs hI h0 hk hyl hel hput hT0
  go_enter Tryd.func31, Tryd.ntmps31
  go_wp2_with (first
    | ((with_reducible refine gate_dst (N := 1) rfl ?_); refine box_event ?hg (N := 1) ?hd (cs := cs) (t := 63) ?hr ?_; (case hd => rfl); (case hg => rfl); (case hr => exact exec_box _ _ _ rfl cs rfl); intro gb hgb w1 hbox hb1; have H1 := Aside0.mk (show RBx w1 gb x Y E yc ec ∧ Below w.heap.size w w1 from And.intro (RBx.of HCS.out.1 hbox) hb1); clear hbox hb1 hgb)
    | ((with_reducible refine gate_dst (N := 9) rfl ?_); refine Kd.event_run rfl (v := .agg cs) (w1 := w1) ?hr ?_; (case hr => exact H1.out.1.load HCS.out.1 (.tmp 1) rfl rfl))
    | (go_at_call 34; go_loud (have hx := rocheck_calls (w := w1) HCS.out.1 (HCS.out.2.1.below H1.out.2); rw [HCS.out.2.2] at hx; refine hx.mono ?_; clear hx; rintro e w2 ⟨rfl, hb2⟩; have H2 := Aside0.mk (show RBx w2 gb x Y E yc ec ∧ Below w.heap.size w w2 from And.intro (H1.out.1.below hb2) (below_step H1.out.2 hb2)); clear hb2; (try clear a0 a1 a2 a3 a4 a5); obtain ⟨a0, a1, a2, a3, a4, a5⟩ := H2.out.1.cells; rw [HK.out] at a0; rw [← HV.out.1] at a3; rw [← HV.out.2] at a4))
    | ((with_reducible refine gate_dst (N := 16) rfl ?_); go_loud (refine Kd.R_lit (Kd.int .u8) _ 5 ?hg (N := 16) ?hd (xs := ([4] : List Int)) (inner := [.int .u8 4]) (ok := fun k => True) (okp := fun _ => False) ?hr ?hp (fun _ hk => hk.elim) trivial (Below.refl _ _) (Nat.le_refl _) (by decide) ?_; (case hd => rfl); (case hg => rfl); (case hr => first | (go_simp; done) | (go_simp; rfl)); (case hp => exact Reps.one (show Kd.M (Kd.int .u8) _ _ _ 4 [.int .u8 4] from rfl) (Reps.none _ _)); intro v3 w3 ho3 hb3 hg3 hnew3; have hcv : (convert 27 9 v3).run Tryd.prog w3 = .ok (.string T0) w3 := (by rw [HT0.out]; exact row_conv (fun z hz => by simp at hz; omega) ho3); have H3 := Aside0.mk (show RBx w3 gb x Y E yc ec ∧ Below w.heap.size w w3 from And.intro (H2.out.1.below hb3) (below_step H2.out.2 hb3)); clear ho3 hb3 hg3 hnew3; (try clear a0 a1 a2 a3 a4 a5); obtain ⟨a0, a1, a2, a3, a4, a5⟩ := H3.out.1.cells; rw [HK.out] at a0; rw [← HV.out.1] at a3; rw [← HV.out.2] at a4))
    | (go_at_call 43; go_loud (refine (calls_named (ref_put (w := w3) x.n (by first | omega | exact HCS.out.2.1.n.1) (by first | omega | (have := HCS.out.2.1.n.2; omega))) HT1.out).mono ?_; rintro e w4 ⟨rfl, hb4⟩; have H4 := Aside0.mk (show RBx w4 gb x Y E yc ec ∧ Below w.heap.size w w4 from And.intro (H3.out.1.below hb4) (below_step H3.out.2 hb4)); clear hb4; (try clear a0 a1 a2 a3 a4 a5); obtain ⟨a0, a1, a2, a3, a4, a5⟩ := H4.out.1.cells; rw [HK.out] at a0; rw [← HV.out.1] at a3; rw [← HV.out.2] at a4)))
  clear a0 a1 a2 a3 a4 a5
  go_loopg [5, 8] yl (fun q v5 v8 wr => ∃ (i : Nat), v8 = .int .i64 i ∧ q + i = yl ∧ v5 = .string (S (pre ++ (x.ids.take i).flatten)) ∧ Aside0 (RBx wr gb x Y E yc ec ∧ Below w.heap.size w wr))
  case atStart => exact ⟨0, rfl, rfl, by rw [List.take_zero, List.flatten_nil, List.append_nil, ← HP0.out], H4⟩
  case round =>
    clear H1 H2 H3 H4
    obtain ⟨i, rfl, hq, rfl, hI⟩ := hrel
    obtain ⟨a0, a1, a2, a3, a4, a5⟩ := hI.out.1.cells; rw [HK.out] at a0; rw [← HV.out.1] at a3; rw [← HV.out.2] at a4
    by_cases hlt : i < yl
    · have d2 : decide ((i : Int) < (yl : Int)) = true := decide_eq_true (by omega)
      have hil : i < x.ids.length := by have := HV.out.1; omega
      obtain ⟨ad, e0, h32, hcell⟩ := at_id HCS.out.2.1.yC hil
      cases e0
      obtain ⟨id, hid⟩ : ∃ id, id = x.ids.getD i [] := ⟨_, rfl⟩
      rw [← hid] at h32 hcell
      have hcv : (convert 27 9 (.slice (some (ad.add (i * 32))) 32 32)).run Tryd.prog wr = .ok (.string (S id)) wr := conv_at h32.symm (by omega) (fun j v hv => by
        have h := hcell j v hv
        rw [Go.Deep.add_add]
        exact (hI.out.2.cell (World.block_lt_of_cell? w _ h)).trans h)
      have p25 : (0 ≤ (i : Int)) = True := eq_true (by omega)
      have q25 : ((i : Int) < (yl : Int)) = True := eq_true (by omega)
      have HN := Aside0.mk (show S (pre ++ (x.ids.take i).flatten) ++ S id = S (pre ++ (x.ids.take (i + 1)).flatten) from by
        rw [S_app, takeG [] hil, ← hid, List.flatten_append, List.flatten_cons, List.flatten_nil, List.append_nil, List.append_assoc])
      have hsz : (S (pre ++ (x.ids.take i).flatten)).size + (S id).size ≤ 1000000 := by
        rw [S_size, S_size, List.length_append, HFL.out i (by omega)]
        have := HPL.out
        have := HYL.out
        omega
      obtain ⟨X0, hX0⟩ : ∃ X0, X0 = S (pre ++ (x.ids.take i).flatten) := ⟨_, rfl⟩
      obtain ⟨X1, hX1⟩ : ∃ X1, X1 = S id := ⟨_, rfl⟩
      rw [← hX0, ← hX1] at HN hsz
      rw [← hX0]
      rw [← hX1] at hcv
      have f8 : (9223372036854775807 < X0.size + X1.size) = False := eq_false (by omega)
      clear hid h32 hcell hX0 hX1 hsz
      go_wp2
      go_roundg (yl - (i + 1))
      case measure => omega
      case rel => exact ⟨i + 1, by go_num, by omega, congrArg Value.string HN.out, hI⟩
    · have d2 : decide ((i : Int) < (yl : Int)) = false := decide_eq_false (by omega)
      have hlx : (x.ids.take i).flatten = x.ids.flatten := by rw [List.take_of_length_le (by have := HV.out.1; omega)]
      have hsz : (S (pre ++ (x.ids.take i).flatten)).size ≤ 100000 := by
        rw [S_size, List.length_append, HFL.out i (by omega)]
        have := HPL.out
        have := HYL.out
        omega
      rw [hlx] at hsz ⊢
      obtain ⟨X0, hX0⟩ : ∃ X0, X0 = S (pre ++ x.ids.flatten) := ⟨_, rfl⟩
      have HL := Aside0.mk (show S (putO x) = X0 ++ T2 by rw [HP.out, hX0])
      rw [← hX0] at hsz ⊢
      have f8 : (9223372036854775807 < X0.size + T2.size) = False := eq_false (by have := HZ2.out; omega)
      clear hlx hsz hX0
      have HW : Aside0 (Calls Tryd.prog 44 #[.string x.s] wr fun e w' => e = .returned (.string T2) ∧ Below wr.heap.size wr w') := ⟨calls_named (with_calls x.s (by have := HSL.out; omega) wr) HT2.out⟩
      go_wp2_with (go_at_call 44; go_loud (refine HW.out.mono ?_; rintro e w9 ⟨rfl, hb9⟩; have H9 := Aside0.mk (below_step hI.out.2 hb9); clear hb9))
      go_ret2
      exact ⟨by rw [HL.out]; rfl, H9.out⟩
set_option maxRecDepth 100000 in
set_option maxHeartbeats 8000000 in
theorem rput_3 (hcs : RV cs x Y E yc ec) (hI : InR w x Y E) (h0 : errC x = 0) (hk : x.k = 3) :
    Calls Tryd.prog 31 #[.agg cs] w fun e w' => e = .returned (.tuple #[.string (S (putO x)), .int .i64 0]) ∧ Below w.heap.size w w' := by
  have HCS := Aside0.mk (And.intro hcs (And.intro hI h0))
  have HK := Aside0.mk hk
  obtain ⟨yl, hyl⟩ : ∃ k, k = x.ids.length := ⟨_, rfl⟩
  obtain ⟨el, hel⟩ : ∃ k, k = x.es.length := ⟨_, rfl⟩
  have HV := Aside0.mk (And.intro hyl hel)
  have hput : putO x = [(3 : Int)] ++ bodyO x := by unfold putO; rw [hk]; rfl
  obtain ⟨T0, hT0⟩ : ∃ T : ByteArray, T = S [(3 : Int)] := ⟨_, rfl⟩
  have hz0 : T0.size = 1 := by rw [hT0]; exact S_size _
  have HT0 := Aside0.mk hT0
  obtain ⟨hbl, hnm⟩ := ok_3 h0 hk
  have hbody : bodyO x = putNum x.es.length ++ (x.es.map entB).flatten := by unfold bodyO; rw [if_neg (by omega), if_neg (by omega), if_pos hk]
  obtain ⟨T1, hT1⟩ : ∃ T : ByteArray, T = S (putNum (el : Int)) := ⟨_, rfl⟩
  have hzT1 : T1.size ≤ 10 := by rw [hT1, S_size]; exact (putNum_len el).1
  have HT1 := Aside0.mk hT1
  obtain ⟨pre, hpre⟩ : ∃ p, p = [(3 : Int)] ++ putNum (el : Int) := ⟨_, rfl⟩
  have HPL := Aside0.mk (show pre.length ≤ 30 from by rw [hpre, List.length_append]; have := (putNum_len el).1; simp; omega)
  have HP0 := Aside0.mk (show T0 ++ T1 = S pre by rw [hT0, hT1, S_app, hpre])
  have HP := Aside0.mk (show putO x = pre ++ (x.es.map entB).flatten by rw [hput, hbody, hpre, hel]; simp only [List.append_assoc])
  have HFL := Aside0.mk (show ∀ i, i ≤ el → ((x.es.take i).map entB).flatten.length ≤ i * 300 by rw [hel]; exact es_flat hI.eC hnm)
  have hy500 : el ≤ 500 := by omega
  have HYL := Aside0.mk hy500
  have HNM := Aside0.mk hnm
  have hwy : IntKind.u64.wrap (el : Int) = el := wraps_u64 _ (by omega) (by omega)
  have f1 : (9223372036854775807 < T0.size + T1.size) = False := eq_false (by omega)
  clear hbl hbody hT1 hpre hnm
  clear hcs hI h0 hk hyl hel hput hT0
  go_enter Tryd.func31, Tryd.ntmps31
  go_wp2_with (first
    | ((with_reducible refine gate_dst (N := 1) rfl ?_); refine box_event ?hg (N := 1) ?hd (cs := cs) (t := 63) ?hr ?_; (case hd => rfl); (case hg => rfl); (case hr => exact exec_box _ _ _ rfl cs rfl); intro gb hgb w1 hbox hb1; have H1 := Aside0.mk (show RBx w1 gb x Y E yc ec ∧ Below w.heap.size w w1 from And.intro (RBx.of HCS.out.1 hbox) hb1); clear hbox hb1 hgb)
    | ((with_reducible refine gate_dst (N := 9) rfl ?_); refine Kd.event_run rfl (v := .agg cs) (w1 := w1) ?hr ?_; (case hr => exact H1.out.1.load HCS.out.1 (.tmp 1) rfl rfl))
    | (go_at_call 34; go_loud (have hx := rocheck_calls (w := w1) HCS.out.1 (HCS.out.2.1.below H1.out.2); rw [HCS.out.2.2] at hx; refine hx.mono ?_; clear hx; rintro e w2 ⟨rfl, hb2⟩; have H2 := Aside0.mk (show RBx w2 gb x Y E yc ec ∧ Below w.heap.size w w2 from And.intro (H1.out.1.below hb2) (below_step H1.out.2 hb2)); clear hb2; (try clear a0 a1 a2 a3 a4 a5); obtain ⟨a0, a1, a2, a3, a4, a5⟩ := H2.out.1.cells; rw [HK.out] at a0; rw [← HV.out.1] at a3; rw [← HV.out.2] at a4))
    | ((with_reducible refine gate_dst (N := 16) rfl ?_); go_loud (refine Kd.R_lit (Kd.int .u8) _ 5 ?hg (N := 16) ?hd (xs := ([3] : List Int)) (inner := [.int .u8 3]) (ok := fun k => True) (okp := fun _ => False) ?hr ?hp (fun _ hk => hk.elim) trivial (Below.refl _ _) (Nat.le_refl _) (by decide) ?_; (case hd => rfl); (case hg => rfl); (case hr => first | (go_simp; done) | (go_simp; rfl)); (case hp => exact Reps.one (show Kd.M (Kd.int .u8) _ _ _ 3 [.int .u8 3] from rfl) (Reps.none _ _)); intro v3 w3 ho3 hb3 hg3 hnew3; have hcv : (convert 27 9 v3).run Tryd.prog w3 = .ok (.string T0) w3 := (by rw [HT0.out]; exact row_conv (fun z hz => by simp at hz; omega) ho3); have H3 := Aside0.mk (show RBx w3 gb x Y E yc ec ∧ Below w.heap.size w w3 from And.intro (H2.out.1.below hb3) (below_step H2.out.2 hb3)); clear ho3 hb3 hg3 hnew3; (try clear a0 a1 a2 a3 a4 a5); obtain ⟨a0, a1, a2, a3, a4, a5⟩ := H3.out.1.cells; rw [HK.out] at a0; rw [← HV.out.1] at a3; rw [← HV.out.2] at a4))
    | (go_at_call 43; go_loud (refine (calls_named (ref_put (w := w3) (el : Int) (by first | omega | exact HCS.out.2.1.n.1) (by first | omega | (have := HCS.out.2.1.n.2; omega))) HT1.out).mono ?_; rintro e w4 ⟨rfl, hb4⟩; have H4 := Aside0.mk (show RBx w4 gb x Y E yc ec ∧ Below w.heap.size w w4 from And.intro (H3.out.1.below hb4) (below_step H3.out.2 hb4)); clear hb4; (try clear a0 a1 a2 a3 a4 a5); obtain ⟨a0, a1, a2, a3, a4, a5⟩ := H4.out.1.cells; rw [HK.out] at a0; rw [← HV.out.1] at a3; rw [← HV.out.2] at a4)))
  clear a0 a1 a2 a3 a4 a5
  go_loopg [5, 6] el (fun q v5 v6 wr => ∃ (i : Nat), v6 = .int .i64 i ∧ q + i = el ∧ v5 = .string (S (pre ++ ((x.es.take i).map entB).flatten)) ∧ Aside0 (RBx wr gb x Y E yc ec ∧ Below w.heap.size w wr))
  case atStart => exact ⟨0, rfl, rfl, by rw [List.take_zero, List.map_nil, List.flatten_nil, List.append_nil, ← HP0.out], H4⟩
  case round =>
    clear H1 H2 H3 H4
    obtain ⟨i, rfl, hq, rfl, hI⟩ := hrel
    obtain ⟨_, _, _, _, a4, _⟩ := hI.out.1.cells
    rw [← HV.out.2] at a4
    by_cases hlt : i < el
    · have d2 : decide ((i : Int) < (el : Int)) = true := decide_eq_true (by omega)
      have hil : i < x.es.length := by have := HV.out.2; omega
      obtain ⟨ad, e0, h32, hcell, _⟩ := at_e HCS.out.2.1.eC hil
      cases e0
      have hnm := HNM.out _ (memGet (d := eNone) hil)
      have hby := HCS.out.2.1.be _ (memGet (d := eNone) hil)
      obtain ⟨en, hen⟩ : ∃ en, en = x.es.getD i eNone := ⟨_, rfl⟩
      have hnx := takeG eNone hil
      rw [← hen] at h32 hcell hnm hby hnx
      have p25 : (0 ≤ (i : Int)) = True := eq_true (by omega)
      have q25 : ((i : Int) < (el : Int)) = True := eq_true (by omega)
      have HZ := Aside0.mk (show (∀ (j : Nat) (v : Value), (ecells en)[j]? = some v → wr.cell? ((ad.add (i * 34)).add j) = some v) ∧ en.id.length = 32 from ⟨fun j v hv => by
        have h := hcell j v hv
        rw [Go.Deep.add_add]
        exact (hI.out.2.cell (World.block_lt_of_cell? w _ h)).trans h, h32⟩)
      obtain ⟨X0, hX0⟩ : ∃ X0, X0 = S (pre ++ ((x.es.take i).map entB).flatten) := ⟨_, rfl⟩
      obtain ⟨XW, hXW⟩ : ∃ X0, X0 = S (putNum en.nm.size ++ bytesOf en.nm) := ⟨_, rfl⟩
      obtain ⟨XB, hXB⟩ : ∃ X0, X0 = S [bit en.d] := ⟨_, rfl⟩
      obtain ⟨XI, hXI⟩ : ∃ X0, X0 = S en.id := ⟨_, rfl⟩
      have hz0 : X0.size ≤ 200000 := by rw [hX0, S_size, List.length_append]; have := HFL.out i (by omega); have := HPL.out; omega
      have hz1 : XW.size ≤ 300 := by rw [hXW, S_size, List.length_append, Str.bytesOf_length]; have := (putNum_len en.nm.size).1; omega
      have hz2 : XB.size = 1 := by rw [hXB, S_size]; rfl
      have hz3 : XI.size = 32 := by rw [hXI, S_size, h32]
      have HN := Aside0.mk (show X0 ++ (XW ++ XB ++ XI) = S (pre ++ ((x.es.take (i + 1)).map entB).flatten) from by
        rw [hX0, hXW, hXB, hXI, S_app, S_app, S_app, hnx]
        congr 1
        unfold entB
        simp only [List.map_append, List.flatten_append, List.map_cons, List.map_nil, List.flatten_cons, List.flatten_nil, List.append_nil, List.append_assoc])
      have HW : Aside0 (∀ W, Calls Tryd.prog 44 #[.string en.nm] W fun e w' => e = .returned (.string XW) ∧ Below W.heap.size W w') := ⟨fun W => calls_named (with_calls en.nm (by omega) W) hXW⟩
      have HY : Aside0 (∀ W, Calls Tryd.prog 62 #[.bool en.d] W fun e w' => e = .returned (.string XB) ∧ Below W.heap.size W w') := ⟨fun W => calls_named (yes_calls en.d W) hXB⟩
      have HXI := Aside0.mk hXI
      rw [← hX0]
      have g1 : (9223372036854775807 < XW.size + XB.size) = False := eq_false (by omega)
      have g2 : (9223372036854775807 < (XW ++ XB).size + XI.size) = False := eq_false (by rw [ByteArray.size_append]; omega)
      have g3 : (9223372036854775807 < X0.size + (XW ++ XB ++ XI).size) = False := eq_false (by rw [ByteArray.size_append, ByteArray.size_append]; omega)
      have g2b : (9223372036854775807 < XW.size + XB.size + XI.size) = False := eq_false (by omega)
      have g3b : (9223372036854775807 < X0.size + (XW.size + XB.size + XI.size)) = False := eq_false (by omega)
      have HG := Aside0.mk (And.intro g1 (And.intro g2 (And.intro g3 (And.intro g2b g3b))))
      clear hX0 hXW hXB hXI hz0 hz1 hz2 hz3 hen hnx h32 hcell hnm hby g1 g2 g3 g2b g3b f1
      go_upto_region 13 with (first
        | ((with_reducible refine gate_dst (N := 47) rfl ?_); refine Kd.event_run rfl (v := .agg (ecells en).toArray) (w1 := wr) ?hr ?_; (case hr => exact exec_load_any wr 111 (.tmp 46) rfl (ad.add (i * 34)) rfl (ecells en) _ HZ.out.1 Tryd.underlying111 rfl (by rw [ecells_len HZ.out.2]; kernel_rfl)))
        | ((with_reducible refine gate_dst (N := 7) rfl ?_); go_loud (refine Kd.event_run (v := .pointer (some ⟨wr.heap.size, 0, none⟩)) (w1 := wr.alloc (.cells ez34 111)) rfl ?hr ?_; (case hr => first | kernel_rfl | (go_simp; done) | (go_simp; rfl))))
        | ((with_reducible refine gate_store (ty := 111) (x := .tmp 7) (y := .tmp 47) rfl ?_); refine wpList_store_row rfl 111 (.tmp 7) (.tmp 47) rfl wr.heap.size (ecells en).toArray rfl rfl 111 ez34 (blk_new wr _) (by rw [List.size_toArray, ecells_len HZ.out.2]; kernel_rfl) (ecells_fit HZ.out.2).2.1 (ecells_fit HZ.out.2).2.2 ?_; go_loud (refine wpName (fun W5 hW5 => ?_); obtain ⟨g7, hg7⟩ : ∃ g, g = wr.heap.size := ⟨_, rfl⟩; have hb5 : Below wr.heap.size wr W5 := (by rw [hW5]; exact below_setRow (below_alloc (Below.refl _ _) _) (Nat.le_refl _) _); have hr5 : W5.heap[g7]? = some (.cells (ecells en).toArray 111 (0, 0)) := (by rw [hW5, hg7]; exact setRow_heap _ _ _ _ _ _ (blk_new wr _)); have H5 := Aside0.mk (show RBx W5 gb x Y (some ad) yc ec ∧ Below w.heap.size w W5 ∧ W5.heap[g7]? = some (.cells (ecells en).toArray 111 (0, 0)) from ⟨hI.out.1.below hb5, below_step hI.out.2 hb5, hr5⟩); rw [← hg7]; clear hW5 hb5 hr5 hg7)))
      obtain ⟨wd, hwd⟩ : ∃ z, z = W5.drew := ⟨_, rfl⟩
      have hbd : Below W5.heap.size W5 wd := by rw [hwd]; exact below_drew1 (Below.refl _ _)
      have HD := Aside0.mk (show RBx wd gb x Y (some ad) yc ec ∧ Below w.heap.size w wd ∧ wd.heap[g7]? = some (.cells (ecells en).toArray 111 (0, 0)) from ⟨H5.out.1.below hbd, below_step H5.out.2.1 hbd, (hbd.block _ (blk_lt H5.out.2.2)).trans H5.out.2.2⟩)
      have HS : Aside0 (∀ W, Below wd.heap.size wd W → W.cell? ⟨g7, 0, none⟩ = some (.string en.nm) ∧ W.cell? ⟨g7, 1, none⟩ = some (.bool en.d) ∧ (convert 27 9 (.slice (some ⟨g7, 2, none⟩) 32 32)).run Tryd.prog W = .ok (.string XI) W) := ⟨fun W hb => by
        have hg := (hb.block _ (blk_lt HD.out.2.2)).trans HD.out.2.2
        refine ⟨(blk_cell hg 0).trans rfl, (blk_cell hg 1).trans rfl, ?_⟩
        rw [HXI.out]
        exact conv_at HZ.out.2.symm (by have := HZ.out.2; omega) (fun j v hj => by rw [add_0, blk_cell hg, List.getElem?_toArray, Nat.add_comm]; exact hj)⟩
      clear hbd
      obtain ⟨g1, g2, g3, g2b, g3b⟩ := HG.out
      refine start_ (n := 14) (S := fun W => W.cell? ⟨g7, 0, none⟩ = some (.string en.nm) ∧ W.cell? ⟨g7, 1, none⟩ = some (.bool en.d) ∧ (convert 27 9 (.slice (some ⟨g7, 2, none⟩) 32 32)).run Tryd.prog W = .ok (.string XI) W) (ds := []) #[false, false, false, false, false, false, false, false, false, false, false, false, false, false] (by kernel_rfl) rfl (by kernel_rfl) (by rw [← hwd]; exact HS.out wd (Below.refl _ _)) (fun hHeld => ?_)
      rw [← hwd] at hHeld ⊢
      clear hwd
      refine pure_ (i := 0) (N := some 48) (v := ?_) (a' := ?_) #[true, false, false, false, false, false, false, false, false, false, false, false, false, false] rfl rfl (by kernel_rfl) (fun _ _ _ h => h) (Or.inl ⟨by rfl, ?_⟩) ?_ ?_
      rotate_left
      · intro w'
        go_simp
        with_reducible rfl
      rotate_left
      · simp only [Act.put, List.setIfInBounds_toArray, List.set_cons_zero, List.set_cons_succ, i64_w, i32_w]
        rfl
      refine pure_ (i := 1) (N := some 49) (v := ?_) (a' := ?_) #[true, true, false, false, false, false, false, false, false, false, false, false, false, false] rfl rfl (by kernel_rfl) (fun _ _ _ h => h) (Or.inl ⟨by rfl, ?_⟩) ?_ ?_
      rotate_left
      · intro w'
        go_simp
        with_reducible rfl
      rotate_left
      · simp only [Act.put, List.setIfInBounds_toArray, List.set_cons_zero, List.set_cons_succ, i64_w, i32_w]
        rfl
      refine pure_ (i := 4) (N := some 52) (v := ?_) (a' := ?_) #[true, true, false, false, true, false, false, false, false, false, false, false, false, false] rfl rfl (by kernel_rfl) (fun _ _ _ h => h) (Or.inl ⟨by rfl, ?_⟩) ?_ ?_
      rotate_left
      · intro w'
        go_simp
        with_reducible rfl
      rotate_left
      · simp only [Act.put, List.setIfInBounds_toArray, List.set_cons_zero, List.set_cons_succ, i64_w, i32_w]
        rfl
      refine pure_ (i := 8) (N := some 56) (v := ?_) (a' := ?_) #[true, true, false, false, true, false, false, false, true, false, false, false, false, false] rfl rfl (by kernel_rfl) (fun _ _ _ h => h) (Or.inl ⟨by rfl, ?_⟩) ?_ ?_
      rotate_left
      · intro w'
        go_simp
        with_reducible rfl
      rotate_left
      · simp only [Act.put, List.setIfInBounds_toArray, List.set_cons_zero, List.set_cons_succ, i64_w, i32_w]
        rfl
      refine pure_ (i := 9) (N := some 57) (v := ?_) (a' := ?_) #[true, true, false, false, true, false, false, false, true, true, false, false, false, false] rfl rfl (by kernel_rfl) (fun _ _ _ h => h) (Or.inl ⟨by rfl, ?_⟩) ?_ ?_
      rotate_left
      · intro w'
        go_simp
        with_reducible rfl
      rotate_left
      · simp only [Act.put, List.setIfInBounds_toArray, List.set_cons_zero, List.set_cons_succ, i64_w, i32_w]
        rfl
      refine take_ (i := 2) (N := some 50) (v := ?_) (a' := ?_) #[true, true, true, false, true, false, false, false, true, true, false, false, false, false] rfl rfl (by kernel_rfl) (fun _ _ _ h => h) (Or.inl ⟨by rfl, ?_⟩) hHeld ?_ ?_
      rotate_left
      · rintro w' ⟨s0, s1, s2⟩
        go_simp
        with_reducible rfl
      rotate_left
      · simp only [Act.put, List.setIfInBounds_toArray, List.set_cons_zero, List.set_cons_succ, i64_w, i32_w]
        rfl
      refine take_ (i := 5) (N := some 53) (v := ?_) (a' := ?_) #[true, true, true, false, true, true, false, false, true, true, false, false, false, false] rfl rfl (by kernel_rfl) (fun _ _ _ h => h) (Or.inl ⟨by rfl, ?_⟩) hHeld ?_ ?_
      rotate_left
      · rintro w' ⟨s0, s1, s2⟩
        go_simp
        with_reducible rfl
      rotate_left
      · simp only [Act.put, List.setIfInBounds_toArray, List.set_cons_zero, List.set_cons_succ, i64_w, i32_w]
        rfl
      refine take_ (i := 10) (N := some 58) (v := ?_) (a' := ?_) #[true, true, true, false, true, true, false, false, true, true, true, false, false, false] rfl rfl (by kernel_rfl) (fun _ _ _ h => h) (Or.inl ⟨by rfl, ?_⟩) hHeld ?_ ?_
      rotate_left
      · rintro w' ⟨s0, s1, s2⟩
        go_simp
        with_reducible rfl
      rotate_left
      · simp only [Act.put, List.setIfInBounds_toArray, List.set_cons_zero, List.set_cons_succ, i64_w, i32_w]
        rfl
      refine one_ (i := 3) (N := some 51) #[true, true, true, true, true, true, false, false, true, true, true, false, false, false] rfl rfl (by kernel_rfl) (by decide) (fun K hK => ?_)
      refine goes_ Tryd.func44 (by kernel_rfl) rfl #[.string en.nm] (by rfl) rfl rfl (by (try simp only [List.map_toArray, List.map_cons, List.map_nil]); first | rfl | (go_simp; done)) ?_
      refine (HW.out wd).mono ?_
      rintro e w6 ⟨rfl, hb6⟩
      refine ⟨_, rfl, ?_⟩
      have H6 := Aside0.mk hb6
      clear hb6
      refine hK.out _ _ (HS.out w6 H6.out) (fun hHeld => ?_)
      clear hK K
      refine norm_ (a' := ?_) ?_ ?_
      rotate_left
      · show Act.put _ (some 51) _ = _
        simp only [Act.put, List.setIfInBounds_toArray, List.set_cons_zero, List.set_cons_succ, i64_w, i32_w]
        rfl
      refine one_ (i := 6) (N := some 54) #[true, true, true, true, true, true, true, false, true, true, true, false, false, false] rfl rfl (by kernel_rfl) (by decide) (fun K hK => ?_)
      refine goes_ Tryd.func62 (by kernel_rfl) rfl #[.bool en.d] (by rfl) rfl rfl (by (try simp only [List.map_toArray, List.map_cons, List.map_nil]); first | rfl | (go_simp; done)) ?_
      refine (HY.out w6).mono ?_
      rintro e w7 ⟨rfl, hb7⟩
      refine ⟨_, rfl, ?_⟩
      have H7 := Aside0.mk (below_step H6.out hb7)
      clear hb7
      refine hK.out _ _ (HS.out w7 H7.out) (fun hHeld => ?_)
      clear hK K
      refine norm_ (a' := ?_) ?_ ?_
      rotate_left
      · show Act.put _ (some 54) _ = _
        simp only [Act.put, List.setIfInBounds_toArray, List.set_cons_zero, List.set_cons_succ, i64_w, i32_w]
        rfl
      refine pure_ (i := 7) (N := some 55) (v := ?_) (a' := ?_) #[true, true, true, true, true, true, true, true, true, true, true, false, false, false] rfl rfl (by kernel_rfl) (fun _ _ _ h => h) (Or.inl ⟨by rfl, ?_⟩) ?_ ?_
      rotate_left
      · intro w'
        go_simp
        with_reducible rfl
      rotate_left
      · simp only [Act.put, List.setIfInBounds_toArray, List.set_cons_zero, List.set_cons_succ, i64_w, i32_w]
        rfl
      refine pure_ (i := 11) (N := some 59) (v := ?_) (a' := ?_) #[true, true, true, true, true, true, true, true, true, true, true, true, false, false] rfl rfl (by kernel_rfl) (fun _ _ _ h => h) (Or.inl ⟨by rfl, ?_⟩) ?_ ?_
      rotate_left
      · intro w'
        go_simp
        with_reducible rfl
      rotate_left
      · simp only [Act.put, List.setIfInBounds_toArray, List.set_cons_zero, List.set_cons_succ, i64_w, i32_w]
        rfl
      refine pure_ (i := 12) (N := some 60) (v := ?_) (a' := ?_) #[true, true, true, true, true, true, true, true, true, true, true, true, true, false] rfl rfl (by kernel_rfl) (fun _ _ _ h => h) (Or.inl ⟨by rfl, ?_⟩) ?_ ?_
      rotate_left
      · intro w'
        go_simp
        with_reducible rfl
      rotate_left
      · simp only [Act.put, List.setIfInBounds_toArray, List.set_cons_zero, List.set_cons_succ, i64_w, i32_w]
        rfl
      refine pure_ (i := 13) (N := some 5) (v := ?_) (a' := ?_) #[true, true, true, true, true, true, true, true, true, true, true, true, true, true] rfl rfl (by kernel_rfl) (fun _ _ _ h => h) (Or.inl ⟨by rfl, ?_⟩) ?_ ?_
      rotate_left
      · intro w'
        go_simp
        with_reducible rfl
      rotate_left
      · simp only [Act.put, List.setIfInBounds_toArray, List.set_cons_zero, List.set_cons_succ, i64_w, i32_w]
        rfl
      refine done_ (by kernel_rfl) ?_
      have HF := Aside0.mk (show RBx w7 gb x Y (some ad) yc ec ∧ Below w.heap.size w w7 from ⟨HD.out.1.below H7.out, below_step HD.out.2.1 H7.out⟩)
      clear hHeld
      go_wp2
      go_roundg (el - (i + 1))
      case measure => omega
      case rel => exact ⟨i + 1, by go_num, by omega, congrArg Value.string HN.out, HF⟩
    · have d2 : decide ((i : Int) < (el : Int)) = false := decide_eq_false (by omega)
      have HL := Aside0.mk (show S (pre ++ ((x.es.take i).map entB).flatten) = S (putO x) by rw [HP.out, List.take_of_length_le (by have := HV.out.2; omega)])
      go_wp2
      go_ret2
      exact ⟨by rw [← HL.out]; rfl, hI.out.2⟩
set_option maxRecDepth 100000 in
set_option maxHeartbeats 8000000 in
theorem rput_no (hcs : RV cs x Y E yc ec) (hI : InR w x Y E) (h0 : errC x = 1) :
    Calls Tryd.prog 31 #[.agg cs] w fun e w' => e = .returned (.tuple #[.string ByteArray.empty, .int .i64 1]) ∧ Below w.heap.size w w' := by
  have HCS := Aside0.mk (And.intro hcs (And.intro hI h0))
  clear hcs hI h0
  go_enter Tryd.func31, Tryd.ntmps31
  go_wp2_with (first
    | ((with_reducible refine gate_dst (N := 1) rfl ?_); refine box_event ?hg (N := 1) ?hd (cs := cs) (t := 63) ?hr ?_; (case hd => rfl); (case hg => rfl); (case hr => exact exec_box _ _ _ rfl cs rfl); intro gb hgb w1 hbox hb1; have H1 := Aside0.mk (show RBx w1 gb x Y E yc ec ∧ Below w.heap.size w w1 from And.intro (RBx.of HCS.out.1 hbox) hb1); clear hbox hb1 hgb)
    | ((with_reducible refine gate_dst (N := 9) rfl ?_); refine Kd.event_run rfl (v := .agg cs) (w1 := w1) ?hr ?_; (case hr => exact H1.out.1.load HCS.out.1 (.tmp 1) rfl rfl))
    | (go_at_call 34; go_loud (have hx := rocheck_calls (w := w1) HCS.out.1 (HCS.out.2.1.below H1.out.2); rw [HCS.out.2.2] at hx; refine hx.mono ?_; clear hx; rintro e w2 ⟨rfl, hb2⟩; have H2 := Aside0.mk (below_step H1.out.2 hb2); clear hb2)))
  go_ret2
  exact ⟨rfl, H2.out⟩
theorem roput_calls (hcs : RV cs x Y E yc ec) (hI : InR w x Y E) :
    Calls Tryd.prog 31 #[.agg cs] w fun e w' => e = .returned (.tuple #[.string (S (if errC x = 0 then putO x else [])), .int .i64 (errC x)]) ∧ Below w.heap.size w w' := by
  rcases err_or x with h | h
  · rw [h, if_pos rfl]
    have h1 := err_0 h
    unfold checkO at h1
    by_cases k1 : x.k = 1
    · exact rput_1 hcs hI h k1
    by_cases k2 : x.k = 2
    · exact rput_2 hcs hI h k2
    by_cases k3 : x.k = 3
    · exact rput_3 hcs hI h k3
    by_cases k4 : x.k = 4
    · exact rput_4 hcs hI h k4
    · rw [if_neg k1, if_neg k2, if_neg k3, if_neg k4] at h1
      cases h1
  · rw [h, if_neg (by decide)]; exact rput_no hcs hI h
end
end Go.Proofs.YtgjdcdhfijkoiaaDoor.Obj
end
section
namespace Go.Proofs.YtgjdcdhfijkoiaaDoor.Obj
open Go.RowKit Go.Proofs.YtgjdcdhfijkoiaaDoorW.PrintWords Go.Proofs.YtgjdcdhfijkoiaaDoorW.PrintLast Go.Proofs.YtgjdcdhfijkoiaaDoorW.PrintMore Go.Proofs.YtgjdcdhfijkoiaaDoor.Mem Go.Proofs.YtgjdcdhfijkoiaaDoor.Cod Go.Proofs.YtgjdcdhfijkoiaaDoor.PCod Go.Proofs.YtgjdcdhfijkoiaaDoor.Str Go.Proofs.YtgjdcdhfijkoiaaDoor.Open
set_option linter.unusedVariables false
set_option linter.unusedSimpArgs false
theorem items_self (W : World) (a : List Int) (d : Nat) : ∀ is : List Nat, (∀ j ∈ is, j < a.length) →
    (Op.eqItems (d + 1) 5 (Tryd.prog.cellsOf 5) (nums .u8 a).toArray (nums .u8 a).toArray is).run Tryd.prog W = .ok true W := by
  intro is
  induction is with
  | nil => intro _; simp [Op.eqItems]
  | cons j is ih =>
    intro h
    have hj := h j List.mem_cons_self
    have e : (nums .u8 a).toArray[j * Tryd.prog.cellsOf 5]? = some (.int .u8 (a.getD j 0)) := by
      rw [cells_u8, Nat.mul_one, List.getElem?_toArray]
      unfold nums
      rw [List.getElem?_map, List.getElem?_eq_getElem hj, List.getD_eq_getElem?_getD, List.getElem?_eq_getElem hj]
      rfl
    simp only [Op.eqItems, Sem.run_bind, run_part_plain W plain_u8 e, Result.andThen_ok, run_equalIn_int W d 5 .u8 .u8 (a.getD j 0) (a.getD j 0) Tryd.underlying5]
    simp only [beq_self_eq_true, Bool.not_true, Bool.false_eq_true, if_false]
    exact ih (fun k hk => h k (List.mem_cons_of_mem _ hk))
theorem id_self (a : List Int) (ha : a.length = 32) (d : Nat) (W : World) : (Op.equalIn (d + 2) 74 (.agg (nums .u8 a).toArray) (.agg (nums .u8 a).toArray)).run Tryd.prog W = .ok true W := by
  obtain ⟨i, hi, _⟩ := Option.map_eq_some_iff.1 info_u8s
  rw [run_equalIn_array W (d + 1) _ _ Tryd.underlying74 hi, items_self W a d (List.range 32) (fun j hj => by have := List.mem_range.1 hj; omega)]
theorem part_s (W : World) (s : ByteArray) (b : Bool) {p : List Int} (hp : p.length = 32) : (part 9 (ecells ⟨s, b, p⟩).toArray 0).run Tryd.prog W = .ok (.string s) W ∧ (part 4 (ecells ⟨s, b, p⟩).toArray 1).run Tryd.prog W = .ok (.bool b) W ∧ (part 74 (ecells ⟨s, b, p⟩).toArray 2).run Tryd.prog W = .ok (.agg (nums .u8 p).toArray) W := by
  obtain ⟨x0, x1, x2, x3, x4, x5, x6, x7, x8, x9, x10, x11, x12, x13, x14, x15, x16, x17, x18, x19, x20, x21, x22, x23, x24, x25, x26, x27, x28, x29, x30, x31, rfl⟩ := list32 hp
  exact ⟨by kernel_rfl, by kernel_rfl, by kernel_rfl⟩
set_option maxRecDepth 100000 in
theorem ent_self (e : EM) (he : e.id.length = 32) (d : Nat) (W : World) : (Op.equalIn (d + 3) 111 (.agg (ecells e).toArray) (.agg (ecells e).toArray)).run Tryd.prog W = .ok true W := by
  obtain ⟨s, b, p⟩ := e
  obtain ⟨h0, h1, h2⟩ := part_s W s b he
  have hs : (Op.equalIn (d + 2) 9 (.string s) (.string s)).run Tryd.prog W = .ok true W := by rw [run_equalIn_string W (d + 1) _ _ _ Tryd.underlying9, beq_self_eq_true]
  have hb : (Op.equalIn (d + 2) 4 (.bool b) (.bool b)).run Tryd.prog W = .ok true W := by rw [run_equalIn_bool W (d + 1) _ _ _ Tryd.underlying4, beq_self_eq_true]
  refine eqA_of Tryd.underlying111 (by kernel_rfl) ?_
  show _ = Result.ok (true && (true && true)) W
  refine eqf_cons (a := .string s) (b := .string s) (r := true) (s := true && true) (by rfl) ?_ ?_ ?_ ?_
  · exact h0
  · exact h0
  · exact hs
  refine eqf_cons (a := .bool b) (b := .bool b) (r := true) (s := true) (by rfl) ?_ ?_ ?_ ?_
  · exact h1
  · exact h1
  · exact hb
  refine eqf_last (a := .agg (nums .u8 p).toArray) (b := .agg (nums .u8 p).toArray) (r := true) (by rfl) ?_ ?_ ?_
  · exact h2
  · exact h2
  · exact id_self p he d W
section
variable {w : World} {x : OM} {cs cs2 : Array Value} {Y E Y2 E2 : Option Addr} {yc ec yc2 ec2 : Nat}
set_option maxRecDepth 100000 in
set_option maxHeartbeats 8000000 in
theorem rosame_calls (hcs : RV cs x Y E yc ec) (hI : InR w x Y E) (hcs2 : RV cs2 x Y2 E2 yc2 ec2) (hI2 : InR w x Y2 E2) :
    Calls Tryd.prog 36 #[.agg cs, .agg cs2] w fun e w' => e = .returned (.bool true) ∧ Below w.heap.size w w' := by
  obtain ⟨yl, hyl⟩ : ∃ k, k = x.ids.length := ⟨_, rfl⟩
  obtain ⟨el, hel⟩ : ∃ k, k = x.es.length := ⟨_, rfl⟩
  have HCS := Aside0.mk (And.intro hcs (And.intro hI (And.intro hcs2 (And.intro hI2 (And.intro hyl hel)))))
  have hyl2 : yl ≤ 9223372036854775807 := by rw [hyl]; exact hI.yl
  have hel2 : el ≤ 9223372036854775807 := by rw [hel]; exact hI.el
  clear hcs hI hcs2 hI2 hyl hel
  go_enter Tryd.func36, Tryd.ntmps36
  go_wp2_with (first
    | ((with_reducible refine gate_dst (N := 2) rfl ?_); refine box_event ?hg (N := 2) ?hd (cs := cs) (t := 63) ?hr ?_; (case hd => rfl); (case hg => rfl); (case hr => exact exec_box _ _ _ rfl cs rfl); intro gb hgb w1 hbox hb1; have H1 := Aside0.mk (show RBx w1 gb x Y E yc ec ∧ Below w.heap.size w w1 from And.intro (RBx.of HCS.out.1 hbox) hb1); clear hbox hb1 hgb)
    | ((with_reducible refine gate_dst (N := 3) rfl ?_); refine box_event ?hg (N := 3) ?hd (cs := cs2) (t := 63) ?hr ?_; (case hd => rfl); (case hg => rfl); (case hr => exact exec_box _ _ _ rfl cs2 rfl); intro gc hgc w2 hbox hb2; have H2 := Aside0.mk (show RBx w2 gb x Y E yc ec ∧ RBx w2 gc x Y2 E2 yc2 ec2 ∧ Below w.heap.size w w2 from ⟨H1.out.1.below hb2, RBx.of HCS.out.2.2.1 hbox, below_step H1.out.2 hb2⟩); obtain ⟨a0, a1, a2, a3, a4, a5⟩ := H2.out.1.cells; obtain ⟨b0, b1, b2, b3, b4, b5⟩ := H2.out.2.1.cells; rw [← HCS.out.2.2.2.2.1] at a3 b3; rw [← HCS.out.2.2.2.2.2] at a4 b4; clear hbox hb2 hgc))
  clear H1 a0 a1 a2 a3 a4 a5 b0 b1 b2 b3 b4 b5
  go_loopg [5] yl (fun q v5 wr => ∃ (i : Nat), v5 = .int .i64 i ∧ q + i = yl ∧ Aside0 (RBx wr gb x Y E yc ec ∧ RBx wr gc x Y2 E2 yc2 ec2 ∧ Below w.heap.size w wr))
  case atStart => exact ⟨0, rfl, rfl, H2⟩
  case round =>
    clear H2
    obtain ⟨i, rfl, hq, hI⟩ := hrel
    obtain ⟨_, _, _, a3, _, _⟩ := hI.out.1.cells
    obtain ⟨_, _, _, b3, _, _⟩ := hI.out.2.1.cells
    rw [← HCS.out.2.2.2.2.1] at a3 b3
    by_cases hlt : i < yl
    · have d2 : decide ((i : Int) < (yl : Int)) = true := decide_eq_true (by omega)
      have hil : i < x.ids.length := by have := HCS.out.2.2.2.2.1; omega
      obtain ⟨ad, e0, h32, hcell⟩ := at_id HCS.out.2.1.yC hil
      cases e0
      obtain ⟨ad2, e2, _, hcell2⟩ := at_id HCS.out.2.2.2.1.yC hil
      cases e2
      obtain ⟨id, hid⟩ : ∃ id, id = x.ids.getD i [] := ⟨_, rfl⟩
      rw [← hid] at h32 hcell hcell2
      have HZ := Aside0.mk (And.intro hcell (And.intro hcell2 h32))
      have hqe : ∀ W : World, (Op.equalIn 10000 74 (.agg (nums .u8 id).toArray) (.agg (nums .u8 id).toArray)).run Tryd.prog W = .ok true W := id_self id h32 9998
      have p25 : (0 ≤ (i : Int)) = True := eq_true (by omega)
      have q25 : ((i : Int) < (yl : Int)) = True := eq_true (by omega)
      clear hcell hcell2 h32 hid
      go_upto_region 6 with (fail)
      obtain ⟨wd, hwd⟩ : ∃ z, z = wr.drew := ⟨_, rfl⟩
      have hbd : Below wr.heap.size wr wd := by rw [hwd]; exact below_drew1 (Below.refl _ _)
      have HD := Aside0.mk (show RBx wd gb x (some ad) E yc ec ∧ RBx wd gc x (some ad2) E2 yc2 ec2 ∧ Below w.heap.size w wd from ⟨hI.out.1.below hbd, hI.out.2.1.below hbd, below_step hI.out.2.2 hbd⟩)
      have hS : wd.cell? ⟨gb, 3, none⟩ = some (.slice (some ad) yl yc) ∧ wd.cell? ⟨gc, 3, none⟩ = some (.slice (some ad2) yl yc2) ∧ (∀ (j : Nat) (v : Value), (nums .u8 id)[j]? = some v → wd.cell? ((ad.add (i * 32)).add j) = some v) ∧ (∀ (j : Nat) (v : Value), (nums .u8 id)[j]? = some v → wd.cell? ((ad2.add (i * 32)).add j) = some v) := by
        refine ⟨by rw [HCS.out.2.2.2.2.1]; exact HD.out.1.cells.2.2.2.1, by rw [HCS.out.2.2.2.2.1]; exact HD.out.2.1.cells.2.2.2.1, fun j v hj => ?_, fun j v hj => ?_⟩
        · have h := HZ.out.1 j v hj
          rw [Go.Deep.add_add]
          exact (HD.out.2.2.cell (World.block_lt_of_cell? w _ h)).trans h
        · have h := HZ.out.2.1 j v hj
          rw [Go.Deep.add_add]
          exact (HD.out.2.2.cell (World.block_lt_of_cell? w _ h)).trans h
      clear hbd a3 b3 hI
      refine start_ (n := 11) (S := fun W => W.cell? ⟨gb, 3, none⟩ = some (.slice (some ad) yl yc) ∧ W.cell? ⟨gc, 3, none⟩ = some (.slice (some ad2) yl yc2) ∧ (∀ (j : Nat) (v : Value), (nums .u8 id)[j]? = some v → W.cell? ((ad.add (i * 32)).add j) = some v) ∧ (∀ (j : Nat) (v : Value), (nums .u8 id)[j]? = some v → W.cell? ((ad2.add (i * 32)).add j) = some v)) (ds := []) #[false, false, false, false, false, false, false, false, false, false, false] (by kernel_rfl) rfl (by kernel_rfl) (by rw [← hwd]; exact hS) (fun hHeld => ?_)
      rw [← hwd] at hHeld ⊢
      clear hwd
      refine pure_ (i := 0) (N := some 58) (v := ?_) (a' := ?_) #[true, false, false, false, false, false, false, false, false, false, false] rfl rfl (by kernel_rfl) (fun _ _ _ h => h) (Or.inl ⟨by rfl, ?_⟩) ?_ ?_
      rotate_left
      · intro w'
        go_simp
        with_reducible rfl
      rotate_left
      · simp only [Act.put, List.setIfInBounds_toArray, List.set_cons_zero, List.set_cons_succ, i64_w, i32_w]
        rfl
      refine pure_ (i := 2) (N := some 60) (v := ?_) (a' := ?_) #[true, false, true, false, false, false, false, false, false, false, false] rfl rfl (by kernel_rfl) (fun _ _ _ h => h) (Or.inl ⟨by rfl, ?_⟩) ?_ ?_
      rotate_left
      · intro w'
        go_simp
        with_reducible rfl
      rotate_left
      · simp only [Act.put, List.setIfInBounds_toArray, List.set_cons_zero, List.set_cons_succ, i64_w, i32_w]
        rfl
      refine pure_ (i := 5) (N := some 63) (v := ?_) (a' := ?_) #[true, false, true, false, false, true, false, false, false, false, false] rfl rfl (by kernel_rfl) (fun _ _ _ h => h) (Or.inl ⟨by rfl, ?_⟩) ?_ ?_
      rotate_left
      · intro w'
        go_simp
        with_reducible rfl
      rotate_left
      · simp only [Act.put, List.setIfInBounds_toArray, List.set_cons_zero, List.set_cons_succ, i64_w, i32_w]
        rfl
      refine pure_ (i := 7) (N := some 65) (v := ?_) (a' := ?_) #[true, false, true, false, false, true, false, true, false, false, false] rfl rfl (by kernel_rfl) (fun _ _ _ h => h) (Or.inl ⟨by rfl, ?_⟩) ?_ ?_
      rotate_left
      · intro w'
        go_simp
        with_reducible rfl
      rotate_left
      · simp only [Act.put, List.setIfInBounds_toArray, List.set_cons_zero, List.set_cons_succ, i64_w, i32_w]
        rfl
      refine take_ (i := 1) (N := some 59) (v := ?_) (a' := ?_) #[true, true, true, false, false, true, false, true, false, false, false] rfl rfl (by kernel_rfl) (fun _ _ _ h => h) (Or.inl ⟨by rfl, ?_⟩) hHeld ?_ ?_
      rotate_left
      · rintro w' ⟨s0, s1, s2, s3⟩
        go_simp
        with_reducible rfl
      rotate_left
      · simp only [Act.put, List.setIfInBounds_toArray, List.set_cons_zero, List.set_cons_succ, i64_w, i32_w]
        rfl
      refine take_ (i := 6) (N := some 64) (v := ?_) (a' := ?_) #[true, true, true, false, false, true, true, true, false, false, false] rfl rfl (by kernel_rfl) (fun _ _ _ h => h) (Or.inl ⟨by rfl, ?_⟩) hHeld ?_ ?_
      rotate_left
      · rintro w' ⟨s0, s1, s2, s3⟩
        go_simp
        with_reducible rfl
      rotate_left
      · simp only [Act.put, List.setIfInBounds_toArray, List.set_cons_zero, List.set_cons_succ, i64_w, i32_w]
        rfl
      refine pure_ (i := 3) (N := some 61) (v := ?_) (a' := ?_) #[true, true, true, true, false, true, true, true, false, false, false] rfl rfl (by kernel_rfl) (fun _ _ _ h => h) (Or.inl ⟨by rfl, ?_⟩) ?_ ?_
      rotate_left
      · intro w'
        go_simp
        with_reducible rfl
      rotate_left
      · simp only [Act.put, List.setIfInBounds_toArray, List.set_cons_zero, List.set_cons_succ, i64_w, i32_w]
        rfl
      refine pure_ (i := 8) (N := some 66) (v := ?_) (a' := ?_) #[true, true, true, true, false, true, true, true, true, false, false] rfl rfl (by kernel_rfl) (fun _ _ _ h => h) (Or.inl ⟨by rfl, ?_⟩) ?_ ?_
      rotate_left
      · intro w'
        go_simp
        with_reducible rfl
      rotate_left
      · simp only [Act.put, List.setIfInBounds_toArray, List.set_cons_zero, List.set_cons_succ, i64_w, i32_w]
        rfl
      refine take_ (i := 4) (N := some 62) (v := .agg (nums .u8 id).toArray) (a' := ?_) #[true, true, true, true, true, true, true, true, true, false, false] rfl rfl (by kernel_rfl) (fun _ _ _ h => h) (Or.inl ⟨by rfl, fun w' s0 => ?ld⟩) hHeld ?_ ?_
      case ld => exact exec_load_any w' 74 (.tmp 61) rfl (ad.add (i * 32)) rfl (nums .u8 id) _ s0.2.2.1 Tryd.underlying74 rfl (by rw [nums_length, HZ.out.2.2]; kernel_rfl)
      rotate_left
      · simp only [Act.put, List.setIfInBounds_toArray, List.set_cons_zero, List.set_cons_succ, i64_w, i32_w]
        rfl
      refine take_ (i := 9) (N := some 67) (v := .agg (nums .u8 id).toArray) (a' := ?_) #[true, true, true, true, true, true, true, true, true, true, false] rfl rfl (by kernel_rfl) (fun _ _ _ h => h) (Or.inl ⟨by rfl, fun w' s0 => ?ld⟩) hHeld ?_ ?_
      case ld => exact exec_load_any w' 74 (.tmp 66) rfl (ad2.add (i * 32)) rfl (nums .u8 id) _ s0.2.2.2 Tryd.underlying74 rfl (by rw [nums_length, HZ.out.2.2]; kernel_rfl)
      rotate_left
      · simp only [Act.put, List.setIfInBounds_toArray, List.set_cons_zero, List.set_cons_succ, i64_w, i32_w]
        rfl
      refine pure_ (i := 10) (N := some 68) (v := ?_) (a' := ?_) #[true, true, true, true, true, true, true, true, true, true, true] rfl rfl (by kernel_rfl) (fun _ _ _ h => h) (Or.inl ⟨by rfl, ?_⟩) ?_ ?_
      rotate_left
      · intro w'
        go_simp
        with_reducible rfl
      rotate_left
      · simp only [Act.put, List.setIfInBounds_toArray, List.set_cons_zero, List.set_cons_succ, i64_w, i32_w]
        rfl
      refine done_ (by kernel_rfl) ?_
      clear hHeld hS
      go_wp2
      go_roundg (yl - (i + 1))
      case measure => omega
      case rel => exact ⟨i + 1, by go_num, by omega, HD⟩
    · have d2 : decide ((i : Int) < (yl : Int)) = false := decide_eq_false (by omega)
      go_wp2
      clear a3 b3
      have HQ := Aside0.mk hI.out
      clear hI
      go_loopg [6] el (fun q v6 wr => ∃ (i : Nat), v6 = .int .i64 i ∧ q + i = el ∧ Aside0 (RBx wr gb x Y E yc ec ∧ RBx wr gc x Y2 E2 yc2 ec2 ∧ Below w.heap.size w wr))
      case atStart => exact ⟨0, rfl, rfl, HQ⟩
      case round =>
        clear HQ
        obtain ⟨i, rfl, hq, hI⟩ := hrel
        obtain ⟨_, _, _, _, a4, _⟩ := hI.out.1.cells
        obtain ⟨_, _, _, _, b4, _⟩ := hI.out.2.1.cells
        rw [← HCS.out.2.2.2.2.2] at a4 b4
        by_cases hlt : i < el
        · have d2 : decide ((i : Int) < (el : Int)) = true := decide_eq_true (by omega)
          have hil : i < x.es.length := by have := HCS.out.2.2.2.2.2; omega
          obtain ⟨ad, e0, h32, hcell, _⟩ := at_e HCS.out.2.1.eC hil
          cases e0
          obtain ⟨ad2, e2, _, hcell2, _⟩ := at_e HCS.out.2.2.2.1.eC hil
          cases e2
          obtain ⟨en, hen⟩ : ∃ en, en = x.es.getD i eNone := ⟨_, rfl⟩
          rw [← hen] at h32 hcell hcell2
          have HZ := Aside0.mk (And.intro hcell (And.intro hcell2 h32))
          have hqe : ∀ W : World, (Op.equalIn 10000 111 (.agg (ecells en).toArray) (.agg (ecells en).toArray)).run Tryd.prog W = .ok true W := ent_self en h32 9997
          have p25 : (0 ≤ (i : Int)) = True := eq_true (by omega)
          have q25 : ((i : Int) < (el : Int)) = True := eq_true (by omega)
          clear hcell hcell2 h32 hen
          go_upto_region 11 with (fail)
          obtain ⟨wd, hwd⟩ : ∃ z, z = wr.drew := ⟨_, rfl⟩
          have hbd : Below wr.heap.size wr wd := by rw [hwd]; exact below_drew1 (Below.refl _ _)
          have HD := Aside0.mk (show RBx wd gb x Y (some ad) yc ec ∧ RBx wd gc x Y2 (some ad2) yc2 ec2 ∧ Below w.heap.size w wd from ⟨hI.out.1.below hbd, hI.out.2.1.below hbd, below_step hI.out.2.2 hbd⟩)
          have hS : wd.cell? ⟨gb, 4, none⟩ = some (.slice (some ad) el ec) ∧ wd.cell? ⟨gc, 4, none⟩ = some (.slice (some ad2) el ec2) ∧ (∀ (j : Nat) (v : Value), (ecells en)[j]? = some v → wd.cell? ((ad.add (i * 34)).add j) = some v) ∧ (∀ (j : Nat) (v : Value), (ecells en)[j]? = some v → wd.cell? ((ad2.add (i * 34)).add j) = some v) := by
            refine ⟨by rw [HCS.out.2.2.2.2.2]; exact HD.out.1.cells.2.2.2.2.1, by rw [HCS.out.2.2.2.2.2]; exact HD.out.2.1.cells.2.2.2.2.1, fun j v hj => ?_, fun j v hj => ?_⟩
            · have h := HZ.out.1 j v hj
              rw [Go.Deep.add_add]
              exact (HD.out.2.2.cell (World.block_lt_of_cell? w _ h)).trans h
            · have h := HZ.out.2.1 j v hj
              rw [Go.Deep.add_add]
              exact (HD.out.2.2.cell (World.block_lt_of_cell? w _ h)).trans h
          clear hbd a4 b4 hI
          refine start_ (n := 11) (S := fun W => W.cell? ⟨gb, 4, none⟩ = some (.slice (some ad) el ec) ∧ W.cell? ⟨gc, 4, none⟩ = some (.slice (some ad2) el ec2) ∧ (∀ (j : Nat) (v : Value), (ecells en)[j]? = some v → W.cell? ((ad.add (i * 34)).add j) = some v) ∧ (∀ (j : Nat) (v : Value), (ecells en)[j]? = some v → W.cell? ((ad2.add (i * 34)).add j) = some v)) (ds := []) #[false, false, false, false, false, false, false, false, false, false, false] (by kernel_rfl) rfl (by kernel_rfl) (by rw [← hwd]; exact hS) (fun hHeld => ?_)
          rw [← hwd] at hHeld ⊢
          clear hwd
          refine pure_ (i := 0) (N := some 76) (v := ?_) (a' := ?_) #[true, false, false, false, false, false, false, false, false, false, false] rfl rfl (by kernel_rfl) (fun _ _ _ h => h) (Or.inl ⟨by rfl, ?_⟩) ?_ ?_
          rotate_left
          · intro w'
            go_simp
            with_reducible rfl
          rotate_left
          · simp only [Act.put, List.setIfInBounds_toArray, List.set_cons_zero, List.set_cons_succ, i64_w, i32_w]
            rfl
          refine pure_ (i := 2) (N := some 78) (v := ?_) (a' := ?_) #[true, false, true, false, false, false, false, false, false, false, false] rfl rfl (by kernel_rfl) (fun _ _ _ h => h) (Or.inl ⟨by rfl, ?_⟩) ?_ ?_
          rotate_left
          · intro w'
            go_simp
            with_reducible rfl
          rotate_left
          · simp only [Act.put, List.setIfInBounds_toArray, List.set_cons_zero, List.set_cons_succ, i64_w, i32_w]
            rfl
          refine pure_ (i := 5) (N := some 81) (v := ?_) (a' := ?_) #[true, false, true, false, false, true, false, false, false, false, false] rfl rfl (by kernel_rfl) (fun _ _ _ h => h) (Or.inl ⟨by rfl, ?_⟩) ?_ ?_
          rotate_left
          · intro w'
            go_simp
            with_reducible rfl
          rotate_left
          · simp only [Act.put, List.setIfInBounds_toArray, List.set_cons_zero, List.set_cons_succ, i64_w, i32_w]
            rfl
          refine pure_ (i := 7) (N := some 83) (v := ?_) (a' := ?_) #[true, false, true, false, false, true, false, true, false, false, false] rfl rfl (by kernel_rfl) (fun _ _ _ h => h) (Or.inl ⟨by rfl, ?_⟩) ?_ ?_
          rotate_left
          · intro w'
            go_simp
            with_reducible rfl
          rotate_left
          · simp only [Act.put, List.setIfInBounds_toArray, List.set_cons_zero, List.set_cons_succ, i64_w, i32_w]
            rfl
          refine take_ (i := 1) (N := some 77) (v := ?_) (a' := ?_) #[true, true, true, false, false, true, false, true, false, false, false] rfl rfl (by kernel_rfl) (fun _ _ _ h => h) (Or.inl ⟨by rfl, ?_⟩) hHeld ?_ ?_
          rotate_left
          · rintro w' ⟨s0, s1, s2, s3⟩
            go_simp
            with_reducible rfl
          rotate_left
          · simp only [Act.put, List.setIfInBounds_toArray, List.set_cons_zero, List.set_cons_succ, i64_w, i32_w]
            rfl
          refine take_ (i := 6) (N := some 82) (v := ?_) (a' := ?_) #[true, true, true, false, false, true, true, true, false, false, false] rfl rfl (by kernel_rfl) (fun _ _ _ h => h) (Or.inl ⟨by rfl, ?_⟩) hHeld ?_ ?_
          rotate_left
          · rintro w' ⟨s0, s1, s2, s3⟩
            go_simp
            with_reducible rfl
          rotate_left
          · simp only [Act.put, List.setIfInBounds_toArray, List.set_cons_zero, List.set_cons_succ, i64_w, i32_w]
            rfl
          refine pure_ (i := 3) (N := some 79) (v := ?_) (a' := ?_) #[true, true, true, true, false, true, true, true, false, false, false] rfl rfl (by kernel_rfl) (fun _ _ _ h => h) (Or.inl ⟨by rfl, ?_⟩) ?_ ?_
          rotate_left
          · intro w'
            go_simp
            with_reducible rfl
          rotate_left
          · simp only [Act.put, List.setIfInBounds_toArray, List.set_cons_zero, List.set_cons_succ, i64_w, i32_w]
            rfl
          refine pure_ (i := 8) (N := some 84) (v := ?_) (a' := ?_) #[true, true, true, true, false, true, true, true, true, false, false] rfl rfl (by kernel_rfl) (fun _ _ _ h => h) (Or.inl ⟨by rfl, ?_⟩) ?_ ?_
          rotate_left
          · intro w'
            go_simp
            with_reducible rfl
          rotate_left
          · simp only [Act.put, List.setIfInBounds_toArray, List.set_cons_zero, List.set_cons_succ, i64_w, i32_w]
            rfl
          refine take_ (i := 4) (N := some 80) (v := .agg (ecells en).toArray) (a' := ?_) #[true, true, true, true, true, true, true, true, true, false, false] rfl rfl (by kernel_rfl) (fun _ _ _ h => h) (Or.inl ⟨by rfl, fun w' s0 => ?ld⟩) hHeld ?_ ?_
          case ld => exact exec_load_any w' 111 (.tmp 79) rfl (ad.add (i * 34)) rfl (ecells en) _ s0.2.2.1 Tryd.underlying111 rfl (by rw [ecells_len HZ.out.2.2]; kernel_rfl)
          rotate_left
          · simp only [Act.put, List.setIfInBounds_toArray, List.set_cons_zero, List.set_cons_succ, i64_w, i32_w]
            rfl
          refine take_ (i := 9) (N := some 85) (v := .agg (ecells en).toArray) (a' := ?_) #[true, true, true, true, true, true, true, true, true, true, false] rfl rfl (by kernel_rfl) (fun _ _ _ h => h) (Or.inl ⟨by rfl, fun w' s0 => ?ld⟩) hHeld ?_ ?_
          case ld => exact exec_load_any w' 111 (.tmp 84) rfl (ad2.add (i * 34)) rfl (ecells en) _ s0.2.2.2 Tryd.underlying111 rfl (by rw [ecells_len HZ.out.2.2]; kernel_rfl)
          rotate_left
          · simp only [Act.put, List.setIfInBounds_toArray, List.set_cons_zero, List.set_cons_succ, i64_w, i32_w]
            rfl
          refine pure_ (i := 10) (N := some 86) (v := ?_) (a' := ?_) #[true, true, true, true, true, true, true, true, true, true, true] rfl rfl (by kernel_rfl) (fun _ _ _ h => h) (Or.inl ⟨by rfl, ?_⟩) ?_ ?_
          rotate_left
          · intro w'
            go_simp
            with_reducible rfl
          rotate_left
          · simp only [Act.put, List.setIfInBounds_toArray, List.set_cons_zero, List.set_cons_succ, i64_w, i32_w]
            rfl
          refine done_ (by kernel_rfl) ?_
          clear hHeld hS
          go_wp2
          go_roundg (el - (i + 1))
          case measure => omega
          case rel => exact ⟨i + 1, by go_num, by omega, HD⟩
        · have d2 : decide ((i : Int) < (el : Int)) = false := decide_eq_false (by omega)
          go_wp2
          go_ret
          exact ⟨rfl, hI.out.2.2⟩
end
end Go.Proofs.YtgjdcdhfijkoiaaDoor.Obj
end
section
namespace Go.Proofs.YtgjdcdhfijkoiaaDoor.Obj
open Go.RowKit Go.Proofs.YtgjdcdhfijkoiaaDoorW.PrintWords Go.Proofs.YtgjdcdhfijkoiaaDoorW.PrintLast Go.Proofs.YtgjdcdhfijkoiaaDoorW.PrintMore Go.Proofs.YtgjdcdhfijkoiaaDoor.Mem Go.Proofs.YtgjdcdhfijkoiaaDoor.Cod Go.Proofs.YtgjdcdhfijkoiaaDoor.PCod Go.Proofs.YtgjdcdhfijkoiaaDoor.Str Go.Proofs.YtgjdcdhfijkoiaaDoor.Open
set_option linter.unusedVariables false
set_option linter.unusedSimpArgs false
theorem ba_empty {s : ByteArray} (h : s.size = 0) : s = ByteArray.empty := ByteArray.ext (Array.eq_empty_of_size_eq_zero h)
/-- What an object's rows must be. -/
structure Wf (x : OM) : Prop where
  bb : Byt x.b
  i32 : ∀ p ∈ x.ids, p.length = 32
  e32 : ∀ e ∈ x.es, e.id.length = 32
  n : 0 ≤ x.n ∧ x.n ≤ 18446744073709551615
theorem wf_of {w : World} {x : OM} {A Y E : Option Addr} (h : InO w x A Y E) : Wf x := by
  refine ⟨h.bb, fun p hp => ?_, fun e he => ?_, h.n⟩
  · obtain ⟨i, hi, rfl⟩ := List.mem_iff_getElem.1 hp
    have := (at_id h.yC hi).choose_spec.2.1
    rwa [List.getD_eq_getElem?_getD, List.getElem?_eq_getElem hi] at this
  · obtain ⟨i, hi, rfl⟩ := List.mem_iff_getElem.1 he
    have := (at_e h.eC hi).choose_spec.2.1
    rwa [List.getD_eq_getElem?_getD, List.getElem?_eq_getElem hi] at this
theorem shape_1 {x : OM} (h : errC x = 0) (hk : x.k = 1) : x = ⟨1, x.b, 0, [], [], ByteArray.empty⟩ := by
  obtain ⟨k, b, n, ids, es, s⟩ := x
  dsimp only at hk
  subst hk
  have h1 := err_0 h
  unfold checkO pieceM bareM at h1
  have hs := empty_size s
  simp at h1
  simp_all
theorem shape_2 {x : OM} (h : errC x = 0) (hk : x.k = 2) : x = ⟨2, [], x.n, x.ids, [], ByteArray.empty⟩ := by
  obtain ⟨k, b, n, ids, es, s⟩ := x
  dsimp only at hk
  subst hk
  have h1 := err_0 h
  unfold checkO listM bareM at h1
  simp at h1
  simp_all
  exact ba_empty ((empty_size s).1 h1.1.1.1.2)
theorem shape_3 {x : OM} (h : errC x = 0) (hk : x.k = 3) : x = ⟨3, [], 0, [], x.es, ByteArray.empty⟩ := by
  obtain ⟨k, b, n, ids, es, s⟩ := x
  dsimp only at hk
  subst hk
  have h1 := err_0 h
  unfold checkO dirM bareM at h1
  simp at h1
  simp_all
  exact ba_empty ((empty_size s).1 h1.2.1.2)
theorem shape_4 {x : OM} (h : errC x = 0) (hk : x.k = 4) : x = ⟨4, [], x.n, [x.ids.getD 0 []], [], x.s⟩ := by
  obtain ⟨k, b, n, ids, es, s⟩ := x
  dsimp only at hk
  subst hk
  have hl := (ok_4 h rfl).1
  dsimp only at hl
  obtain ⟨id, rfl⟩ := List.length_eq_one_iff.1 hl
  have h1 := err_0 h
  unfold checkO snapM bareM at h1
  simp at h1
  simp_all
/-! ### put, then got -/
theorem id_put {p : List Int} (hp : p.length = 32) (r : List Int) : (⟨p ++ r, 0⟩ : RM).id = (⟨r, 0⟩, p) := by
  have h : (⟨p ++ r, 0⟩ : RM).fixed 32 = (⟨r, 0⟩, p) := by
    rw [RM.fixed_ok rfl (by decide) (by show ¬ (((p ++ r).length : Nat) : Int) < 32; rw [List.length_append]; omega)]
    show ((⟨(p ++ r).drop 32, 0⟩ : RM), (p ++ r).take 32) = _
    rw [← hp, List.drop_left, List.take_left]
  unfold RM.id
  rw [h]
  dsimp only
  rw [if_neg (fun e => by rw [e] at hp; cases hp)]
theorem bool_put (d : Bool) (r : List Int) : (⟨bit d :: r, 0⟩ : RM).bool = (⟨r, 0⟩, d) := by cases d <;> rfl
theorem idsGo_put : ∀ (l o : List (List Int)) (r : List Int), (∀ p ∈ l, p.length = 32) → idsGo l.length ⟨l.flatten ++ r, 0⟩ o = (⟨r, 0⟩, o ++ l)
  | [], o, r, _ => by rw [List.append_nil]; rfl
  | p :: l, o, r, h => by
    rw [List.flatten_cons, List.length_cons, idsGo, List.append_assoc, id_put (h p List.mem_cons_self)]
    dsimp only
    rw [idsGo_put l _ r (fun x hx => h x (List.mem_cons_of_mem _ hx)), List.append_assoc]
    rfl
theorem ent_put {e : EM} (h1 : e.nm.size ≤ 255) (h2 : e.id.length = 32) (r : List Int) : stepE ⟨entB e ++ r, 0⟩ = ⟨r, 0⟩ ∧ oneE ⟨entB e ++ r, 0⟩ = e := by
  have hb := bytes_put (xs := bytesOf e.nm) (m := 255) (by rw [Str.bytesOf_length]; omega) (by rw [Str.bytesOf_length]; omega) ([bit e.d] ++ e.id ++ r)
  rw [Str.bytesOf_length] at hb
  have he : entB e ++ r = putNum e.nm.size ++ bytesOf e.nm ++ ([bit e.d] ++ e.id ++ r) := by unfold entB; simp only [List.append_assoc]
  have hq := bool_put e.d (e.id ++ r)
  have hi := id_put h2 r
  unfold stepE oneE
  rw [he, hb]
  dsimp only
  rw [show [bit e.d] ++ e.id ++ r = bit e.d :: (e.id ++ r) from rfl, hq]
  dsimp only
  rw [hi]
  refine ⟨rfl, ?_⟩
  dsimp only
  rw [str_bytesOf]
theorem entGo_put : ∀ (l o : List EM) (r : List Int), (∀ e ∈ l, e.nm.size ≤ 255 ∧ e.id.length = 32) → entGo l.length ⟨(l.map entB).flatten ++ r, 0⟩ o = (⟨r, 0⟩, o ++ l)
  | [], o, r, _ => by rw [List.append_nil]; rfl
  | e :: l, o, r, h => by
    obtain ⟨h1, h2⟩ := h e List.mem_cons_self
    obtain ⟨q1, q2⟩ := ent_put h1 h2 ((l.map entB).flatten ++ r)
    rw [List.map_cons, List.flatten_cons, List.length_cons, entGo, List.append_assoc, q1, q2, entGo_put l _ r (fun x hx => h x (List.mem_cons_of_mem _ hx)), List.append_assoc]
    rfl
theorem fin_ok {R : RM} {x : OM} (h : errC x = 0) (hR : R = ⟨[], 0⟩) : finM (R, x, true) = (x, 0) := by
  subst hR
  unfold finM
  have h0 : (⟨[], 0⟩ : RM).end_ = 0 := rfl
  dsimp only
  rw [if_neg (show ¬ true = false by decide), h0, if_neg (show ¬ (0 : Int) ≠ 0 by decide), if_neg (show ¬ errC x ≠ 0 by rw [h]; decide)]
theorem got_of {x : OM} {k : Int} {r : List Int} (hk : 1 ≤ k ∧ k ≤ 4) (h : errC x = 0) (hs : swM k k ⟨r, 0⟩ = (⟨[], 0⟩, x, true)) : getO (putNum k ++ r) = (x, 0) := by
  have hu := uint_put (y := k) (by omega) (by omega) r
  unfold getO
  rw [hu]
  dsimp only
  rw [if_neg (by decide), show IntKind.u8.wrap k = k from (by rw [IntKind.wrap_u8]; omega), hs]
  exact fin_ok h rfl
theorem get_put_o {x : OM} (hw : Wf x) (h : errC x = 0) : getO (putO x) = (x, 0) := by
  have h1 := err_0 h
  unfold checkO at h1
  by_cases k1 : x.k = 1
  · have hb := ok_1 h k1
    have hsh := shape_1 h k1
    unfold putO bodyO
    rw [k1, if_pos rfl]
    refine got_of (by omega) h ?_
    have hp := bytes_put (xs := x.b) (m := 32768) (by omega) (by omega) []
    rw [List.append_nil] at hp
    rw [swM_1, hp]
    dsimp only
    rw [← hsh]
  by_cases k2 : x.k = 2
  · have hb := ok_2 h k2
    have hsh := shape_2 h k2
    have hn := hw.n
    unfold putO bodyO
    rw [k2, if_neg (by decide), if_pos rfl]
    refine got_of (by omega) h ?_
    have hp := uint_put (y := x.n) hn.1 (by omega) (putNum x.ids.length ++ x.ids.flatten)
    have hq := uint_put (y := (x.ids.length : Int)) (by omega) (by omega) x.ids.flatten
    have hg := idsGo_put x.ids [] [] hw.i32
    rw [List.append_nil, List.nil_append] at hg
    rw [swM_2, List.append_assoc, hp]
    dsimp only
    have hm : idsM ⟨putNum x.ids.length ++ x.ids.flatten, 0⟩ = (⟨[], 0⟩, x.ids, true) := by
      unfold idsM
      rw [hq]
      dsimp only
      rw [if_neg (by omega), Int.toNat_natCast, hg]
    rw [hm]
    dsimp only
    rw [← hsh]
  by_cases k3 : x.k = 3
  · obtain ⟨hb, hnm⟩ := ok_3 h k3
    have hsh := shape_3 h k3
    unfold putO bodyO
    rw [k3, if_neg (by decide), if_neg (by decide), if_pos rfl]
    refine got_of (by omega) h ?_
    have hq := uint_put (y := (x.es.length : Int)) (by omega) (by omega) (x.es.map entB).flatten
    have hg := entGo_put x.es [] [] (fun e he => ⟨hnm e he, hw.e32 e he⟩)
    rw [List.append_nil, List.nil_append] at hg
    have hm : entM ⟨putNum x.es.length ++ (x.es.map entB).flatten, 0⟩ = (⟨[], 0⟩, x.es, true) := by
      unfold entM
      rw [hq]
      dsimp only
      rw [if_neg (by omega), Int.toNat_natCast, hg]
    rw [swM_3, hm]
    dsimp only
    rw [← hsh]
  by_cases k4 : x.k = 4
  · obtain ⟨hb, hsl⟩ := ok_4 h k4
    have hsh := shape_4 h k4
    have hn := hw.n
    obtain ⟨id, hid⟩ := List.length_eq_one_iff.1 hb
    have h32 := hw.i32 id (by rw [hid]; exact List.mem_singleton.2 rfl)
    rw [hid] at hsh
    unfold putO bodyO
    rw [k4, if_neg (by decide), if_neg (by decide), if_neg (by decide), hid]
    refine got_of (by omega) h ?_
    have hp := uint_put (y := x.n) hn.1 (by omega) (id ++ (putNum x.s.size ++ bytesOf x.s))
    have hi := id_put h32 (putNum x.s.size ++ bytesOf x.s)
    have hb2 := bytes_put (xs := bytesOf x.s) (m := 255) (by rw [Str.bytesOf_length]; omega) (by rw [Str.bytesOf_length]; omega) []
    rw [List.append_nil, Str.bytesOf_length] at hb2
    rw [swM_4]
    simp only [List.flatten_cons, List.flatten_nil, List.append_nil, List.append_assoc]
    rw [hp]
    dsimp only
    rw [hi]
    dsimp only
    rw [hb2]
    dsimp only
    rw [show S (bytesOf x.s) = x.s from str_bytesOf x.s]
    exact congrArg (fun z => ((⟨[], 0⟩ : RM), z, true)) hsh.symm
  · rw [if_neg k1, if_neg k2, if_neg k3, if_neg k4] at h1
    cases h1
/-! ### got, then put -/
end Go.Proofs.YtgjdcdhfijkoiaaDoor.Obj
end
section
namespace Go.Proofs.YtgjdcdhfijkoiaaDoor.Obj
open Go.RowKit Go.Proofs.YtgjdcdhfijkoiaaDoorW.PrintWords Go.Proofs.YtgjdcdhfijkoiaaDoorW.PrintLast Go.Proofs.YtgjdcdhfijkoiaaDoorW.PrintMore Go.Proofs.YtgjdcdhfijkoiaaDoor.Mem Go.Proofs.YtgjdcdhfijkoiaaDoor.Cod Go.Proofs.YtgjdcdhfijkoiaaDoor.PCod Go.Proofs.YtgjdcdhfijkoiaaDoor.Str Go.Proofs.YtgjdcdhfijkoiaaDoor.Open
set_option linter.unusedVariables false
set_option linter.unusedSimpArgs false
section
variable {w : World} {x : OM} {cs : Array Value} {A Y E : Option Addr} {bc yc ec : Nat}
theorem putO_fit (hI : InO w x A Y E) (h : errC x = 0) : (putO x).length ≤ 1000000 ∧ Byt (putO x) := by
  have h1 := err_0 h
  unfold checkO at h1
  have hn := hI.n
  have bn : ∀ y : Int, 0 ≤ y → y < 18446744073709551616 → Byt (putNum y) := fun y h0 h1 => putNum_byt h0 h1
  have ln := fun y : Int => (putNum_len y).1
  have hbf : ∀ l : List (List Int), (∀ p ∈ l, Byt p) → Byt l.flatten := fun l hl z hz => by
    obtain ⟨p, hp, hz⟩ := List.mem_flatten.1 hz
    exact hl p hp z hz
  by_cases k1 : x.k = 1
  · have hb := ok_1 h k1
    unfold putO bodyO
    rw [k1, if_pos rfl]
    refine ⟨?_, byt_app (bn 1 (by omega) (by omega)) (byt_app (bn _ (by omega) (by omega)) hI.bb)⟩
    have := ln 1; have := ln x.b.length
    simp only [List.length_append]; omega
  by_cases k2 : x.k = 2
  · have hb := ok_2 h k2
    have hf := ids_flat hI.yC x.ids.length (Nat.le_refl _)
    rw [List.take_length] at hf
    unfold putO bodyO
    rw [k2, if_neg (by decide), if_pos rfl]
    refine ⟨?_, byt_app (bn 2 (by omega) (by omega)) (byt_app (byt_app (bn _ hn.1 (by omega)) (bn _ (by omega) (by omega))) (hbf _ hI.bi))⟩
    have := ln 2; have := ln x.n; have := ln x.ids.length
    simp only [List.length_append]; omega
  by_cases k3 : x.k = 3
  · obtain ⟨hb, hnm⟩ := ok_3 h k3
    have hf := es_flat hI.eC hnm x.es.length (Nat.le_refl _)
    rw [List.take_length] at hf
    unfold putO bodyO
    rw [k3, if_neg (by decide), if_neg (by decide), if_pos rfl]
    refine ⟨?_, byt_app (bn 3 (by omega) (by omega)) (byt_app (bn _ (by omega) (by omega)) (hbf _ (fun p hp => ?_)))⟩
    · have := ln 3; have := ln x.es.length
      simp only [List.length_append]; omega
    · obtain ⟨e, he, rfl⟩ := List.mem_map.1 hp
      have := hnm e he
      unfold entB
      refine byt_app (byt_app (byt_app (bn _ (by omega) (by omega)) (bytesOf_byt _)) (fun z hz => ?_)) (hI.be e he)
      rw [List.mem_singleton.1 hz]
      unfold bit
      split <;> omega
  by_cases k4 : x.k = 4
  · obtain ⟨hb, hsl⟩ := ok_4 h k4
    have hf := ids_flat hI.yC x.ids.length (Nat.le_refl _)
    rw [List.take_length] at hf
    unfold putO bodyO
    rw [k4, if_neg (by decide), if_neg (by decide), if_neg (by decide)]
    refine ⟨?_, byt_app (bn 4 (by omega) (by omega)) (byt_app (byt_app (bn _ hn.1 (by omega)) (hbf _ hI.bi)) (byt_app (bn _ (by omega) (by omega)) (bytesOf_byt _)))⟩
    have := ln 4; have := ln x.n; have := ln x.s.size
    simp only [List.length_append, Str.bytesOf_length]; omega
  · rw [if_neg k1, if_neg k2, if_neg k3, if_neg k4] at h1
    cases h1
set_option maxRecDepth 100000 in
set_option maxHeartbeats 8000000 in
theorem pts_law (hcs : OV cs x A Y E bc yc ec) (hI : InO w x A Y E) :
    Calls Tryd.prog 9 #[.agg cs] w fun e w' => e = .returned (.bool true) ∧ Below w.heap.size w w' := by
  obtain ⟨er, her⟩ : ∃ er, er = errC x := ⟨_, rfl⟩
  obtain ⟨pb, hpb⟩ : ∃ pb, pb = if errC x = 0 then putO x else [] := ⟨_, rfl⟩
  obtain ⟨pl, hpl⟩ : ∃ pl, pl = pb.length := ⟨_, rfl⟩
  have HI := Aside0.mk (And.intro hcs (And.intro hI hpl))
  have HP : Aside0 (∀ W, Below w.heap.size w W → Calls Tryd.prog 30 #[.agg cs] W fun e w' => ∃ A' c, e = .returned (.tuple #[.slice A' pl c, .int .i64 er]) ∧ pl ≤ c ∧ Kd.C (Kd.int .u8) w' A' pb.length pb ∧ Below W.heap.size W w') := ⟨fun W hb => by
    refine (oput_calls hcs (hI.below hb)).mono ?_
    rintro e w' ⟨v, rfl, hv, hb'⟩
    obtain ⟨A', c, rfl, hc, hC⟩ := Kd.R_reads hv
    rw [← hpb] at hc hC
    exact ⟨A', c, by rw [her, hpl, hpb], by rw [hpl]; exact hc, hC, hb'⟩⟩
  have HRP : Aside0 (∀ W rs Y' E' yc' ec', RV rs x Y' E' yc' ec' → InR W x Y' E' → Calls Tryd.prog 31 #[.agg rs] W fun e w' => e = .returned (.tuple #[.string (S pb), .int .i64 er]) ∧ Below W.heap.size W w') := ⟨fun W rs Y' E' yc' ec' h1 h2 => by
    rw [her, hpb]; exact roput_calls h1 h2⟩
  have HCk : Aside0 (∀ W, Below w.heap.size w W → Calls Tryd.prog 33 #[.agg cs] W fun e w' => e = .returned (.int .i64 er) ∧ Below W.heap.size W w') := ⟨fun W hb => by
    rw [her]; exact ocheck_calls hcs (hI.below hb).eC hI.el hI.k⟩
  have HRC : Aside0 (∀ W rs Y' E' yc' ec', RV rs x Y' E' yc' ec' → InR W x Y' E' → Calls Tryd.prog 34 #[.agg rs] W fun e w' => e = .returned (.int .i64 er) ∧ Below W.heap.size W w') := ⟨fun W rs Y' E' yc' ec' h1 h2 => by
    rw [her]; exact rocheck_calls h1 h2⟩
  have HG : Aside0 (er = 0 → (getO pb = (x, 0) ∧ Byt pb ∧ pb.length ≤ 1000000)) := ⟨fun h0 => by
    have h0' : errC x = 0 := by rw [← her]; exact h0
    have e : pb = putO x := by rw [hpb, if_pos h0']
    obtain ⟨f1, f2⟩ := putO_fit hI h0'
    rw [e]
    exact ⟨get_put_o (wf_of hI) h0', f2, f1⟩⟩
  obtain ⟨sm, hsm⟩ : ∃ sm, sm = smallM x := ⟨_, rfl⟩
  have HS := Aside0.mk hsm
  clear hcs hI her hpb hpl hsm
  cases sm
  · go_enter Tryd.func9, Tryd.ntmps9
    go_wp2_with (first
      | ((with_reducible refine gate_dst (N := 1) rfl ?_); refine box_event ?hg (N := 1) ?hd (cs := cs) (t := 57) ?hr ?_; (case hd => rfl); (case hg => rfl); (case hr => exact exec_box _ _ _ rfl cs rfl); intro gb hgb w1 hbox hb1; have H1 := Aside0.mk (show OB w1 gb x A Y E bc yc ec ∧ Below w.heap.size w w1 from And.intro (OB.of HI.out.1 hbox) hb1); clear hbox hb1 hgb)
      | (go_at_call 28; go_loud (refine (awake12_calls w1).mono ?_; rintro e w2 ⟨rfl, hb2⟩; have H2 := Aside0.mk (show OB w2 gb x A Y E bc yc ec ∧ Below w.heap.size w w2 from And.intro (H1.out.1.below hb2) (below_step H1.out.2 hb2)); clear hb2))
      | ((with_reducible refine gate_dst (N := 14) rfl ?_); refine Kd.event_run rfl (v := .agg cs) (w1 := w2) ?hr ?_; (case hr => exact H2.out.1.load HI.out.1 (.tmp 1) rfl rfl))
      | (go_at_call 29; go_loud (have hx := small_calls (w := w2) HI.out.1 (HI.out.2.1.below H2.out.2); rw [← HS.out] at hx; refine hx.mono ?_; clear hx; rintro e w3 ⟨rfl, hb3⟩; have H3 := Aside0.mk (below_step H2.out.2 hb3); clear hb3)))
    go_ret
    exact ⟨rfl, H3.out⟩
  have HF := Aside0.mk (small_few HS.out.symm)
  go_enter Tryd.func9, Tryd.ntmps9
  go_upto_region 9 with (first
    | ((with_reducible refine gate_dst (N := 1) rfl ?_); refine box_event ?hg (N := 1) ?hd (cs := cs) (t := 57) ?hr ?_; (case hd => rfl); (case hg => rfl); (case hr => exact exec_box _ _ _ rfl cs rfl); intro gb hgb w1 hbox hb1; have H1 := Aside0.mk (show OB w1 gb x A Y E bc yc ec ∧ Below w.heap.size w w1 from And.intro (OB.of HI.out.1 hbox) hb1); clear hbox hb1 hgb)
    | (go_at_call 28; go_loud (refine (awake12_calls w1).mono ?_; rintro e w2 ⟨rfl, hb2⟩; have H2 := Aside0.mk (show OB w2 gb x A Y E bc yc ec ∧ Below w.heap.size w w2 from And.intro (H1.out.1.below hb2) (below_step H1.out.2 hb2)); clear hb2))
    | ((with_reducible refine gate_dst (N := 14) rfl ?_); refine Kd.event_run rfl (v := .agg cs) (w1 := w2) ?hr ?_; (case hr => exact H2.out.1.load HI.out.1 (.tmp 1) rfl rfl))
    | (go_at_call 29; go_loud (have hx := small_calls (w := w2) HI.out.1 (HI.out.2.1.below H2.out.2); rw [← HS.out] at hx; refine hx.mono ?_; clear hx; rintro e w3 ⟨rfl, hb3⟩; have H3 := Aside0.mk (show OB w3 gb x A Y E bc yc ec ∧ Below w.heap.size w w3 from And.intro (H2.out.1.below hb3) (below_step H2.out.2 hb3)); clear hb3))
    | ((with_reducible refine gate_dst (N := 19) rfl ?_); refine Kd.event_run rfl (v := .agg cs) (w1 := w3) ?hr ?_; (case hr => exact H3.out.1.load HI.out.1 (.tmp 1) rfl rfl))
    | (go_at_call 30; go_loud (refine (HP.out w3 H3.out.2).mono ?_; rintro e w4 ⟨A3, c3, rfl, hc3, hC3, hb4⟩; have H4 := Aside0.mk (show OB w4 gb x A Y E bc yc ec ∧ Below w.heap.size w w4 ∧ Kd.C (Kd.int .u8) w4 A3 pb.length pb ∧ pl ≤ c3 from ⟨H3.out.1.below hb4, below_step H3.out.2 hb4, hC3, hc3⟩); clear hb4 hC3 hc3))
    | ((with_reducible refine gate_dst (N := 24) rfl ?_); refine Kd.event_run rfl (v := .agg cs) (w1 := w4) ?hr ?_; (case hr => exact H4.out.1.load HI.out.1 (.tmp 1) rfl rfl))
    | (go_at_call 32; go_loud (refine (modelOf_calls HI.out.1 (HI.out.2.1.below H4.out.2.1) (by have := HF.out; omega)).mono ?_; rintro e w5 ⟨rs, Y5, E5, yc5, ec5, rfl, hrv, hir, hb5⟩; have H5 := Aside0.mk (show OB w5 gb x A Y E bc yc ec ∧ Below w.heap.size w w5 ∧ Kd.C (Kd.int .u8) w5 A3 pb.length pb ∧ pl ≤ c3 ∧ RV rs x Y5 E5 yc5 ec5 ∧ InR w5 x Y5 E5 from ⟨H4.out.1.below hb5, below_step H4.out.2.1 hb5, Kd.C_below H4.out.2.2.1 hb5, H4.out.2.2.2, hrv, hir⟩); clear hb5 hrv hir))
    | (go_at_call 31; go_loud (refine (HRP.out w5 rs Y5 E5 yc5 ec5 H5.out.2.2.2.2.1 H5.out.2.2.2.2.2).mono ?_; rintro e w6 ⟨rfl, hb6⟩; have H6 := Aside0.mk (show OB w6 gb x A Y E bc yc ec ∧ Below w.heap.size w w6 ∧ Kd.C (Kd.int .u8) w6 A3 pb.length pb ∧ pl ≤ c3 from ⟨H5.out.1.below hb6, below_step H5.out.2.1 hb6, Kd.C_below H5.out.2.2.1 hb6, H5.out.2.2.2.1⟩); clear hb6)))
  clear H1 H2 H3 H4 H5
  obtain ⟨wd, hwd⟩ : ∃ wd, wd = w6.drew := ⟨_, rfl⟩
  have hbd : Below w6.heap.size w6 wd := by rw [hwd]; exact below_drew1 (Below.refl _ _)
  have HD := Aside0.mk (show OB wd gb x A Y E bc yc ec ∧ Below w.heap.size w wd ∧ Kd.C (Kd.int .u8) wd A3 pb.length pb ∧ pl ≤ c3 from ⟨H6.out.1.below hbd, below_step H6.out.2.1 hbd, Kd.C_below H6.out.2.2.1 hbd, H6.out.2.2.2⟩)
  clear hbd H6
  obtain ⟨s, hs⟩ : ∃ s, s = S pb := ⟨_, rfl⟩
  have hcv : (convert 27 9 (.slice A3 pl c3)).run Tryd.prog wd = .ok (.string s) wd := by rw [hs]; exact conv_row HI.out.2.2 HD.out.2.2.1 (Below.refl _ _)
  rw [← hs]
  clear hs
  refine start_ (n := 17) (S := fun w' => OB w' gb x A Y E bc yc ec) (ds := []) #[false, false, false, false, false, false, false, false, false, false, false, false, false, false, false, false, false] (by kernel_rfl) rfl (by kernel_rfl) (by rw [← hwd]; exact HD.out.1) (fun hHeld => ?_)
  rw [← hwd] at hHeld ⊢
  clear hwd
  refine pure_ (i := 0) (N := some 29) (v := ?_) (a' := ?_) #[true, false, false, false, false, false, false, false, false, false, false, false, false, false, false, false, false] rfl rfl (by kernel_rfl) (fun _ _ _ h => h) (Or.inl ⟨by rfl, ?_⟩) ?_ ?_
  rotate_left
  · intro w'
    go_simp
    with_reducible rfl
  rotate_left
  · simp only [Act.put, List.setIfInBounds_toArray, List.set_cons_zero, List.set_cons_succ, i64_w, i32_w]
    rfl
  refine pure_ (i := 2) (N := some 31) (v := ?_) (a' := ?_) #[true, false, true, false, false, false, false, false, false, false, false, false, false, false, false, false, false] rfl rfl (by kernel_rfl) (fun _ _ _ h => h) (Or.inl ⟨by rfl, ?_⟩) ?_ ?_
  rotate_left
  · intro w'
    go_simp
    with_reducible rfl
  rotate_left
  · simp only [Act.put, List.setIfInBounds_toArray, List.set_cons_zero, List.set_cons_succ, i64_w, i32_w]
    rfl
  refine one_ (i := 1) (N := some 30) #[true, true, true, false, false, false, false, false, false, false, false, false, false, false, false, false, false] rfl rfl (by kernel_rfl) (by decide) (fun K hK => ?_)
  refine value_ (w1 := ?_) (v := ?_) (by rfl) rfl ?_ ?_
  rotate_left 2
  · go_simp
    constructor
    · rfl
    · rfl
  refine hK.out _ _ (hHeld) (fun hHeld => ?_)
  clear hK K
  refine norm_ (a' := ?_) ?_ ?_
  rotate_left
  · show Act.put _ (some 30) _ = _
    simp only [Act.put, List.setIfInBounds_toArray, List.set_cons_zero, List.set_cons_succ, i64_w, i32_w]
    rfl
  clear hcv
  refine pure_ (i := 3) (N := some 32) (v := ?_) (a' := ?_) #[true, true, true, true, false, false, false, false, false, false, false, false, false, false, false, false, false] rfl rfl (by kernel_rfl) (fun _ _ _ h => h) (Or.inl ⟨by rfl, ?_⟩) ?_ ?_
  rotate_left
  · intro w'
    go_simp
    with_reducible rfl
  rotate_left
  · simp only [Act.put, List.setIfInBounds_toArray, List.set_cons_zero, List.set_cons_succ, i64_w, i32_w]
    rfl
  refine pure_ (i := 4) (N := some 33) (v := ?_) (a' := ?_) #[true, true, true, true, true, false, false, false, false, false, false, false, false, false, false, false, false] rfl rfl (by kernel_rfl) (fun _ _ _ h => h) (Or.inl ⟨by rfl, ?_⟩) ?_ ?_
  rotate_left
  · intro w'
    go_simp
    with_reducible rfl
  rotate_left
  · simp only [Act.put, List.setIfInBounds_toArray, List.set_cons_zero, List.set_cons_succ, i64_w, i32_w]
    rfl
  refine pure_ (i := 5) (N := some 34) (v := ?_) (a' := ?_) #[true, true, true, true, true, true, false, false, false, false, false, false, false, false, false, false, false] rfl rfl (by kernel_rfl) (fun _ _ _ h => h) (Or.inl ⟨by rfl, ?_⟩) ?_ ?_
  rotate_left
  · intro w'
    go_simp
    with_reducible rfl
  rotate_left
  · simp only [Act.put, List.setIfInBounds_toArray, List.set_cons_zero, List.set_cons_succ, i64_w, i32_w]
    rfl
  refine pure_ (i := 6) (N := some 35) (v := ?_) (a' := ?_) #[true, true, true, true, true, true, true, false, false, false, false, false, false, false, false, false, false] rfl rfl (by kernel_rfl) (fun _ _ _ h => h) (Or.inl ⟨by rfl, ?_⟩) ?_ ?_
  rotate_left
  · intro w'
    go_simp
    with_reducible rfl
  rotate_left
  · simp only [Act.put, List.setIfInBounds_toArray, List.set_cons_zero, List.set_cons_succ, i64_w, i32_w]
    rfl
  refine pure_ (i := 7) (N := some 36) (v := ?_) (a' := ?_) #[true, true, true, true, true, true, true, true, false, false, false, false, false, false, false, false, false] rfl rfl (by kernel_rfl) (fun _ _ _ h => h) (Or.inl ⟨by rfl, ?_⟩) ?_ ?_
  rotate_left
  · intro w'
    go_simp
    with_reducible rfl
  rotate_left
  · simp only [Act.put, List.setIfInBounds_toArray, List.set_cons_zero, List.set_cons_succ, i64_w, i32_w]
    rfl
  refine pure_ (i := 8) (N := some 37) (v := ?_) (a' := ?_) #[true, true, true, true, true, true, true, true, true, false, false, false, false, false, false, false, false] rfl rfl (by kernel_rfl) (fun _ _ _ h => h) (Or.inl ⟨by rfl, ?_⟩) ?_ ?_
  rotate_left
  · intro w'
    go_simp
    with_reducible rfl
  rotate_left
  · simp only [Act.put, List.setIfInBounds_toArray, List.set_cons_zero, List.set_cons_succ, i64_w, i32_w]
    rfl
  refine pure_ (i := 9) (N := some 38) (v := ?_) (a' := ?_) #[true, true, true, true, true, true, true, true, true, true, false, false, false, false, false, false, false] rfl rfl (by kernel_rfl) (fun _ _ _ h => h) (Or.inl ⟨by rfl, ?_⟩) ?_ ?_
  rotate_left
  · intro w'
    go_simp
    with_reducible rfl
  rotate_left
  · simp only [Act.put, List.setIfInBounds_toArray, List.set_cons_zero, List.set_cons_succ, i64_w, i32_w]
    rfl
  refine take_ (i := 10) (N := some 39) (v := .agg cs) (a' := ?_) #[true, true, true, true, true, true, true, true, true, true, true, false, false, false, false, false, false] rfl rfl (by kernel_rfl) (fun _ _ _ h => h) (Or.inl ⟨by rfl, fun w' s0 => ?ld⟩) hHeld ?_ ?_
  case ld => exact s0.load HI.out.1 (.tmp 1) rfl rfl
  rotate_left
  · simp only [Act.put, List.setIfInBounds_toArray, List.set_cons_zero, List.set_cons_succ, i64_w, i32_w]
    rfl
  refine take_ (i := 12) (N := some 41) (v := .agg cs) (a' := ?_) #[true, true, true, true, true, true, true, true, true, true, true, false, true, false, false, false, false] rfl rfl (by kernel_rfl) (fun _ _ _ h => h) (Or.inl ⟨by rfl, fun w' s0 => ?ld⟩) hHeld ?_ ?_
  case ld => exact s0.load HI.out.1 (.tmp 1) rfl rfl
  rotate_left
  · simp only [Act.put, List.setIfInBounds_toArray, List.set_cons_zero, List.set_cons_succ, i64_w, i32_w]
    rfl
  refine one_ (i := 11) (N := some 40) #[true, true, true, true, true, true, true, true, true, true, true, true, true, false, false, false, false] rfl rfl (by kernel_rfl) (by decide) (fun K hK => ?_)
  refine goes_ Tryd.func33 (by kernel_rfl) rfl #[.agg cs] (by rfl) rfl rfl (by (try simp only [List.map_toArray, List.map_cons, List.map_nil]); first | rfl | (go_simp; done)) ?_
  refine (HCk.out wd HD.out.2.1).mono ?_
  rintro e w7 ⟨rfl, hb7⟩
  refine ⟨_, rfl, ?_⟩
  have H7 := Aside0.mk (show OB w7 gb x A Y E bc yc ec ∧ Below w.heap.size w w7 ∧ Kd.C (Kd.int .u8) w7 A3 pb.length pb from ⟨HD.out.1.below hb7, below_step HD.out.2.1 hb7, Kd.C_below HD.out.2.2.1 hb7⟩)
  clear hb7
  refine hK.out _ _ (H7.out.1) (fun hHeld => ?_)
  clear hK K
  refine norm_ (a' := ?_) ?_ ?_
  rotate_left
  · show Act.put _ (some 40) _ = _
    simp only [Act.put, List.setIfInBounds_toArray, List.set_cons_zero, List.set_cons_succ, i64_w, i32_w]
    rfl
  refine one_ (i := 13) (N := some 42) #[true, true, true, true, true, true, true, true, true, true, true, true, true, true, false, false, false] rfl rfl (by kernel_rfl) (by decide) (fun K hK => ?_)
  refine goes_ Tryd.func32 (by kernel_rfl) rfl #[.agg cs] (by rfl) rfl rfl (by (try simp only [List.map_toArray, List.map_cons, List.map_nil]); first | rfl | (go_simp; done)) ?_
  refine (modelOf_calls HI.out.1 (HI.out.2.1.below H7.out.2.1) (by have := HF.out; omega)).mono ?_
  rintro e w8 ⟨r8, Y8, E8, yc8, ec8, rfl, hrv, hir, hb8⟩
  refine ⟨_, rfl, ?_⟩
  have H8 := Aside0.mk (show OB w8 gb x A Y E bc yc ec ∧ Below w.heap.size w w8 ∧ Kd.C (Kd.int .u8) w8 A3 pb.length pb ∧ RV r8 x Y8 E8 yc8 ec8 ∧ InR w8 x Y8 E8 from ⟨H7.out.1.below hb8, below_step H7.out.2.1 hb8, Kd.C_below H7.out.2.2 hb8, hrv, hir⟩)
  clear hb8 hrv hir
  refine hK.out _ _ (H8.out.1) (fun hHeld => ?_)
  clear hK K
  refine norm_ (a' := ?_) ?_ ?_
  rotate_left
  · show Act.put _ (some 42) _ = _
    simp only [Act.put, List.setIfInBounds_toArray, List.set_cons_zero, List.set_cons_succ, i64_w, i32_w]
    rfl
  refine one_ (i := 14) (N := some 43) #[true, true, true, true, true, true, true, true, true, true, true, true, true, true, true, false, false] rfl rfl (by kernel_rfl) (by decide) (fun K hK => ?_)
  refine goes_ Tryd.func34 (by kernel_rfl) rfl #[.agg r8] (by rfl) rfl rfl (by (try simp only [List.map_toArray, List.map_cons, List.map_nil]); first | rfl | (go_simp; done)) ?_
  refine (HRC.out w8 r8 Y8 E8 yc8 ec8 H8.out.2.2.2.1 H8.out.2.2.2.2).mono ?_
  rintro e w9 ⟨rfl, hb9⟩
  refine ⟨_, rfl, ?_⟩
  have H9 := Aside0.mk (show OB w9 gb x A Y E bc yc ec ∧ Below w.heap.size w w9 ∧ Kd.C (Kd.int .u8) w9 A3 pb.length pb from ⟨H8.out.1.below hb9, below_step H8.out.2.1 hb9, Kd.C_below H8.out.2.2.1 hb9⟩)
  clear hb9
  refine hK.out _ _ (H9.out.1) (fun hHeld => ?_)
  clear hK K
  refine norm_ (a' := ?_) ?_ ?_
  rotate_left
  · show Act.put _ (some 43) _ = _
    simp only [Act.put, List.setIfInBounds_toArray, List.set_cons_zero, List.set_cons_succ, i64_w, i32_w]
    rfl
  refine pure_ (i := 15) (N := some 44) (v := ?_) (a' := ?_) #[true, true, true, true, true, true, true, true, true, true, true, true, true, true, true, true, false] rfl rfl (by kernel_rfl) (fun _ _ _ h => h) (Or.inl ⟨by rfl, ?_⟩) ?_ ?_
  rotate_left
  · intro w'
    go_simp
    with_reducible rfl
  rotate_left
  · simp only [Act.put, List.setIfInBounds_toArray, List.set_cons_zero, List.set_cons_succ, i64_w, i32_w]
    rfl
  refine pure_ (i := 16) (N := some 45) (v := ?_) (a' := ?_) #[true, true, true, true, true, true, true, true, true, true, true, true, true, true, true, true, true] rfl rfl (by kernel_rfl) (fun _ _ _ h => h) (Or.inl ⟨by rfl, ?_⟩) ?_ ?_
  rotate_left
  · intro w'
    go_simp
    with_reducible rfl
  rotate_left
  · simp only [Act.put, List.setIfInBounds_toArray, List.set_cons_zero, List.set_cons_succ, i64_w, i32_w]
    rfl
  refine done_ (by kernel_rfl) ?_
  clear hHeld H7 H8
  by_cases hz : er = 0
  · subst hz
    have HGG := Aside0.mk (HG.out rfl)
    go_upto_region 14 with (first
      | (go_at_call 35; go_loud (have hx := oget_calls (w := w9) (b := pb) (A0 := A3) (c0 := c3) H9.out.2.2 (by have := HD.out.2.2.2; have := HI.out.2.2; omega) (by have := HGG.out.2.2; omega) HGG.out.2.1; rw [← HI.out.2.2] at hx; refine hx.mono ?_; clear hx; rintro e wA ⟨csA, AA, YA, EA, bA, yA, eA, rfl, hov, hin, hbA⟩; rw [HGG.out.1] at hov hin ⊢; have HA := Aside0.mk (show OV csA x AA YA EA bA yA eA ∧ InO wA x AA YA EA ∧ OB wA gb x A Y E bc yc ec ∧ Below w.heap.size w wA from ⟨hov, hin, H9.out.1.below hbA, below_step H9.out.2.1 hbA⟩); clear hov hin hbA))
      | ((with_reducible refine gate_dst (N := 9) rfl ?_); refine Kd.event_run rfl (v := .pointer (some ⟨wA.heap.size, 0, none⟩)) (w1 := wA.alloc (.cells oz 57)) ?hr ?_; (case hr => first | kernel_rfl | (go_simp; done) | (go_simp; rfl)); go_loud (refine wpName (fun wB hwB => ?_); obtain ⟨g9, hg9⟩ : ∃ g, g = wA.heap.size := ⟨_, rfl⟩; have HB := Aside0.mk (show wB.heap[g9]? = some (.cells oz 57 (0, 0)) ∧ Below wA.heap.size wA wB ∧ g9 = wA.heap.size from ⟨by rw [hwB, hg9]; exact blk_new wA _, by rw [hwB]; exact below_alloc (Below.refl _ _) _, hg9⟩); rw [← hg9]; clear hwB hg9))
      | ((with_reducible refine gate_store (ty := 57) (x := .tmp 9) (y := .tmp 51) rfl ?_); go_loud (refine wpList_store_row rfl 57 (.tmp 9) (.tmp 51) rfl g9 csA rfl rfl 57 oz HB.out.1 (ov_all HA.out.1).1 (ov_all HA.out.1).2.1 (ov_all HA.out.1).2.2 ?_; refine wpName (fun wC hwC => ?_); have hbC : Below wA.heap.size wA wC := (by rw [hwC]; exact below_setRow HB.out.2.1 (by rw [HB.out.2.2]; exact Nat.le_refl _) _); have HC := Aside0.mk (show OB wC g9 x AA YA EA bA yA eA ∧ InO wC x AA YA EA ∧ OB wC gb x A Y E bc yc ec ∧ Below w.heap.size w wC from ⟨OB.of HA.out.1 (by rw [hwC]; exact setRow_heap _ _ _ _ _ _ HB.out.1), HA.out.2.1.below hbC, HA.out.2.2.1.below hbC, below_step HA.out.2.2.2 hbC⟩); clear hwC hbC)))
    obtain ⟨wd2, hwd2⟩ : ∃ wd2, wd2 = wC.drew := ⟨_, rfl⟩
    have hbd2 : Below wC.heap.size wC wd2 := by rw [hwd2]; exact below_drew1 (Below.refl _ _)
    have HE := Aside0.mk (show OB wd2 g9 x AA YA EA bA yA eA ∧ InO wd2 x AA YA EA ∧ OB wd2 gb x A Y E bc yc ec ∧ Below w.heap.size w wd2 from ⟨HC.out.1.below hbd2, HC.out.2.1.below hbd2, HC.out.2.2.1.below hbd2, below_step HC.out.2.2.2 hbd2⟩)
    clear hbd2 HB HC
    refine start_ (n := 10) (S := fun w' => OB w' g9 x AA YA EA bA yA eA ∧ OB w' gb x A Y E bc yc ec) (ds := []) #[false, false, false, false, false, false, false, false, false, false] (by kernel_rfl) rfl (by kernel_rfl) (by rw [← hwd2]; exact ⟨HE.out.1, HE.out.2.2.1⟩) (fun hHeld => ?_)
    rw [← hwd2] at hHeld ⊢
    clear hwd2
    refine pure_ (i := 0) (N := some 53) (v := ?_) (a' := ?_) #[true, false, false, false, false, false, false, false, false, false] rfl rfl (by kernel_rfl) (fun _ _ _ h => h) (Or.inl ⟨by rfl, ?_⟩) ?_ ?_
    rotate_left
    · intro w'
      go_simp
      with_reducible rfl
    rotate_left
    · simp only [Act.put, List.setIfInBounds_toArray, List.set_cons_zero, List.set_cons_succ, i64_w, i32_w]
      rfl
    refine pure_ (i := 1) (N := some 54) (v := ?_) (a' := ?_) #[true, true, false, false, false, false, false, false, false, false] rfl rfl (by kernel_rfl) (fun _ _ _ h => h) (Or.inl ⟨by rfl, ?_⟩) ?_ ?_
    rotate_left
    · intro w'
      go_simp
      with_reducible rfl
    rotate_left
    · simp only [Act.put, List.setIfInBounds_toArray, List.set_cons_zero, List.set_cons_succ, i64_w, i32_w]
      rfl
    refine pure_ (i := 2) (N := some 55) (v := ?_) (a' := ?_) #[true, true, true, false, false, false, false, false, false, false] rfl rfl (by kernel_rfl) (fun _ _ _ h => h) (Or.inl ⟨by rfl, ?_⟩) ?_ ?_
    rotate_left
    · intro w'
      go_simp
      with_reducible rfl
    rotate_left
    · simp only [Act.put, List.setIfInBounds_toArray, List.set_cons_zero, List.set_cons_succ, i64_w, i32_w]
      rfl
    refine take_ (i := 3) (N := some 56) (v := .agg csA) (a' := ?_) #[true, true, true, true, false, false, false, false, false, false] rfl rfl (by kernel_rfl) (fun _ _ _ h => h) (Or.inl ⟨by rfl, fun w' s0 => ?ld⟩) hHeld ?_ ?_
    case ld => exact s0.1.load HA.out.1 (.tmp 9) rfl rfl
    rotate_left
    · simp only [Act.put, List.setIfInBounds_toArray, List.set_cons_zero, List.set_cons_succ, i64_w, i32_w]
      rfl
    refine take_ (i := 5) (N := some 58) (v := .agg cs) (a' := ?_) #[true, true, true, true, false, true, false, false, false, false] rfl rfl (by kernel_rfl) (fun _ _ _ h => h) (Or.inl ⟨by rfl, fun w' s0 => ?ld⟩) hHeld ?_ ?_
    case ld => exact s0.2.load HI.out.1 (.tmp 1) rfl rfl
    rotate_left
    · simp only [Act.put, List.setIfInBounds_toArray, List.set_cons_zero, List.set_cons_succ, i64_w, i32_w]
      rfl
    refine one_ (i := 4) (N := some 57) #[true, true, true, true, true, true, false, false, false, false] rfl rfl (by kernel_rfl) (by decide) (fun K hK => ?_)
    refine goes_ Tryd.func32 (by kernel_rfl) rfl #[.agg csA] (by rfl) rfl rfl (by (try simp only [List.map_toArray, List.map_cons, List.map_nil]); first | rfl | (go_simp; done)) ?_
    refine (modelOf_calls HA.out.1 HE.out.2.1 (by have := HF.out; omega)).mono ?_
    rintro e wE ⟨rE, YE, EE, ycE, ecE, rfl, hrv, hir, hbE⟩
    refine ⟨_, rfl, ?_⟩
    have HF1 := Aside0.mk (show RV rE x YE EE ycE ecE ∧ InR wE x YE EE ∧ Below wd2.heap.size wd2 wE from ⟨hrv, hir, hbE⟩)
    clear hbE hrv hir
    refine hK.out _ _ (⟨HE.out.1.below HF1.out.2.2, HE.out.2.2.1.below HF1.out.2.2⟩) (fun hHeld => ?_)
    clear hK K
    refine norm_ (a' := ?_) ?_ ?_
    rotate_left
    · show Act.put _ (some 57) _ = _
      simp only [Act.put, List.setIfInBounds_toArray, List.set_cons_zero, List.set_cons_succ, i64_w, i32_w]
      rfl
    refine one_ (i := 6) (N := some 59) #[true, true, true, true, true, true, true, false, false, false] rfl rfl (by kernel_rfl) (by decide) (fun K hK => ?_)
    refine goes_ Tryd.func32 (by kernel_rfl) rfl #[.agg cs] (by rfl) rfl rfl (by (try simp only [List.map_toArray, List.map_cons, List.map_nil]); first | rfl | (go_simp; done)) ?_
    refine (modelOf_calls HI.out.1 (HI.out.2.1.below (below_step HE.out.2.2.2 HF1.out.2.2)) (by have := HF.out; omega)).mono ?_
    rintro e wF ⟨rF, YF, EF, ycF, ecF, rfl, hrv, hir, hbF⟩
    refine ⟨_, rfl, ?_⟩
    have HF2 := Aside0.mk (show RV rF x YF EF ycF ecF ∧ InR wF x YF EF ∧ InR wF x YE EE ∧ Below wd2.heap.size wd2 wF from ⟨hrv, hir, HF1.out.2.1.below hbF, below_step HF1.out.2.2 hbF⟩)
    clear hbF hrv hir
    refine hK.out _ _ (⟨HE.out.1.below HF2.out.2.2.2, HE.out.2.2.1.below HF2.out.2.2.2⟩) (fun hHeld => ?_)
    clear hK K
    refine norm_ (a' := ?_) ?_ ?_
    rotate_left
    · show Act.put _ (some 59) _ = _
      simp only [Act.put, List.setIfInBounds_toArray, List.set_cons_zero, List.set_cons_succ, i64_w, i32_w]
      rfl
    refine one_ (i := 7) (N := some 60) #[true, true, true, true, true, true, true, true, false, false] rfl rfl (by kernel_rfl) (by decide) (fun K hK => ?_)
    refine goes_ Tryd.func36 (by kernel_rfl) rfl #[.agg rE, .agg rF] (by rfl) rfl rfl (by (try simp only [List.map_toArray, List.map_cons, List.map_nil]); first | rfl | (go_simp; done)) ?_
    refine (rosame_calls HF1.out.1 HF2.out.2.2.1 HF2.out.1 HF2.out.2.1).mono ?_
    rintro e wG ⟨rfl, hbG⟩
    refine ⟨_, rfl, ?_⟩
    have HF3 := Aside0.mk (below_step HF2.out.2.2.2 hbG)
    clear hbG
    refine hK.out _ _ (⟨HE.out.1.below HF3.out, HE.out.2.2.1.below HF3.out⟩) (fun hHeld => ?_)
    clear hK K
    refine norm_ (a' := ?_) ?_ ?_
    rotate_left
    · show Act.put _ (some 60) _ = _
      simp only [Act.put, List.setIfInBounds_toArray, List.set_cons_zero, List.set_cons_succ, i64_w, i32_w]
      rfl
    refine pure_ (i := 8) (N := some 61) (v := ?_) (a' := ?_) #[true, true, true, true, true, true, true, true, true, false] rfl rfl (by kernel_rfl) (fun _ _ _ h => h) (Or.inl ⟨by rfl, ?_⟩) ?_ ?_
    rotate_left
    · intro w'
      go_simp
      with_reducible rfl
    rotate_left
    · simp only [Act.put, List.setIfInBounds_toArray, List.set_cons_zero, List.set_cons_succ, i64_w, i32_w]
      rfl
    refine pure_ (i := 9) (N := some 2) (v := ?_) (a' := ?_) #[true, true, true, true, true, true, true, true, true, true] rfl rfl (by kernel_rfl) (fun _ _ _ h => h) (Or.inl ⟨by rfl, ?_⟩) ?_ ?_
    rotate_left
    · intro w'
      go_simp
      with_reducible rfl
    rotate_left
    · simp only [Act.put, List.setIfInBounds_toArray, List.set_cons_zero, List.set_cons_succ, i64_w, i32_w]
      rfl
    refine done_ (by kernel_rfl) ?_
    go_wp2
    go_ret
    exact ⟨rfl, below_step HE.out.2.2.2 HF3.out⟩
  · have d5 : (er != 0) = true := bne_iff_ne.2 hz
    clear hz
    go_wp2
    go_ret
    exact ⟨rfl, H9.out.2.1⟩
set_option maxRecDepth 100000 in
theorem pts_row {H : Type} {enc : TypeId × Value → H} {base : Nat} {r : Reach} {b0 : Nat} {v : Value} {d : DataW H} {p : List MemPlace} (hv : Value.okWide Tryd.prog w r b0 57 v) (h : DataW.Trod enc Tryd.prog w base (fun _ => true) true 57 v d p) :
    Calls Tryd.prog 9 #[v] w fun e w' => e = .returned (.bool true) ∧ Below w.heap.size w w' := by
  obtain ⟨cs, x, A, Y, E, bc, yc, ec, rfl, h1, h2⟩ := open_obj hv h
  exact pts_law h1 h2
end
end Go.Proofs.YtgjdcdhfijkoiaaDoor.Obj
end
