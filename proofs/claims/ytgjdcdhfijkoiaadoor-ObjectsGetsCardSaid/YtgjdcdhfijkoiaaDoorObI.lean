/- The reference's Put of an object, kind by kind (printed by gen_rpt.py). -/
import Derived.Test.YtgjdcdhfijkoiaaDoorObH
import Derived.Test.YtgjdcdhfijkoiaaDoorFiF
section
namespace Go.Proofs.YtgjdcdhfijkoiaaDoor.Obj
open Go.RowKit Go.Proofs.YtgjdcdhfijkoiaaDoorW.PrintWords Go.Proofs.YtgjdcdhfijkoiaaDoorW.PrintLast Go.Proofs.YtgjdcdhfijkoiaaDoorW.PrintMore Go.Proofs.YtgjdcdhfijkoiaaDoor.Mem Go.Proofs.YtgjdcdhfijkoiaaDoor.Cod Go.Proofs.YtgjdcdhfijkoiaaDoor.PCod Go.Proofs.YtgjdcdhfijkoiaaDoor.Str Go.Proofs.YtgjdcdhfijkoiaaDoor.Open
set_option linter.unusedVariables false
set_option linter.unusedSimpArgs false
section
variable {w : World} {x : OM} {cs : Array Value} {Y E : Option Addr} {yc ec : Nat}
end
end Go.Proofs.YtgjdcdhfijkoiaaDoor.Obj
end
section
namespace Go.Proofs.YtgjdcdhfijkoiaaDoor.Obj
open Go.RowKit Go.Proofs.YtgjdcdhfijkoiaaDoorW.PrintWords Go.Proofs.YtgjdcdhfijkoiaaDoorW.PrintLast Go.Proofs.YtgjdcdhfijkoiaaDoorW.PrintMore Go.Proofs.YtgjdcdhfijkoiaaDoor.Mem Go.Proofs.YtgjdcdhfijkoiaaDoor.Cod Go.Proofs.YtgjdcdhfijkoiaaDoor.PCod Go.Proofs.YtgjdcdhfijkoiaaDoor.Str Go.Proofs.YtgjdcdhfijkoiaaDoor.Open
set_option linter.unusedVariables false
set_option linter.unusedSimpArgs false
theorem items_self (W : World) (a : List Int) (d : Nat) : ∀ is : List Nat, (∀ j ∈ is, j < a.length) →
    (Op.eqItems (d + 1) 5 (Tryd.prog.cellsOf 5) (nums .u8 a).toArray (nums .u8 a).toArray is).run Tryd.prog W = .ok true W := by
  intro is
  induction is with
  | nil => intro _; simp [Op.eqItems]
  | cons j is ih =>
    intro h
    have hj := h j List.mem_cons_self
    have e : (nums .u8 a).toArray[j * Tryd.prog.cellsOf 5]? = some (.int .u8 (a.getD j 0)) := by
      rw [cells_u8, Nat.mul_one, List.getElem?_toArray]
      unfold nums
      rw [List.getElem?_map, List.getElem?_eq_getElem hj, List.getD_eq_getElem?_getD, List.getElem?_eq_getElem hj]
      rfl
    simp only [Op.eqItems, Sem.run_bind, run_part_plain W plain_u8 e, Result.andThen_ok, run_equalIn_int W d 5 .u8 .u8 (a.getD j 0) (a.getD j 0) Tryd.underlying5]
    simp only [beq_self_eq_true, Bool.not_true, Bool.false_eq_true, if_false]
    exact ih (fun k hk => h k (List.mem_cons_of_mem _ hk))
theorem id_self (a : List Int) (ha : a.length = 32) (d : Nat) (W : World) : (Op.equalIn (d + 2) 74 (.agg (nums .u8 a).toArray) (.agg (nums .u8 a).toArray)).run Tryd.prog W = .ok true W := by
  obtain ⟨i, hi, _⟩ := Option.map_eq_some_iff.1 info_u8s
  rw [run_equalIn_array W (d + 1) _ _ Tryd.underlying74 hi, items_self W a d (List.range 32) (fun j hj => by have := List.mem_range.1 hj; omega)]
theorem part_s (W : World) (s : ByteArray) (b : Bool) {p : List Int} (hp : p.length = 32) : (part 9 (ecells ⟨s, b, p⟩).toArray 0).run Tryd.prog W = .ok (.string s) W ∧ (part 4 (ecells ⟨s, b, p⟩).toArray 1).run Tryd.prog W = .ok (.bool b) W ∧ (part 74 (ecells ⟨s, b, p⟩).toArray 2).run Tryd.prog W = .ok (.agg (nums .u8 p).toArray) W := by
  obtain ⟨x0, x1, x2, x3, x4, x5, x6, x7, x8, x9, x10, x11, x12, x13, x14, x15, x16, x17, x18, x19, x20, x21, x22, x23, x24, x25, x26, x27, x28, x29, x30, x31, rfl⟩ := list32 hp
  exact ⟨by kernel_rfl, by kernel_rfl, by kernel_rfl⟩
set_option maxRecDepth 100000 in
theorem ent_self (e : EM) (he : e.id.length = 32) (d : Nat) (W : World) : (Op.equalIn (d + 3) 111 (.agg (ecells e).toArray) (.agg (ecells e).toArray)).run Tryd.prog W = .ok true W := by
  obtain ⟨s, b, p⟩ := e
  obtain ⟨h0, h1, h2⟩ := part_s W s b he
  have hs : (Op.equalIn (d + 2) 9 (.string s) (.string s)).run Tryd.prog W = .ok true W := by rw [run_equalIn_string W (d + 1) _ _ _ Tryd.underlying9, beq_self_eq_true]
  have hb : (Op.equalIn (d + 2) 4 (.bool b) (.bool b)).run Tryd.prog W = .ok true W := by rw [run_equalIn_bool W (d + 1) _ _ _ Tryd.underlying4, beq_self_eq_true]
  refine eqA_of Tryd.underlying111 (by kernel_rfl) ?_
  show _ = Result.ok (true && (true && true)) W
  refine eqf_cons (a := .string s) (b := .string s) (r := true) (s := true && true) (by rfl) ?_ ?_ ?_ ?_
  · exact h0
  · exact h0
  · exact hs
  refine eqf_cons (a := .bool b) (b := .bool b) (r := true) (s := true) (by rfl) ?_ ?_ ?_ ?_
  · exact h1
  · exact h1
  · exact hb
  refine eqf_last (a := .agg (nums .u8 p).toArray) (b := .agg (nums .u8 p).toArray) (r := true) (by rfl) ?_ ?_ ?_
  · exact h2
  · exact h2
  · exact id_self p he d W
section
variable {w : World} {x : OM} {cs cs2 : Array Value} {Y E Y2 E2 : Option Addr} {yc ec yc2 ec2 : Nat}
set_option maxRecDepth 100000 in
set_option maxHeartbeats 8000000 in
theorem rosame_calls (hcs : RV cs x Y E yc ec) (hI : InR w x Y E) (hcs2 : RV cs2 x Y2 E2 yc2 ec2) (hI2 : InR w x Y2 E2) :
    Calls Tryd.prog 36 #[.agg cs, .agg cs2] w fun e w' => e = .returned (.bool true) ∧ Below w.heap.size w w' := by
  obtain ⟨yl, hyl⟩ : ∃ k, k = x.ids.length := ⟨_, rfl⟩
  obtain ⟨el, hel⟩ : ∃ k, k = x.es.length := ⟨_, rfl⟩
  have HCS := Aside0.mk (And.intro hcs (And.intro hI (And.intro hcs2 (And.intro hI2 (And.intro hyl hel)))))
  have hyl2 : yl ≤ 9223372036854775807 := by rw [hyl]; exact hI.yl
  have hel2 : el ≤ 9223372036854775807 := by rw [hel]; exact hI.el
  clear hcs hI hcs2 hI2 hyl hel
  go_enter Tryd.func36, Tryd.ntmps36
  go_wp2_with (first
    | ((with_reducible refine gate_dst (N := 2) rfl ?_); refine box_event ?hg (N := 2) ?hd (cs := cs) (t := 63) ?hr ?_; (case hd => rfl); (case hg => rfl); (case hr => exact exec_box _ _ _ rfl cs rfl); intro gb hgb w1 hbox hb1; have H1 := Aside0.mk (show RBx w1 gb x Y E yc ec ∧ Below w.heap.size w w1 from And.intro (RBx.of HCS.out.1 hbox) hb1); clear hbox hb1 hgb)
    | ((with_reducible refine gate_dst (N := 3) rfl ?_); refine box_event ?hg (N := 3) ?hd (cs := cs2) (t := 63) ?hr ?_; (case hd => rfl); (case hg => rfl); (case hr => exact exec_box _ _ _ rfl cs2 rfl); intro gc hgc w2 hbox hb2; have H2 := Aside0.mk (show RBx w2 gb x Y E yc ec ∧ RBx w2 gc x Y2 E2 yc2 ec2 ∧ Below w.heap.size w w2 from ⟨H1.out.1.below hb2, RBx.of HCS.out.2.2.1 hbox, below_step H1.out.2 hb2⟩); obtain ⟨a0, a1, a2, a3, a4, a5⟩ := H2.out.1.cells; obtain ⟨b0, b1, b2, b3, b4, b5⟩ := H2.out.2.1.cells; rw [← HCS.out.2.2.2.2.1] at a3 b3; rw [← HCS.out.2.2.2.2.2] at a4 b4; clear hbox hb2 hgc))
  clear H1 a0 a1 a2 a3 a4 a5 b0 b1 b2 b3 b4 b5
  go_loopg [5] yl (fun q v5 wr => ∃ (i : Nat), v5 = .int .i64 i ∧ q + i = yl ∧ Aside0 (RBx wr gb x Y E yc ec ∧ RBx wr gc x Y2 E2 yc2 ec2 ∧ Below w.heap.size w wr))
  case atStart => exact ⟨0, rfl, rfl, H2⟩
  case round =>
    clear H2
    obtain ⟨i, rfl, hq, hI⟩ := hrel
    obtain ⟨_, _, _, a3, _, _⟩ := hI.out.1.cells
    obtain ⟨_, _, _, b3, _, _⟩ := hI.out.2.1.cells
    rw [← HCS.out.2.2.2.2.1] at a3 b3
    by_cases hlt : i < yl
    · have d2 : decide ((i : Int) < (yl : Int)) = true := decide_eq_true (by omega)
      have hil : i < x.ids.length := by have := HCS.out.2.2.2.2.1; omega
      obtain ⟨ad, e0, h32, hcell⟩ := at_id HCS.out.2.1.yC hil
      cases e0
      obtain ⟨ad2, e2, _, hcell2⟩ := at_id HCS.out.2.2.2.1.yC hil
      cases e2
      obtain ⟨id, hid⟩ : ∃ id, id = x.ids.getD i [] := ⟨_, rfl⟩
      rw [← hid] at h32 hcell hcell2
      have HZ := Aside0.mk (And.intro hcell (And.intro hcell2 h32))
      have hqe : ∀ W : World, (Op.equalIn 10000 74 (.agg (nums .u8 id).toArray) (.agg (nums .u8 id).toArray)).run Tryd.prog W = .ok true W := id_self id h32 9998
      have p25 : (0 ≤ (i : Int)) = True := eq_true (by omega)
      have q25 : ((i : Int) < (yl : Int)) = True := eq_true (by omega)
      clear hcell hcell2 h32 hid
      go_upto_region 6 with (fail)
      obtain ⟨wd, hwd⟩ : ∃ z, z = wr.drew := ⟨_, rfl⟩
      have hbd : Below wr.heap.size wr wd := by rw [hwd]; exact below_drew1 (Below.refl _ _)
      have HD := Aside0.mk (show RBx wd gb x (some ad) E yc ec ∧ RBx wd gc x (some ad2) E2 yc2 ec2 ∧ Below w.heap.size w wd from ⟨hI.out.1.below hbd, hI.out.2.1.below hbd, below_step hI.out.2.2 hbd⟩)
      have hS : wd.cell? ⟨gb, 3, none⟩ = some (.slice (some ad) yl yc) ∧ wd.cell? ⟨gc, 3, none⟩ = some (.slice (some ad2) yl yc2) ∧ (∀ (j : Nat) (v : Value), (nums .u8 id)[j]? = some v → wd.cell? ((ad.add (i * 32)).add j) = some v) ∧ (∀ (j : Nat) (v : Value), (nums .u8 id)[j]? = some v → wd.cell? ((ad2.add (i * 32)).add j) = some v) := by
        refine ⟨by rw [HCS.out.2.2.2.2.1]; exact HD.out.1.cells.2.2.2.1, by rw [HCS.out.2.2.2.2.1]; exact HD.out.2.1.cells.2.2.2.1, fun j v hj => ?_, fun j v hj => ?_⟩
        · have h := HZ.out.1 j v hj
          rw [Go.Deep.add_add]
          exact (HD.out.2.2.cell (World.block_lt_of_cell? w _ h)).trans h
        · have h := HZ.out.2.1 j v hj
          rw [Go.Deep.add_add]
          exact (HD.out.2.2.cell (World.block_lt_of_cell? w _ h)).trans h
      clear hbd a3 b3 hI
      refine start_ (n := 11) (S := fun W => W.cell? ⟨gb, 3, none⟩ = some (.slice (some ad) yl yc) ∧ W.cell? ⟨gc, 3, none⟩ = some (.slice (some ad2) yl yc2) ∧ (∀ (j : Nat) (v : Value), (nums .u8 id)[j]? = some v → W.cell? ((ad.add (i * 32)).add j) = some v) ∧ (∀ (j : Nat) (v : Value), (nums .u8 id)[j]? = some v → W.cell? ((ad2.add (i * 32)).add j) = some v)) (ds := []) #[false, false, false, false, false, false, false, false, false, false, false] (by kernel_rfl) rfl (by kernel_rfl) (by rw [← hwd]; exact hS) (fun hHeld => ?_)
      rw [← hwd] at hHeld ⊢
      clear hwd
      refine pure_ (i := 0) (N := some 58) (v := ?_) (a' := ?_) #[true, false, false, false, false, false, false, false, false, false, false] rfl rfl (by kernel_rfl) (fun _ _ _ h => h) (Or.inl ⟨by rfl, ?_⟩) ?_ ?_
      rotate_left
      · intro w'
        go_simp
        with_reducible rfl
      rotate_left
      · simp only [Act.put, List.setIfInBounds_toArray, List.set_cons_zero, List.set_cons_succ, i64_w, i32_w]
        rfl
      refine pure_ (i := 2) (N := some 60) (v := ?_) (a' := ?_) #[true, false, true, false, false, false, false, false, false, false, false] rfl rfl (by kernel_rfl) (fun _ _ _ h => h) (Or.inl ⟨by rfl, ?_⟩) ?_ ?_
      rotate_left
      · intro w'
        go_simp
        with_reducible rfl
      rotate_left
      · simp only [Act.put, List.setIfInBounds_toArray, List.set_cons_zero, List.set_cons_succ, i64_w, i32_w]
        rfl
      refine pure_ (i := 5) (N := some 63) (v := ?_) (a' := ?_) #[true, false, true, false, false, true, false, false, false, false, false] rfl rfl (by kernel_rfl) (fun _ _ _ h => h) (Or.inl ⟨by rfl, ?_⟩) ?_ ?_
      rotate_left
      · intro w'
        go_simp
        with_reducible rfl
      rotate_left
      · simp only [Act.put, List.setIfInBounds_toArray, List.set_cons_zero, List.set_cons_succ, i64_w, i32_w]
        rfl
      refine pure_ (i := 7) (N := some 65) (v := ?_) (a' := ?_) #[true, false, true, false, false, true, false, true, false, false, false] rfl rfl (by kernel_rfl) (fun _ _ _ h => h) (Or.inl ⟨by rfl, ?_⟩) ?_ ?_
      rotate_left
      · intro w'
        go_simp
        with_reducible rfl
      rotate_left
      · simp only [Act.put, List.setIfInBounds_toArray, List.set_cons_zero, List.set_cons_succ, i64_w, i32_w]
        rfl
      refine take_ (i := 1) (N := some 59) (v := ?_) (a' := ?_) #[true, true, true, false, false, true, false, true, false, false, false] rfl rfl (by kernel_rfl) (fun _ _ _ h => h) (Or.inl ⟨by rfl, ?_⟩) hHeld ?_ ?_
      rotate_left
      · rintro w' ⟨s0, s1, s2, s3⟩
        go_simp
        with_reducible rfl
      rotate_left
      · simp only [Act.put, List.setIfInBounds_toArray, List.set_cons_zero, List.set_cons_succ, i64_w, i32_w]
        rfl
      refine take_ (i := 6) (N := some 64) (v := ?_) (a' := ?_) #[true, true, true, false, false, true, true, true, false, false, false] rfl rfl (by kernel_rfl) (fun _ _ _ h => h) (Or.inl ⟨by rfl, ?_⟩) hHeld ?_ ?_
      rotate_left
      · rintro w' ⟨s0, s1, s2, s3⟩
        go_simp
        with_reducible rfl
      rotate_left
      · simp only [Act.put, List.setIfInBounds_toArray, List.set_cons_zero, List.set_cons_succ, i64_w, i32_w]
        rfl
      refine pure_ (i := 3) (N := some 61) (v := ?_) (a' := ?_) #[true, true, true, true, false, true, true, true, false, false, false] rfl rfl (by kernel_rfl) (fun _ _ _ h => h) (Or.inl ⟨by rfl, ?_⟩) ?_ ?_
      rotate_left
      · intro w'
        go_simp
        with_reducible rfl
      rotate_left
      · simp only [Act.put, List.setIfInBounds_toArray, List.set_cons_zero, List.set_cons_succ, i64_w, i32_w]
        rfl
      refine pure_ (i := 8) (N := some 66) (v := ?_) (a' := ?_) #[true, true, true, true, false, true, true, true, true, false, false] rfl rfl (by kernel_rfl) (fun _ _ _ h => h) (Or.inl ⟨by rfl, ?_⟩) ?_ ?_
      rotate_left
      · intro w'
        go_simp
        with_reducible rfl
      rotate_left
      · simp only [Act.put, List.setIfInBounds_toArray, List.set_cons_zero, List.set_cons_succ, i64_w, i32_w]
        rfl
      refine take_ (i := 4) (N := some 62) (v := .agg (nums .u8 id).toArray) (a' := ?_) #[true, true, true, true, true, true, true, true, true, false, false] rfl rfl (by kernel_rfl) (fun _ _ _ h => h) (Or.inl ⟨by rfl, fun w' s0 => ?ld⟩) hHeld ?_ ?_
      case ld => exact exec_load_any w' 74 (.tmp 61) rfl (ad.add (i * 32)) rfl (nums .u8 id) _ s0.2.2.1 Tryd.underlying74 rfl (by rw [nums_length, HZ.out.2.2]; kernel_rfl)
      rotate_left
      · simp only [Act.put, List.setIfInBounds_toArray, List.set_cons_zero, List.set_cons_succ, i64_w, i32_w]
        rfl
      refine take_ (i := 9) (N := some 67) (v := .agg (nums .u8 id).toArray) (a' := ?_) #[true, true, true, true, true, true, true, true, true, true, false] rfl rfl (by kernel_rfl) (fun _ _ _ h => h) (Or.inl ⟨by rfl, fun w' s0 => ?ld⟩) hHeld ?_ ?_
      case ld => exact exec_load_any w' 74 (.tmp 66) rfl (ad2.add (i * 32)) rfl (nums .u8 id) _ s0.2.2.2 Tryd.underlying74 rfl (by rw [nums_length, HZ.out.2.2]; kernel_rfl)
      rotate_left
      · simp only [Act.put, List.setIfInBounds_toArray, List.set_cons_zero, List.set_cons_succ, i64_w, i32_w]
        rfl
      refine pure_ (i := 10) (N := some 68) (v := ?_) (a' := ?_) #[true, true, true, true, true, true, true, true, true, true, true] rfl rfl (by kernel_rfl) (fun _ _ _ h => h) (Or.inl ⟨by rfl, ?_⟩) ?_ ?_
      rotate_left
      · intro w'
        go_simp
        with_reducible rfl
      rotate_left
      · simp only [Act.put, List.setIfInBounds_toArray, List.set_cons_zero, List.set_cons_succ, i64_w, i32_w]
        rfl
      refine done_ (by kernel_rfl) ?_
      clear hHeld hS
      go_wp2
      go_roundg (yl - (i + 1))
      case measure => omega
      case rel => exact ⟨i + 1, by go_num, by omega, HD⟩
    · have d2 : decide ((i : Int) < (yl : Int)) = false := decide_eq_false (by omega)
      go_wp2
      clear a3 b3
      have HQ := Aside0.mk hI.out
      clear hI
      go_loopg [6] el (fun q v6 wr => ∃ (i : Nat), v6 = .int .i64 i ∧ q + i = el ∧ Aside0 (RBx wr gb x Y E yc ec ∧ RBx wr gc x Y2 E2 yc2 ec2 ∧ Below w.heap.size w wr))
      case atStart => exact ⟨0, rfl, rfl, HQ⟩
      case round =>
        clear HQ
        obtain ⟨i, rfl, hq, hI⟩ := hrel
        obtain ⟨_, _, _, _, a4, _⟩ := hI.out.1.cells
        obtain ⟨_, _, _, _, b4, _⟩ := hI.out.2.1.cells
        rw [← HCS.out.2.2.2.2.2] at a4 b4
        by_cases hlt : i < el
        · have d2 : decide ((i : Int) < (el : Int)) = true := decide_eq_true (by omega)
          have hil : i < x.es.length := by have := HCS.out.2.2.2.2.2; omega
          obtain ⟨ad, e0, h32, hcell, _⟩ := at_e HCS.out.2.1.eC hil
          cases e0
          obtain ⟨ad2, e2, _, hcell2, _⟩ := at_e HCS.out.2.2.2.1.eC hil
          cases e2
          obtain ⟨en, hen⟩ : ∃ en, en = x.es.getD i eNone := ⟨_, rfl⟩
          rw [← hen] at h32 hcell hcell2
          have HZ := Aside0.mk (And.intro hcell (And.intro hcell2 h32))
          have hqe : ∀ W : World, (Op.equalIn 10000 111 (.agg (ecells en).toArray) (.agg (ecells en).toArray)).run Tryd.prog W = .ok true W := ent_self en h32 9997
          have p25 : (0 ≤ (i : Int)) = True := eq_true (by omega)
          have q25 : ((i : Int) < (el : Int)) = True := eq_true (by omega)
          clear hcell hcell2 h32 hen
          go_upto_region 11 with (fail)
          obtain ⟨wd, hwd⟩ : ∃ z, z = wr.drew := ⟨_, rfl⟩
          have hbd : Below wr.heap.size wr wd := by rw [hwd]; exact below_drew1 (Below.refl _ _)
          have HD := Aside0.mk (show RBx wd gb x Y (some ad) yc ec ∧ RBx wd gc x Y2 (some ad2) yc2 ec2 ∧ Below w.heap.size w wd from ⟨hI.out.1.below hbd, hI.out.2.1.below hbd, below_step hI.out.2.2 hbd⟩)
          have hS : wd.cell? ⟨gb, 4, none⟩ = some (.slice (some ad) el ec) ∧ wd.cell? ⟨gc, 4, none⟩ = some (.slice (some ad2) el ec2) ∧ (∀ (j : Nat) (v : Value), (ecells en)[j]? = some v → wd.cell? ((ad.add (i * 34)).add j) = some v) ∧ (∀ (j : Nat) (v : Value), (ecells en)[j]? = some v → wd.cell? ((ad2.add (i * 34)).add j) = some v) := by
            refine ⟨by rw [HCS.out.2.2.2.2.2]; exact HD.out.1.cells.2.2.2.2.1, by rw [HCS.out.2.2.2.2.2]; exact HD.out.2.1.cells.2.2.2.2.1, fun j v hj => ?_, fun j v hj => ?_⟩
            · have h := HZ.out.1 j v hj
              rw [Go.Deep.add_add]
              exact (HD.out.2.2.cell (World.block_lt_of_cell? w _ h)).trans h
            · have h := HZ.out.2.1 j v hj
              rw [Go.Deep.add_add]
              exact (HD.out.2.2.cell (World.block_lt_of_cell? w _ h)).trans h
          clear hbd a4 b4 hI
          refine start_ (n := 11) (S := fun W => W.cell? ⟨gb, 4, none⟩ = some (.slice (some ad) el ec) ∧ W.cell? ⟨gc, 4, none⟩ = some (.slice (some ad2) el ec2) ∧ (∀ (j : Nat) (v : Value), (ecells en)[j]? = some v → W.cell? ((ad.add (i * 34)).add j) = some v) ∧ (∀ (j : Nat) (v : Value), (ecells en)[j]? = some v → W.cell? ((ad2.add (i * 34)).add j) = some v)) (ds := []) #[false, false, false, false, false, false, false, false, false, false, false] (by kernel_rfl) rfl (by kernel_rfl) (by rw [← hwd]; exact hS) (fun hHeld => ?_)
          rw [← hwd] at hHeld ⊢
          clear hwd
          refine pure_ (i := 0) (N := some 76) (v := ?_) (a' := ?_) #[true, false, false, false, false, false, false, false, false, false, false] rfl rfl (by kernel_rfl) (fun _ _ _ h => h) (Or.inl ⟨by rfl, ?_⟩) ?_ ?_
          rotate_left
          · intro w'
            go_simp
            with_reducible rfl
          rotate_left
          · simp only [Act.put, List.setIfInBounds_toArray, List.set_cons_zero, List.set_cons_succ, i64_w, i32_w]
            rfl
          refine pure_ (i := 2) (N := some 78) (v := ?_) (a' := ?_) #[true, false, true, false, false, false, false, false, false, false, false] rfl rfl (by kernel_rfl) (fun _ _ _ h => h) (Or.inl ⟨by rfl, ?_⟩) ?_ ?_
          rotate_left
          · intro w'
            go_simp
            with_reducible rfl
          rotate_left
          · simp only [Act.put, List.setIfInBounds_toArray, List.set_cons_zero, List.set_cons_succ, i64_w, i32_w]
            rfl
          refine pure_ (i := 5) (N := some 81) (v := ?_) (a' := ?_) #[true, false, true, false, false, true, false, false, false, false, false] rfl rfl (by kernel_rfl) (fun _ _ _ h => h) (Or.inl ⟨by rfl, ?_⟩) ?_ ?_
          rotate_left
          · intro w'
            go_simp
            with_reducible rfl
          rotate_left
          · simp only [Act.put, List.setIfInBounds_toArray, List.set_cons_zero, List.set_cons_succ, i64_w, i32_w]
            rfl
          refine pure_ (i := 7) (N := some 83) (v := ?_) (a' := ?_) #[true, false, true, false, false, true, false, true, false, false, false] rfl rfl (by kernel_rfl) (fun _ _ _ h => h) (Or.inl ⟨by rfl, ?_⟩) ?_ ?_
          rotate_left
          · intro w'
            go_simp
            with_reducible rfl
          rotate_left
          · simp only [Act.put, List.setIfInBounds_toArray, List.set_cons_zero, List.set_cons_succ, i64_w, i32_w]
            rfl
          refine take_ (i := 1) (N := some 77) (v := ?_) (a' := ?_) #[true, true, true, false, false, true, false, true, false, false, false] rfl rfl (by kernel_rfl) (fun _ _ _ h => h) (Or.inl ⟨by rfl, ?_⟩) hHeld ?_ ?_
          rotate_left
          · rintro w' ⟨s0, s1, s2, s3⟩
            go_simp
            with_reducible rfl
          rotate_left
          · simp only [Act.put, List.setIfInBounds_toArray, List.set_cons_zero, List.set_cons_succ, i64_w, i32_w]
            rfl
          refine take_ (i := 6) (N := some 82) (v := ?_) (a' := ?_) #[true, true, true, false, false, true, true, true, false, false, false] rfl rfl (by kernel_rfl) (fun _ _ _ h => h) (Or.inl ⟨by rfl, ?_⟩) hHeld ?_ ?_
          rotate_left
          · rintro w' ⟨s0, s1, s2, s3⟩
            go_simp
            with_reducible rfl
          rotate_left
          · simp only [Act.put, List.setIfInBounds_toArray, List.set_cons_zero, List.set_cons_succ, i64_w, i32_w]
            rfl
          refine pure_ (i := 3) (N := some 79) (v := ?_) (a' := ?_) #[true, true, true, true, false, true, true, true, false, false, false] rfl rfl (by kernel_rfl) (fun _ _ _ h => h) (Or.inl ⟨by rfl, ?_⟩) ?_ ?_
          rotate_left
          · intro w'
            go_simp
            with_reducible rfl
          rotate_left
          · simp only [Act.put, List.setIfInBounds_toArray, List.set_cons_zero, List.set_cons_succ, i64_w, i32_w]
            rfl
          refine pure_ (i := 8) (N := some 84) (v := ?_) (a' := ?_) #[true, true, true, true, false, true, true, true, true, false, false] rfl rfl (by kernel_rfl) (fun _ _ _ h => h) (Or.inl ⟨by rfl, ?_⟩) ?_ ?_
          rotate_left
          · intro w'
            go_simp
            with_reducible rfl
          rotate_left
          · simp only [Act.put, List.setIfInBounds_toArray, List.set_cons_zero, List.set_cons_succ, i64_w, i32_w]
            rfl
          refine take_ (i := 4) (N := some 80) (v := .agg (ecells en).toArray) (a' := ?_) #[true, true, true, true, true, true, true, true, true, false, false] rfl rfl (by kernel_rfl) (fun _ _ _ h => h) (Or.inl ⟨by rfl, fun w' s0 => ?ld⟩) hHeld ?_ ?_
          case ld => exact exec_load_any w' 111 (.tmp 79) rfl (ad.add (i * 34)) rfl (ecells en) _ s0.2.2.1 Tryd.underlying111 rfl (by rw [ecells_len HZ.out.2.2]; kernel_rfl)
          rotate_left
          · simp only [Act.put, List.setIfInBounds_toArray, List.set_cons_zero, List.set_cons_succ, i64_w, i32_w]
            rfl
          refine take_ (i := 9) (N := some 85) (v := .agg (ecells en).toArray) (a' := ?_) #[true, true, true, true, true, true, true, true, true, true, false] rfl rfl (by kernel_rfl) (fun _ _ _ h => h) (Or.inl ⟨by rfl, fun w' s0 => ?ld⟩) hHeld ?_ ?_
          case ld => exact exec_load_any w' 111 (.tmp 84) rfl (ad2.add (i * 34)) rfl (ecells en) _ s0.2.2.2 Tryd.underlying111 rfl (by rw [ecells_len HZ.out.2.2]; kernel_rfl)
          rotate_left
          · simp only [Act.put, List.setIfInBounds_toArray, List.set_cons_zero, List.set_cons_succ, i64_w, i32_w]
            rfl
          refine pure_ (i := 10) (N := some 86) (v := ?_) (a' := ?_) #[true, true, true, true, true, true, true, true, true, true, true] rfl rfl (by kernel_rfl) (fun _ _ _ h => h) (Or.inl ⟨by rfl, ?_⟩) ?_ ?_
          rotate_left
          · intro w'
            go_simp
            with_reducible rfl
          rotate_left
          · simp only [Act.put, List.setIfInBounds_toArray, List.set_cons_zero, List.set_cons_succ, i64_w, i32_w]
            rfl
          refine done_ (by kernel_rfl) ?_
          clear hHeld hS
          go_wp2
          go_roundg (el - (i + 1))
          case measure => omega
          case rel => exact ⟨i + 1, by go_num, by omega, HD⟩
        · have d2 : decide ((i : Int) < (el : Int)) = false := decide_eq_false (by omega)
          go_wp2
          go_ret
          exact ⟨rfl, hI.out.2.2⟩
end
end Go.Proofs.YtgjdcdhfijkoiaaDoor.Obj
end
section
namespace Go.Proofs.YtgjdcdhfijkoiaaDoor.Obj
open Go.RowKit Go.Proofs.YtgjdcdhfijkoiaaDoorW.PrintWords Go.Proofs.YtgjdcdhfijkoiaaDoorW.PrintLast Go.Proofs.YtgjdcdhfijkoiaaDoorW.PrintMore Go.Proofs.YtgjdcdhfijkoiaaDoor.Mem Go.Proofs.YtgjdcdhfijkoiaaDoor.Cod Go.Proofs.YtgjdcdhfijkoiaaDoor.PCod Go.Proofs.YtgjdcdhfijkoiaaDoor.Str Go.Proofs.YtgjdcdhfijkoiaaDoor.Open
set_option linter.unusedVariables false
set_option linter.unusedSimpArgs false
theorem ba_empty {s : ByteArray} (h : s.size = 0) : s = ByteArray.empty := ByteArray.ext (Array.eq_empty_of_size_eq_zero h)
/-- What an object's rows must be. -/
structure Wf (x : OM) : Prop where
  bb : Byt x.b
  i32 : ∀ p ∈ x.ids, p.length = 32
  e32 : ∀ e ∈ x.es, e.id.length = 32
  n : 0 ≤ x.n ∧ x.n ≤ 18446744073709551615
theorem shape_1 {x : OM} (h : errC x = 0) (hk : x.k = 1) : x = ⟨1, x.b, 0, [], [], ByteArray.empty⟩ := by
  obtain ⟨k, b, n, ids, es, s⟩ := x
  dsimp only at hk
  subst hk
  have h1 := err_0 h
  unfold checkO pieceM bareM at h1
  have hs := empty_size s
  simp at h1
  simp_all
theorem shape_2 {x : OM} (h : errC x = 0) (hk : x.k = 2) : x = ⟨2, [], x.n, x.ids, [], ByteArray.empty⟩ := by
  obtain ⟨k, b, n, ids, es, s⟩ := x
  dsimp only at hk
  subst hk
  have h1 := err_0 h
  unfold checkO listM bareM at h1
  simp at h1
  simp_all
  exact ba_empty ((empty_size s).1 h1.1.1.1.2)
theorem shape_4 {x : OM} (h : errC x = 0) (hk : x.k = 4) : x = ⟨4, [], x.n, [x.ids.getD 0 []], [], x.s⟩ := by
  obtain ⟨k, b, n, ids, es, s⟩ := x
  dsimp only at hk
  subst hk
  have hl := (ok_4 h rfl).1
  dsimp only at hl
  obtain ⟨id, rfl⟩ := List.length_eq_one_iff.1 hl
  have h1 := err_0 h
  unfold checkO snapM bareM at h1
  simp at h1
  simp_all
/-! ### put, then got -/
/-! ### got, then put -/
theorem id_inv {R : RM} (h : R.id.1.e = 0) : R.e = 0 ∧ R.b = R.id.2 ++ R.id.1.b ∧ R.id.2.length = 32 := by
  have h1 : (R.fixed 32).1.e = 0 := h
  have he := e_fixed h1
  obtain ⟨f1, f2⟩ := fixed_inv he h1
  have hn : (R.fixed 32).2 ≠ [] := fun e => by rw [e] at f2; simp at f2
  have e2 : R.id.2 = (R.fixed 32).2 := if_neg hn
  exact ⟨he, by rw [e2]; exact f1, by rw [e2]; omega⟩
theorem bool_inv {R : RM} (hb : Byt R.b) (h : R.bool.1.e = 0) : R.e = 0 ∧ R.b = bit R.bool.2 :: R.bool.1.b := by
  obtain ⟨b, e⟩ := R
  by_cases he : e = 0
  · subst he
    cases b with
    | nil => exact absurd h (by decide)
    | cons c r =>
      have hc := hb c List.mem_cons_self
      unfold RM.bool at h ⊢
      rw [if_neg (by simp)] at h ⊢
      dsimp only at h ⊢
      split at h
      · exact absurd h (by decide)
      · rename_i hc1
        refine ⟨rfl, ?_⟩
        by_cases h1 : c = 1
        · subst h1; rfl
        · have h0 : c = 0 := by omega
          subst h0; rfl
  · unfold RM.bool at h
    rw [if_pos he] at h
    exact absurd h he
theorem idsGo_inv : ∀ (n : Nat) (R : RM) (o : List (List Int)), (idsGo n R o).1.e = 0 → R.e = 0 ∧ ∃ l, (idsGo n R o).2 = o ++ l ∧ l.length = n ∧ R.b = l.flatten ++ (idsGo n R o).1.b
  | 0, R, o, h => ⟨h, [], by rw [List.append_nil]; rfl, rfl, rfl⟩
  | n + 1, R, o, h => by
    rw [idsGo] at h ⊢
    obtain ⟨h1, l, h2, h3, h4⟩ := idsGo_inv n R.id.1 _ h
    obtain ⟨i1, i2, i3⟩ := id_inv h1
    refine ⟨i1, R.id.2 :: l, by rw [h2, List.append_assoc]; rfl, by rw [List.length_cons, h3], ?_⟩
    rw [List.flatten_cons, List.append_assoc, ← h4]
    exact i2
theorem entGo_inv : ∀ (n : Nat) (R : RM) (o : List EM), Byt R.b → (entGo n R o).1.e = 0 → R.e = 0 ∧ ∃ l, (entGo n R o).2 = o ++ l ∧ l.length = n ∧ R.b = (l.map entB).flatten ++ (entGo n R o).1.b
  | 0, R, o, hb, h => ⟨h, [], by rw [List.append_nil]; rfl, rfl, rfl⟩
  | n + 1, R, o, hb, h => by
    rw [entGo] at h ⊢
    have hb1 := RM.bytes_byt hb 255
    have hb2 := bool_byt hb1.1
    have hb3 := id_byt hb2
    obtain ⟨h1, l, h2, h3, h4⟩ := entGo_inv n (stepE R) _ hb3.1 h
    obtain ⟨i1, i2, i3⟩ := id_inv (show (((R.bytes 255).1.bool.1).id).1.e = 0 from h1)
    obtain ⟨j1, j2⟩ := bool_inv hb1.1 i1
    have k0 := e_bytes j1
    obtain ⟨k1, _⟩ := bytes_inv hb k0 j1
    refine ⟨k0, oneE R :: l, by rw [h2, List.append_assoc]; rfl, by rw [List.length_cons, h3], ?_⟩
    rw [List.map_cons, List.flatten_cons, List.append_assoc, ← h4]
    conv => lhs; rw [k1, j2, i2]
    unfold entB oneE
    dsimp only
    rw [bytesOf_str hb1.2, show (strOfNums (R.bytes 255).2).size = (R.bytes 255).2.length from S_size _]
    simp only [List.append_assoc, List.cons_append, List.nil_append]
    rfl
theorem put_get_o {b : List Int} (hb : Byt b) (h : (getO b).2 = 0) : errC (getO b).1 = 0 ∧ putO (getO b).1 = b := by
  have hby := RM.uint_byt (R := ⟨b, 0⟩) hb
  have hbd := RM.uint_bd (R := ⟨b, 0⟩) hb
  have hiv := uint_inv (R := ⟨b, 0⟩) hb rfl
  unfold getO at h ⊢
  generalize (⟨b, 0⟩ : RM).uint.1 = R at *
  generalize (⟨b, 0⟩ : RM).uint.2 = k at *
  by_cases he : R.e = 0
  rotate_left
  · rw [if_pos he] at h; exact absurd h he
  rw [if_neg (by simpa using he)] at h ⊢
  have hb2 := hiv he
  dsimp only at hb2
  obtain ⟨hok, hsk⟩ := swM_ok k (IntKind.u8.wrap k) hby
  have hkk : (swM k (IntKind.u8.wrap k) R).2.2 = true → 1 ≤ k ∧ k ≤ 4 := fun hq => by
    by_cases k1 : k = 1
    · omega
    by_cases k2 : k = 2
    · omega
    by_cases k3 : k = 3
    · omega
    by_cases k4 : k = 4
    · omega
    rw [swM_0 _ R k1 k2 k3 k4] at hq
    cases hq
  obtain ⟨Z, hZ⟩ : ∃ Z, Z = swM k (IntKind.u8.wrap k) R := ⟨_, rfl⟩
  rw [← hZ] at h hok hsk hkk ⊢
  obtain ⟨R2, x, ok⟩ := Z
  unfold finM at h ⊢
  dsimp only at h hkk hsk ⊢
  cases ok
  · rw [if_pos rfl] at h; exact absurd h (show ¬ (11 : Int) = 0 by decide)
  rw [if_neg (show ¬ true = false by decide)] at h ⊢
  by_cases h1 : R2.end_ = 0
  rotate_left
  · rw [if_pos h1] at h; exact absurd h h1
  rw [if_neg (by simpa using h1)] at h ⊢
  by_cases h2 : errC x = 0
  rotate_left
  · rw [if_pos h2] at h; exact absurd h (by decide)
  rw [if_neg (by simpa using h2)]
  refine ⟨h2, ?_⟩
  obtain ⟨e0, b0⟩ := end_0 h1
  have hk4 := hkk rfl
  have hwk : IntKind.u8.wrap k = k := by rw [IntKind.wrap_u8]; omega
  rw [hwk] at hZ hsk
  dsimp only
  show putO x = b
  rw [hb2]
  unfold putO
  rw [hsk]
  congr 1
  unfold bodyO
  rw [hsk]
  by_cases k1 : k = 1
  · subst k1
    rw [swM_1] at hZ
    simp only [Prod.mk.injEq] at hZ
    obtain ⟨rfl, rfl, _⟩ := hZ
    obtain ⟨q1, _⟩ := bytes_inv hby he e0
    rw [if_pos rfl]
    rw [b0, List.append_nil] at q1
    exact q1.symm
  by_cases k2 : k = 2
  · subst k2
    rw [swM_2] at hZ
    simp only [Prod.mk.injEq] at hZ
    obtain ⟨rfl, rfl, hq⟩ := hZ
    rw [if_neg (by decide), if_pos rfl]
    have hu := RM.uint_byt hby
    have hu2 := RM.uint_bd hu
    unfold idsM at hq e0 b0 ⊢
    by_cases hbig : 1000 < R.uint.1.uint.2
    · rw [if_pos hbig] at hq; cases hq
    rw [if_neg hbig] at e0 b0 ⊢
    dsimp only at e0 b0 ⊢
    obtain ⟨g1, l, g2, g3, g4⟩ := idsGo_inv _ _ _ e0
    rw [g2, List.nil_append]
    rw [b0, List.append_nil] at g4
    have g0 := e_uint g1
    rw [uint_inv hby he g0, uint_inv hu g0 g1, g4, g3, Int.toNat_of_nonneg hu2.1, List.append_assoc]
  by_cases k3 : k = 3
  · subst k3
    rw [swM_3] at hZ
    simp only [Prod.mk.injEq] at hZ
    obtain ⟨rfl, rfl, hq⟩ := hZ
    rw [if_neg (by decide), if_neg (by decide), if_pos rfl]
    have hu2 := RM.uint_bd hby
    unfold entM at hq e0 b0 ⊢
    by_cases hbig : 500 < R.uint.2
    · rw [if_pos hbig] at hq; cases hq
    rw [if_neg hbig] at e0 b0 ⊢
    dsimp only at e0 b0 ⊢
    obtain ⟨g1, l, g2, g3, g4⟩ := entGo_inv _ _ _ (RM.uint_byt hby) e0
    rw [g2, List.nil_append]
    rw [b0, List.append_nil] at g4
    rw [uint_inv hby he g1, g4, g3, Int.toNat_of_nonneg hu2.1]
  · have k4 : k = 4 := by omega
    subst k4
    rw [swM_4] at hZ
    simp only [Prod.mk.injEq] at hZ
    obtain ⟨rfl, rfl, _⟩ := hZ
    rw [if_neg (by decide), if_neg (by decide), if_neg (by decide)]
    have hu := RM.uint_byt hby
    have hi := id_byt hu
    have hbb := RM.bytes_byt hi.1 255
    have g1 := e_bytes e0
    obtain ⟨q1, _⟩ := bytes_inv hi.1 g1 e0
    obtain ⟨i1, i2, i3⟩ := id_inv g1
    rw [b0, List.append_nil] at q1
    dsimp only
    rw [uint_inv hby he i1, i2, q1, List.flatten_cons, List.flatten_nil, List.append_nil, show bytesOf (S (R.uint.1.id.1.bytes 255).2) = (R.uint.1.id.1.bytes 255).2 from bytesOf_str hbb.2, S_size, List.append_assoc]
end Go.Proofs.YtgjdcdhfijkoiaaDoor.Obj
end
section
namespace Go.Proofs.YtgjdcdhfijkoiaaDoor.Obj
open Go.RowKit Go.Proofs.YtgjdcdhfijkoiaaDoorW.PrintWords Go.Proofs.YtgjdcdhfijkoiaaDoorW.PrintLast Go.Proofs.YtgjdcdhfijkoiaaDoorW.PrintMore Go.Proofs.YtgjdcdhfijkoiaaDoor.Mem Go.Proofs.YtgjdcdhfijkoiaaDoor.Cod Go.Proofs.YtgjdcdhfijkoiaaDoor.PCod Go.Proofs.YtgjdcdhfijkoiaaDoor.Str Go.Proofs.YtgjdcdhfijkoiaaDoor.Open
set_option linter.unusedVariables false
set_option linter.unusedSimpArgs false
section
variable {w : World} {x : OM} {cs : Array Value} {A Y E : Option Addr} {bc yc ec : Nat}
end
end Go.Proofs.YtgjdcdhfijkoiaaDoor.Obj
end
