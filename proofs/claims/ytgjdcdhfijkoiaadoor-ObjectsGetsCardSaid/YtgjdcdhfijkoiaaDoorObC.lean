/- A reader under way; ids and entries, read. -/
import Derived.Test.YtgjdcdhfijkoiaaDoorObB
import Derived.Test.YtgjdcdhfijkoiaaDoorFiC
section
namespace Go.Proofs.YtgjdcdhfijkoiaaDoor.Obj
open Go.RowKit Go.Proofs.YtgjdcdhfijkoiaaDoorW.PrintWords Go.Proofs.YtgjdcdhfijkoiaaDoorW.PrintLast Go.Proofs.YtgjdcdhfijkoiaaDoorW.PrintMore Go.Proofs.YtgjdcdhfijkoiaaDoor.Mem Go.Proofs.YtgjdcdhfijkoiaaDoor.Cod Go.Proofs.YtgjdcdhfijkoiaaDoor.PCod Go.Proofs.YtgjdcdhfijkoiaaDoor.Str Go.Proofs.YtgjdcdhfijkoiaaDoor.Open
set_option linter.unusedVariables false
set_option linter.unusedSimpArgs false
/-- The reader in block g, its own below lim. -/
structure RS (w W : World) (lim g : Nat) (R : RM) : Prop where
  bl : Below w.heap.size w W
  b0 : w.heap.size ≤ lim
  le : lim ≤ W.heap.size
  rd : ∃ F : Nat → Prop, RdAt W F g R ∧ (∀ k, F k → w.heap.size ≤ k ∧ k < lim) ∧ F g
section
variable {w W W' : World} {lim g : Nat} {R R' : RM}
theorem RS.lt (h : RS w W lim g R) : g < lim := by
  obtain ⟨F, _, h2, h3⟩ := h.rd
  exact (h2 g h3).2
theorem RS.byt (h : RS w W lim g R) : Byt R.b := by
  obtain ⟨F, h1, _, _⟩ := h.rd
  exact h1.byt
/-- What does not touch what lies below lim. -/
theorem RS.kept (h : RS w W lim g R) (hb : Below w.heap.size w W') {S : Nat → Prop} (hk : Kept W W' S) (hs : ∀ k, S k → lim ≤ k) : RS w W' lim g R := by
  obtain ⟨F, h1, h2, h3⟩ := h.rd
  exact ⟨hb, h.b0, Nat.le_trans h.le hk.1, F, h1.kept hk (fun k hf e => by have := h2 k hf; have := hs k e; omega), h2, h3⟩
theorem RS.below (h : RS w W lim g R) (hb : Below W.heap.size W W') : RS w W' lim g R := h.kept (below_step h.bl hb) (S := fun _ => False) (Kept.of_below hb _) (fun _ h => h.elim)
theorem RS.uint (h : RS w W lim g R) : Calls Tryd.prog 50 #[.pointer (some ⟨g, 0, none⟩)] W fun e w' => e = .returned (.int .u64 R.uint.2) ∧ RS w w' lim g R.uint.1 ∧ Kept W w' (fun k => k = g) := by
  obtain ⟨F, h1, h2, h3⟩ := h.rd
  refine (uint_any h.bl (fun k hk => (h2 k hk).1) h1).mono ?_
  rintro e w' ⟨rfl, q1, q2, q3⟩
  exact ⟨rfl, ⟨q2, h.b0, Nat.le_trans h.le q3.1, F, q1, h2, h3⟩, q3⟩
theorem RS.err (h : RS w W lim g R) : Calls Tryd.prog 51 #[.pointer (some ⟨g, 0, none⟩)] W fun e w' => e = .returned (.int .i64 R.e) ∧ W = w' := by
  obtain ⟨F, h1, h2, h3⟩ := h.rd
  exact err_calls h1
theorem RS.end_ (h : RS w W lim g R) : Calls Tryd.prog 53 #[.pointer (some ⟨g, 0, none⟩)] W fun e w' => e = .returned (.int .i64 R.end_) ∧ W = w' := by
  obtain ⟨F, h1, h2, h3⟩ := h.rd
  exact end_calls h1
theorem RS.bytes (h : RS w W lim g R) (m : Int) (hm : m ≤ 9223372036854775807) : Calls Tryd.prog 52 #[.pointer (some ⟨g, 0, none⟩), .int .i64 m] W fun e w' => ∃ u, e = .returned u ∧ Kd.R (Kd.int .u8) 5 w' W.heap.size (fun _ => True) u (R.bytes m).2 ∧ RS w w' lim g (R.bytes m).1 ∧ Kept W w' (fun k => k = g) := by
  obtain ⟨F, h1, h2, h3⟩ := h.rd
  refine (bytes_calls h.bl (fun k hk => (h2 k hk).1) h1 m hm).mono ?_
  rintro e w' ⟨u, rfl, q0, q1, q2, q3⟩
  exact ⟨u, rfl, q0, ⟨q2, h.b0, Nat.le_trans h.le q3.1, F, q1, h2, h3⟩, q3⟩
theorem RS.bool (h : RS w W lim g R) : Calls Tryd.prog 82 #[.pointer (some ⟨g, 0, none⟩)] W fun e w' => e = .returned (.bool R.bool.2) ∧ RS w w' lim g R.bool.1 ∧ Kept W w' (fun k => k = g) := by
  obtain ⟨F, h1, h2, h3⟩ := h.rd
  refine (bool_calls h.bl (fun k hk => (h2 k hk).1) h1).mono ?_
  rintro e w' ⟨rfl, q1, q2, q3⟩
  exact ⟨rfl, ⟨q2, h.b0, Nat.le_trans h.le q3.1, F, q1, h2, h3⟩, q3⟩
theorem RS.id (h : RS w W lim g R) : Calls Tryd.prog 69 #[.pointer (some ⟨g, 0, none⟩)] W fun e w' => e = .returned (.agg (nums .u8 R.id.2).toArray) ∧ RS w w' lim g R.id.1 ∧ Kept W w' (fun k => k = g) := by
  obtain ⟨F, h1, h2, h3⟩ := h.rd
  refine (id_calls h.bl (fun k hk => (h2 k hk).1) (fun k hk => Nat.lt_of_lt_of_le (h2 k hk).2 h.le) h1).mono ?_
  rintro e w' ⟨rfl, q1, q2, q3⟩
  exact ⟨rfl, ⟨q2, h.b0, Nat.le_trans h.le q3.1, F, q1, h2, h3⟩, q3⟩
theorem id_32 (R : RM) : R.id.2.length = 32 := by
  unfold RM.id
  dsimp only
  rcases fixed_len R 32 with h | h
  · have h2 : (R.fixed 32).2 = [] := h
    rw [if_pos h2]; rfl
  · have h2 : (R.fixed 32).2.length = 32 := h
    rw [if_neg (fun e => by rw [e] at h2; cases h2)]
    exact h2
end
theorem list32 {p : List Int} (h : p.length = 32) : ∃ x0 x1 x2 x3 x4 x5 x6 x7 x8 x9 x10 x11 x12 x13 x14 x15 x16 x17 x18 x19 x20 x21 x22 x23 x24 x25 x26 x27 x28 x29 x30 x31 : Int, p = [x0, x1, x2, x3, x4, x5, x6, x7, x8, x9, x10, x11, x12, x13, x14, x15, x16, x17, x18, x19, x20, x21, x22, x23, x24, x25, x26, x27, x28, x29, x30, x31] := by
  have hg : ∀ i (hi : i < 32), p[i]'(by omega) = p[i]'(by omega) := fun _ _ => rfl
  refine ⟨p[0]'(by omega), p[1]'(by omega), p[2]'(by omega), p[3]'(by omega), p[4]'(by omega), p[5]'(by omega), p[6]'(by omega), p[7]'(by omega), p[8]'(by omega), p[9]'(by omega), p[10]'(by omega), p[11]'(by omega), p[12]'(by omega), p[13]'(by omega), p[14]'(by omega), p[15]'(by omega), p[16]'(by omega), p[17]'(by omega), p[18]'(by omega), p[19]'(by omega), p[20]'(by omega), p[21]'(by omega), p[22]'(by omega), p[23]'(by omega), p[24]'(by omega), p[25]'(by omega), p[26]'(by omega), p[27]'(by omega), p[28]'(by omega), p[29]'(by omega), p[30]'(by omega), p[31]'(by omega), ?_⟩
  apply List.ext_getElem
  · simp [h]
  · intro i h1 h2
    have h3 : i < 32 := by omega
    match i, h3 with
    | 0, _ => rfl
    | 1, _ => rfl
    | 2, _ => rfl
    | 3, _ => rfl
    | 4, _ => rfl
    | 5, _ => rfl
    | 6, _ => rfl
    | 7, _ => rfl
    | 8, _ => rfl
    | 9, _ => rfl
    | 10, _ => rfl
    | 11, _ => rfl
    | 12, _ => rfl
    | 13, _ => rfl
    | 14, _ => rfl
    | 15, _ => rfl
    | 16, _ => rfl
    | 17, _ => rfl
    | 18, _ => rfl
    | 19, _ => rfl
    | 20, _ => rfl
    | 21, _ => rfl
    | 22, _ => rfl
    | 23, _ => rfl
    | 24, _ => rfl
    | 25, _ => rfl
    | 26, _ => rfl
    | 27, _ => rfl
    | 28, _ => rfl
    | 29, _ => rfl
    | 30, _ => rfl
    | 31, _ => rfl
    | i + 32, h4 => omega
theorem buildS (W : World) {p : List Int} (hp : p.length = 32) : (Instr.buildSlice 54 1 #[(0, .agg (nums .u8 p).toArray)]).run Tryd.prog W = .ok (.slice (some ⟨W.heap.size, 0, none⟩) 1 1) (W.alloc (.cells (nums .u8 p).toArray 74)) := by
  obtain ⟨x0, x1, x2, x3, x4, x5, x6, x7, x8, x9, x10, x11, x12, x13, x14, x15, x16, x17, x18, x19, x20, x21, x22, x23, x24, x25, x26, x27, x28, x29, x30, x31, rfl⟩ := list32 hp
  kernel_rfl
theorem exec_buildS {o : Oper} {ev : Operand → Value} {W : World} (x : Operand) {p : List Int} (hp : p.length = 32) (ho : o.op = .buildSlice 54 1 #[(0, x)]) (hx : ev x = .agg (nums .u8 p).toArray) : (execOp ev o).run Tryd.prog W = .ok (.value (.slice (some ⟨W.heap.size, 0, none⟩) 1 1)) (W.alloc (.cells (nums .u8 p).toArray 74)) := by
  have h := buildS W hp
  unfold execOp
  simp [ho, hx, h]
theorem build_e (W : World) (s : ByteArray) (d : Bool) {p : List Int} (hp : p.length = 32) : (Instr.build 76 #[(0, .string s), (1, .bool d), (2, .agg (nums .u8 p).toArray)]).run Tryd.prog W = .ok (.agg (ecells ⟨s, d, p⟩).toArray) W := by
  obtain ⟨x0, x1, x2, x3, x4, x5, x6, x7, x8, x9, x10, x11, x12, x13, x14, x15, x16, x17, x18, x19, x20, x21, x22, x23, x24, x25, x26, x27, x28, x29, x30, x31, rfl⟩ := list32 hp
  kernel_rfl
theorem exec_build3 {o : Oper} {ev : Operand → Value} {W : World} (x y z : Operand) {s : ByteArray} {d : Bool} {p : List Int} (hp : p.length = 32) (ho : o.op = .build 76 #[(0, x), (1, y), (2, z)]) (hx : ev x = .string s) (hy : ev y = .bool d) (hz : ev z = .agg (nums .u8 p).toArray) : (execOp ev o).run Tryd.prog W = .ok (.value (.agg (ecells ⟨s, d, p⟩).toArray)) W := by
  have h := build_e W s d hp
  unfold execOp
  simp [ho, hx, hy, hz, h]
theorem buildE (W : World) {e : EM} (hp : e.id.length = 32) : (Instr.buildSlice 55 1 #[(0, .agg (ecells e).toArray)]).run Tryd.prog W = .ok (.slice (some ⟨W.heap.size, 0, none⟩) 1 1) (W.alloc (.cells (ecells e).toArray 76)) := by
  obtain ⟨s, d, p⟩ := e
  dsimp only at hp
  obtain ⟨x0, x1, x2, x3, x4, x5, x6, x7, x8, x9, x10, x11, x12, x13, x14, x15, x16, x17, x18, x19, x20, x21, x22, x23, x24, x25, x26, x27, x28, x29, x30, x31, rfl⟩ := list32 hp
  kernel_rfl
theorem exec_buildE {o : Oper} {ev : Operand → Value} {W : World} (x : Operand) {e : EM} (hp : e.id.length = 32) (ho : o.op = .buildSlice 55 1 #[(0, x)]) (hx : ev x = .agg (ecells e).toArray) : (execOp ev o).run Tryd.prog W = .ok (.value (.slice (some ⟨W.heap.size, 0, none⟩) 1 1)) (W.alloc (.cells (ecells e).toArray 76)) := by
  have h := buildE W hp
  unfold execOp
  simp [ho, hx, h]
/-! ### ids -/
def idsGo : Nat → RM → List (List Int) → RM × List (List Int)
  | 0, R, o => (R, o)
  | n + 1, R, o => idsGo n R.id.1 (o ++ [R.id.2])
def idsM (R : RM) : RM × List (List Int) × Bool := if 1000 < R.uint.2 then (R.uint.1, [], false) else ((idsGo R.uint.2.toNat R.uint.1 []).1, (idsGo R.uint.2.toNat R.uint.1 []).2, true)
theorem info_kid : (Tryd.prog.info? 74).map (fun i => (i.zero, i.size, i.bytes)) = some (some (.agg zid), 32, 32) := by kernel_rfl
theorem info_ke : (Tryd.prog.info? 76).map (fun i => (i.zero, i.size, i.bytes)) = some (some (.agg ez34), 34, 56) := by kernel_rfl
section
variable {w W : World} {lim g : Nat} {R : RM}
set_option maxRecDepth 100000 in
set_option maxHeartbeats 4000000 in
theorem oids_calls (h : RS w W lim g R) :
    Calls Tryd.prog 67 #[.pointer (some ⟨g, 0, none⟩)] W fun e w' => ∃ v, e = .returned (.tuple #[v, .bool (idsM R).2.2]) ∧ Kd.R kId 74 w' w.heap.size (fun k => W.heap.size ≤ k) v (idsM R).2.1 ∧ RS w w' lim g (idsM R).1 ∧ Kept W w' (fun k => k = g) := by
  have hb := RM.uint_bd h.byt
  obtain ⟨R1, hR1⟩ : ∃ z, z = R.uint.1 := ⟨_, rfl⟩
  obtain ⟨n, hn⟩ : ∃ z, z = R.uint.2 := ⟨_, rfl⟩
  have hm : idsM R = if 1000 < n then (R1, [], false) else ((idsGo n.toNat R1 []).1, (idsGo n.toNat R1 []).2, true) := by unfold idsM; rw [← hn, ← hR1]
  have HU := h.uint
  rw [← hn, ← hR1] at HU
  rw [← hn] at hb
  have H0 := Aside0.mk (And.intro HU (And.intro hm h))
  clear HU hm hn hR1
  by_cases hbig : 1000 < n
  · have d1 : decide (n > 1000) = true := decide_eq_true hbig
    have hM : idsM R = (R1, [], false) := by rw [H0.out.2.1, if_pos hbig]
    rw [hM]
    have HM := Aside0.mk hM
    clear hM hb h
    go_enter Tryd.func67, Tryd.ntmps67
    go_wp2_with (go_at_call 50; go_loud (refine H0.out.1.mono ?_; rintro e w1 ⟨rfl, h1, k1⟩; have H1 := Aside0.mk (And.intro h1 k1); clear h1 k1))
    go_ret2
    exact ⟨_, rfl, Kd.R_nil _ _ _ _ _, H1.out⟩
  · have d1 : decide (n > 1000) = false := decide_eq_false hbig
    obtain ⟨m, rfl⟩ : ∃ m : Nat, n = m := ⟨n.toNat, by omega⟩
    have hM : idsM R = ((idsGo m R1 []).1, (idsGo m R1 []).2, true) := by rw [H0.out.2.1, if_neg hbig, Int.toNat_natCast]
    rw [hM]
    have hm1000 : m ≤ 1000 := by omega
    clear hM hb hbig h
    go_enter Tryd.func67, Tryd.ntmps67
    go_wp2_with (go_at_call 50; go_loud (refine H0.out.1.mono ?_; rintro e w1 ⟨rfl, h1, k1⟩; have H1 := Aside0.mk (And.intro h1 k1); clear h1 k1))
    go_loopg [5, 11] m (fun q v5 v11 wr => ∃ (i : Nat) (R2 : RM) (o : List (List Int)), v11 = .int .u64 i ∧ q + i = m ∧ Aside0 (RS w wr lim g R2 ∧ Kept W wr (fun k => k = g) ∧ Kd.R kId 74 wr w.heap.size (fun k => W.heap.size ≤ k) v5 o ∧ idsGo m R1 [] = idsGo q R2 o ∧ o.length = i))
    case atStart => exact ⟨0, R1, [], rfl, rfl, ⟨H1.out.1, H1.out.2, Kd.R_nil _ _ _ _ _, rfl, rfl⟩⟩
    case round =>
      clear H1
      obtain ⟨i, R2, o, rfl, hq, hI⟩ := hrel
      by_cases hlt : i < m
      · have d2 : decide ((i : Int) < (m : Int)) = true := decide_eq_true (by omega)
        obtain ⟨q', rfl⟩ : ∃ q', gk = q' + 1 := ⟨gk - 1, by omega⟩
        have HL := Aside0.mk (show (o.length + 1) * 32 ≤ 140737488355328 from by have := hI.out.2.2.2.2; omega)
        go_wp2_with (first
          | (go_at_call 69; go_loud (refine hI.out.1.id.mono ?_; rintro e w5 ⟨rfl, h5, k5⟩; obtain ⟨id, hid⟩ : ∃ z, z = R2.id.2 := ⟨_, rfl⟩; rw [← hid]; have H5 := Aside0.mk (show RS w w5 lim g R2.id.1 ∧ Kept W w5 (fun k => k = g) ∧ Kd.R kId 74 w5 w.heap.size (fun k => W.heap.size ≤ k) u5 o ∧ id = R2.id.2 from ⟨h5, hI.out.2.1.then_ k5 (fun k h => .inl h), Kd.R_kept hI.out.2.2.1 k5 (fun k hk e => by have h1 := hI.out.1.lt; have h2 := H0.out.2.2.le; have : k = g := e; omega), hid⟩); clear h5 k5 hid))
          | ((with_reducible refine gate_dst (N := 16) rfl ?_); refine Kd.event_run rfl (v := .slice (some ⟨w5.heap.size, 0, none⟩) 1 1) (w1 := w5.alloc (.cells (nums .u8 id).toArray 74)) ?hr ?_; (case hr => exact exec_buildS (.tmp 15) (by rw [H5.out.2.2.2]; exact id_32 R2) rfl rfl))
          | ((with_reducible refine gate_builtin (b := .append) (xs := #[.tmp 13, .tmp 16]) rfl ?_); at_builtin; go_loud ( refine Kd.R_append kId (w0 := w) (W := w5) w.heap.size ?q1 (.tmp 13) (.tmp 16) 54 74 (.agg zid) 32 ?q2 Tryd.underlying54 ?q3 ?q4 (by decide) (by decide) u5 o id (nums .u8 id) (fun k => W.heap.size ≤ k) (fun _ => False) ?q5 ?q6 ?aM (fun _ hk => hk.elim) ?aF ?aH ?aB ?aS ?aL ?_; (case q1 => rfl); (case q2 => rfl); (case q3 => exact info_kid); (case q4 => rfl); (case q5 => rfl); (case q6 => rfl); (case aH => exact H5.out.2.2.1); (case aM => exact (show Kd.M kId _ _ _ id (nums .u8 id) from ⟨rfl, by rw [nums_length, H5.out.2.2.2]; exact id_32 R2⟩)); (case aF => exact fun k hk => Nat.le_trans H5.out.2.1.1 hk); (case aB => exact H5.out.1.bl); (case aS => exact H5.out.1.bl.size); (case aL => exact HL.out); intro v6 w6 ho6 hb6 hg6 _; have hk6 : Kept w5 w6 (fun k => W.heap.size ≤ k) := Kept.of_grown hg6 (Kept.refl _ _) (fun k e => .inl ((Kd.R_bound H5.out.2.2.1).1 k e).1); have H6 := Aside0.mk (show RS w w6 lim g R2.id.1 ∧ Kept W w6 (fun k => k = g) ∧ Kd.R kId 74 w6 w.heap.size (fun k => W.heap.size ≤ k) v6 (o ++ [id]) from ⟨H5.out.1.kept hb6 hk6 (fun k hk => Nat.le_trans H0.out.2.2.le hk), H5.out.2.1.then_ hk6 (fun k hk => .inr hk), ho6⟩); clear ho6 hb6 hg6 hk6)))
        go_roundg q'
        case measure => omega
        case rel => exact ⟨i + 1, R2.id.1, o ++ [id], by go_num, by omega, ⟨H6.out.1, H6.out.2.1, H6.out.2.2, by rw [hI.out.2.2.2.1, H5.out.2.2.2]; rfl, by rw [List.length_append, hI.out.2.2.2.2]; rfl⟩⟩
      · have d2 : decide ((i : Int) < (m : Int)) = false := decide_eq_false (by omega)
        obtain rfl : gk = 0 := by omega
        have he := Aside0.mk (show idsGo m R1 [] = (R2, o) from hI.out.2.2.2.1)
        go_wp2
        go_ret2
        exact ⟨_, rfl, by rw [he.out]; exact hI.out.2.2.1, by rw [he.out]; exact hI.out.1, hI.out.2.1⟩
/-! ### entries -/
def oneE (R : RM) : EM := ⟨strOfNums (R.bytes 255).2, (R.bytes 255).1.bool.2, ((R.bytes 255).1.bool.1).id.2⟩
def stepE (R : RM) : RM := (((R.bytes 255).1.bool.1).id).1
def entGo : Nat → RM → List EM → RM × List EM
  | 0, R, o => (R, o)
  | n + 1, R, o => entGo n (stepE R) (o ++ [oneE R])
def entM (R : RM) : RM × List EM × Bool := if 500 < R.uint.2 then (R.uint.1, [], false) else ((entGo R.uint.2.toNat R.uint.1 []).1, (entGo R.uint.2.toNat R.uint.1 []).2, true)
theorem one_32 (R : RM) : (oneE R).id.length = 32 := id_32 _
set_option maxRecDepth 100000 in
set_option maxHeartbeats 8000000 in
theorem oents_calls (h : RS w W lim g R) :
    Calls Tryd.prog 68 #[.pointer (some ⟨g, 0, none⟩)] W fun e w' => ∃ v, e = .returned (.tuple #[v, .bool (entM R).2.2]) ∧ Kd.R kE 76 w' w.heap.size (fun k => W.heap.size ≤ k) v (entM R).2.1 ∧ RS w w' lim g (entM R).1 ∧ Kept W w' (fun k => k = g) := by
  have hb := RM.uint_bd h.byt
  obtain ⟨R1, hR1⟩ : ∃ z, z = R.uint.1 := ⟨_, rfl⟩
  obtain ⟨n, hn⟩ : ∃ z, z = R.uint.2 := ⟨_, rfl⟩
  have hm : entM R = if 500 < n then (R1, [], false) else ((entGo n.toNat R1 []).1, (entGo n.toNat R1 []).2, true) := by unfold entM; rw [← hn, ← hR1]
  have HU := h.uint
  rw [← hn, ← hR1] at HU
  rw [← hn] at hb
  have H0 := Aside0.mk (And.intro HU (And.intro hm h))
  clear HU hm hn hR1
  by_cases hbig : 500 < n
  · have d1 : decide (n > 500) = true := decide_eq_true hbig
    have hM : entM R = (R1, [], false) := by rw [H0.out.2.1, if_pos hbig]
    rw [hM]
    have HM := Aside0.mk hM
    clear hM hb h
    go_enter Tryd.func68, Tryd.ntmps68
    go_wp2_with (go_at_call 50; go_loud (refine H0.out.1.mono ?_; rintro e w1 ⟨rfl, h1, k1⟩; have H1 := Aside0.mk (And.intro h1 k1); clear h1 k1))
    go_ret2
    exact ⟨_, rfl, Kd.R_nil _ _ _ _ _, H1.out⟩
  · have d1 : decide (n > 500) = false := decide_eq_false hbig
    obtain ⟨m, rfl⟩ : ∃ m : Nat, n = m := ⟨n.toNat, by omega⟩
    have hM : entM R = ((entGo m R1 []).1, (entGo m R1 []).2, true) := by rw [H0.out.2.1, if_neg hbig, Int.toNat_natCast]
    rw [hM]
    have hm500 : m ≤ 500 := by omega
    clear hM hb hbig h
    go_enter Tryd.func68, Tryd.ntmps68
    go_wp2_with (go_at_call 50; go_loud (refine H0.out.1.mono ?_; rintro e w1 ⟨rfl, h1, k1⟩; have H1 := Aside0.mk (And.intro h1 k1); clear h1 k1))
    go_loopg [5, 11] m (fun q v5 v11 wr => ∃ (i : Nat) (R2 : RM) (o : List EM), v11 = .int .u64 i ∧ q + i = m ∧ Aside0 (RS w wr lim g R2 ∧ Kept W wr (fun k => k = g) ∧ Kd.R kE 76 wr w.heap.size (fun k => W.heap.size ≤ k) v5 o ∧ entGo m R1 [] = entGo q R2 o ∧ o.length = i))
    case atStart => exact ⟨0, R1, [], rfl, rfl, ⟨H1.out.1, H1.out.2, Kd.R_nil _ _ _ _ _, rfl, rfl⟩⟩
    case round =>
      clear H1
      obtain ⟨i, R2, o, rfl, hq, hI⟩ := hrel
      by_cases hlt : i < m
      · have d2 : decide ((i : Int) < (m : Int)) = true := decide_eq_true (by omega)
        obtain ⟨q', rfl⟩ : ∃ q', gk = q' + 1 := ⟨gk - 1, by omega⟩
        have HL := Aside0.mk (show (o.length + 1) * 56 ≤ 140737488355328 from by have := hI.out.2.2.2.2; omega)
        have hgl := hI.out.1.lt
        have hlw := H0.out.2.2.le
        go_upto_region 7 with (fail)
        obtain ⟨wd, hwd⟩ : ∃ x, x = wr.drew := ⟨_, rfl⟩
        have hbd : Below wr.heap.size wr wd := by rw [hwd]; exact below_drew1 (Below.refl _ _)
        have HD := Aside0.mk (show RS w wd lim g R2 ∧ Kept W wd (fun k => k = g) ∧ Kd.R kE 76 wd w.heap.size (fun k => W.heap.size ≤ k) u5 o from ⟨hI.out.1.below hbd, hI.out.2.1.below hbd, Kd.R_below hI.out.2.2.1 hbd⟩)
        clear hbd
        refine start_ (n := 12) (S := fun _ => True) (ds := []) #[false, false, false, false, false, false, false, false, false, false, false, false] (by kernel_rfl) rfl (by kernel_rfl) (trivial) (fun hHeld => ?_)
        rw [← hwd]
        clear hHeld
        have hHeld : True := trivial
        clear hwd
        refine pure_ (i := 0) (N := some 13) (v := ?_) (a' := ?_) #[true, false, false, false, false, false, false, false, false, false, false, false] rfl rfl (by kernel_rfl) (fun _ _ _ h => h) (Or.inl ⟨by rfl, ?_⟩) ?_ ?_
        rotate_left
        · intro w'
          go_simp
          with_reducible rfl
        rotate_left
        · simp only [Act.put, List.setIfInBounds_toArray, List.set_cons_zero, List.set_cons_succ, i64_w, i32_w]
          rfl
        refine pure_ (i := 1) (N := some 14) (v := ?_) (a' := ?_) #[true, true, false, false, false, false, false, false, false, false, false, false] rfl rfl (by kernel_rfl) (fun _ _ _ h => h) (Or.inl ⟨by rfl, ?_⟩) ?_ ?_
        rotate_left
        · intro w'
          go_simp
          with_reducible rfl
        rotate_left
        · simp only [Act.put, List.setIfInBounds_toArray, List.set_cons_zero, List.set_cons_succ, i64_w, i32_w]
          rfl
        refine pure_ (i := 4) (N := some 17) (v := ?_) (a' := ?_) #[true, true, false, false, true, false, false, false, false, false, false, false] rfl rfl (by kernel_rfl) (fun _ _ _ h => h) (Or.inl ⟨by rfl, ?_⟩) ?_ ?_
        rotate_left
        · intro w'
          go_simp
          with_reducible rfl
        rotate_left
        · simp only [Act.put, List.setIfInBounds_toArray, List.set_cons_zero, List.set_cons_succ, i64_w, i32_w]
          rfl
        refine pure_ (i := 6) (N := some 19) (v := ?_) (a' := ?_) #[true, true, false, false, true, false, true, false, false, false, false, false] rfl rfl (by kernel_rfl) (fun _ _ _ h => h) (Or.inl ⟨by rfl, ?_⟩) ?_ ?_
        rotate_left
        · intro w'
          go_simp
          with_reducible rfl
        rotate_left
        · simp only [Act.put, List.setIfInBounds_toArray, List.set_cons_zero, List.set_cons_succ, i64_w, i32_w]
          rfl
        refine one_ (i := 2) (N := some 15) #[true, true, true, false, true, false, true, false, false, false, false, false] rfl rfl (by kernel_rfl) (by decide) (fun K hK => ?_)
        refine goes_ Tryd.func52 (by kernel_rfl) rfl #[.pointer (some ⟨g, 0, none⟩), .int .i64 255] (by rfl) rfl rfl (by (try simp only [List.map_toArray, List.map_cons, List.map_nil]); rfl) ?_
        refine (HD.out.1.bytes 255 (by omega)).mono ?_
        rintro e w8 ⟨u8, rfl, hr8, h8, hk8⟩
        refine ⟨_, rfl, ?_⟩
        have H8 := Aside0.mk (show Kd.R (Kd.int .u8) 5 w8 wd.heap.size (fun k => some k = u8.ownBlock) u8 (R2.bytes 255).2 ∧ RS w w8 lim g (R2.bytes 255).1 ∧ Kept W w8 (fun k => k = g) ∧ Kd.R kE 76 w8 w.heap.size (fun k => W.heap.size ≤ k) u5 o from ⟨Kd.R_tight rfl hr8, h8, HD.out.2.1.then_ hk8 (fun k h => .inl h), Kd.R_kept HD.out.2.2 hk8 (fun k hk e => by have : k = g := e; omega)⟩)
        clear hr8 h8 hk8
        refine hK.out _ _ (trivial) (fun hHeld => ?_)
        clear hK K
        refine norm_ (a' := ?_) ?_ ?_
        rotate_left
        · show Act.put _ (some 15) _ = _
          simp only [Act.put, List.setIfInBounds_toArray, List.set_cons_zero, List.set_cons_succ, i64_w, i32_w]
          rfl
        refine hold_ (S' := fun W => Kd.R (Kd.int .u8) 5 W wd.heap.size (fun k => some k = u8.ownBlock) u8 (R2.bytes 255).2) _ _ _ _ ?_
        have hHeld2 := H8.out.1
        clear hHeld
        have hHeld := hHeld2
        clear hHeld2
        have hyp : Byt (R2.bytes 255).2 := (RM.bytes_byt HD.out.1.byt 255).2
        have HYP := Aside0.mk hyp
        refine take_ (i := 3) (N := some 16) (v := ?_) (a' := ?_) #[true, true, true, true, true, false, true, false, false, false, false, false] rfl rfl (by kernel_rfl) (fun _ _ _ h => h) (Or.inl ⟨by rfl, ?_⟩) hHeld ?_ ?_
        rotate_left
        · rintro w' s0
          have hcv := row_conv hyp s0
          go_simp
          with_reducible rfl
        rotate_left
        · simp only [Act.put, List.setIfInBounds_toArray, List.set_cons_zero, List.set_cons_succ, i64_w, i32_w]
          rfl
        clear hyp
        refine one_ (i := 5) (N := some 18) #[true, true, true, true, true, true, true, false, false, false, false, false] rfl rfl (by kernel_rfl) (by decide) (fun K hK => ?_)
        refine goes_ Tryd.func82 (by kernel_rfl) rfl #[.pointer (some ⟨g, 0, none⟩)] (by rfl) rfl rfl (by (try simp only [List.map_toArray, List.map_cons, List.map_nil]); rfl) ?_
        refine H8.out.2.1.bool.mono ?_
        rintro e w9 ⟨rfl, h9, hk9⟩
        refine ⟨_, rfl, ?_⟩
        have H9 := Aside0.mk (show Kd.R (Kd.int .u8) 5 w9 wd.heap.size (fun k => some k = u8.ownBlock) u8 (R2.bytes 255).2 ∧ RS w w9 lim g (R2.bytes 255).1.bool.1 ∧ Kept W w9 (fun k => k = g) ∧ Kd.R kE 76 w9 w.heap.size (fun k => W.heap.size ≤ k) u5 o from ⟨row_stays H8.out.1 hk9 (fun k hk e => by have h1 := HD.out.1.le; have : k = g := e; omega), h9, H8.out.2.2.1.then_ hk9 (fun k h => .inl h), Kd.R_kept H8.out.2.2.2 hk9 (fun k hk e => by have : k = g := e; omega)⟩)
        clear h9 hk9
        refine hK.out _ _ (H9.out.1) (fun hHeld => ?_)
        clear hK K
        refine norm_ (a' := ?_) ?_ ?_
        rotate_left
        · show Act.put _ (some 18) _ = _
          simp only [Act.put, List.setIfInBounds_toArray, List.set_cons_zero, List.set_cons_succ, i64_w, i32_w]
          rfl
        refine one_ (i := 7) (N := some 20) #[true, true, true, true, true, true, true, true, false, false, false, false] rfl rfl (by kernel_rfl) (by decide) (fun K hK => ?_)
        refine goes_ Tryd.func69 (by kernel_rfl) rfl #[.pointer (some ⟨g, 0, none⟩)] (by rfl) rfl rfl (by (try simp only [List.map_toArray, List.map_cons, List.map_nil]); rfl) ?_
        refine H9.out.2.1.id.mono ?_
        rintro e w10 ⟨rfl, h10, hk10⟩
        refine ⟨_, rfl, ?_⟩
        have H10 := Aside0.mk (show Kd.R (Kd.int .u8) 5 w10 wd.heap.size (fun k => some k = u8.ownBlock) u8 (R2.bytes 255).2 ∧ RS w w10 lim g (stepE R2) ∧ Kept W w10 (fun k => k = g) ∧ Kd.R kE 76 w10 w.heap.size (fun k => W.heap.size ≤ k) u5 o from ⟨row_stays H9.out.1 hk10 (fun k hk e => by have h1 := HD.out.1.le; have : k = g := e; omega), h10, H9.out.2.2.1.then_ hk10 (fun k h => .inl h), Kd.R_kept H9.out.2.2.2 hk10 (fun k hk e => by have : k = g := e; omega)⟩)
        clear h10 hk10
        refine hK.out _ _ (H10.out.1) (fun hHeld => ?_)
        clear hK K
        refine norm_ (a' := ?_) ?_ ?_
        rotate_left
        · show Act.put _ (some 20) _ = _
          simp only [Act.put, List.setIfInBounds_toArray, List.set_cons_zero, List.set_cons_succ, i64_w, i32_w]
          rfl
        refine pure_ (i := 8) (N := some 21) (v := .agg (ecells (oneE R2)).toArray) (a' := ?_) #[true, true, true, true, true, true, true, true, true, false, false, false] rfl rfl (by kernel_rfl) (fun _ _ _ h => h) (Or.inl ⟨by rfl, fun w' => ?ld⟩) ?_ ?_
        case ld => exact exec_build3 (.tmp 16) (.tmp 18) (.tmp 20) (id_32 _) rfl rfl rfl rfl
        rotate_left
        · simp only [Act.put, List.setIfInBounds_toArray, List.set_cons_zero, List.set_cons_succ, i64_w, i32_w]
          rfl
        refine one_ (i := 9) (N := some 22) #[true, true, true, true, true, true, true, true, true, true, false, false] rfl rfl (by kernel_rfl) (by decide) (fun K hK => ?_)
        refine value_ (v := .slice (some ⟨w10.heap.size, 0, none⟩) 1 1) (w1 := w10.alloc (.cells (ecells (oneE R2)).toArray 76)) (by rfl) rfl ?hr ?_
        case hr => exact exec_buildE (.tmp 21) (one_32 R2) rfl rfl
        refine hK.out _ _ (row_stays H10.out.1 (Kept.of_below (below_alloc (Below.refl _ _) _) (fun _ => False)) (fun _ _ h => h)) (fun hHeld => ?_)
        clear hK K
        refine norm_ (a' := ?_) ?_ ?_
        rotate_left
        · show Act.put _ (some 22) _ = _
          simp only [Act.put, List.setIfInBounds_toArray, List.set_cons_zero, List.set_cons_succ, i64_w, i32_w]
          rfl
        refine one_ (i := 10) (N := some 23) #[true, true, true, true, true, true, true, true, true, true, true, false] rfl rfl (by kernel_rfl) (by decide) (fun K hK => ?_)
        refine Kd.R_append_step kE (w0 := w) w.heap.size ?aW (.tmp 13) (.tmp 22) 55 76 (.agg ez34) 56 ?as0 Tryd.underlying55 info_ke rfl (by decide) (by omega) u5 o (oneE R2) (ecells (oneE R2)) (fun k => W.heap.size ≤ k) (fun _ => False) ?as1 ?as2 ?aP (fun _ hk => hk.elim) ?aF ?aO ?aB ?aS ?aL ?_
        case aW => rfl
        case as0 => rfl
        case as1 => rfl
        case as2 => rfl
        case aP => exact ⟨rfl, ecells_len (one_32 R2)⟩
        case aF => exact fun k hk => Nat.le_trans H10.out.2.2.1.1 hk
        case aO => exact H10.out.2.2.2
        case aB => exact H10.out.2.1.bl
        case aS => exact H10.out.2.1.bl.size
        case aL => exact HL.out
        intro v6 w6 ho6 hb6 hg6 _
        have hk6 : Kept w10 w6 (fun k => some k = u5.ownBlock) := Kept.of_grown hg6 (Kept.refl _ _) (fun k e => .inl e.symm)
        have hu5 : ∀ k, some k = u5.ownBlock → W.heap.size ≤ k ∧ k < wd.heap.size := fun k e => by
          have h := (Kd.R_bound HD.out.2.2).1 k e.symm
          exact ⟨h.1, h.2.2.1⟩
        have hp6 := row_stays H10.out.1 hk6 (fun k hk e => by have := hu5 k e; omega)
        have H6 := Aside0.mk (show RS w w6 lim g (stepE R2) ∧ Kept W w6 (fun k => k = g) ∧ Kd.R kE 76 w6 w.heap.size (fun k => W.heap.size ≤ k) v6 (o ++ [oneE R2]) from ⟨H10.out.2.1.kept hb6 hk6 (fun k hk => Nat.le_trans H0.out.2.2.le (hu5 k hk).1), H10.out.2.2.1.then_ hk6 (fun k hk => .inr (hu5 k hk).1), ho6⟩)
        have HP6 := Aside0.mk hp6
        clear ho6 hb6 hg6 hk6 hu5 hp6
        refine hK.out _ _ (HP6.out) (fun hHeld => ?_)
        clear hK K
        refine norm_ (a' := ?_) ?_ ?_
        rotate_left
        · show Act.put _ (some 23) _ = _
          simp only [Act.put, List.setIfInBounds_toArray, List.set_cons_zero, List.set_cons_succ, i64_w, i32_w]
          rfl
        refine pure_ (i := 11) (N := some 5) (v := ?_) (a' := ?_) #[true, true, true, true, true, true, true, true, true, true, true, true] rfl rfl (by kernel_rfl) (fun _ _ _ h => h) (Or.inl ⟨by rfl, ?_⟩) ?_ ?_
        rotate_left
        · intro w'
          go_simp
          with_reducible rfl
        rotate_left
        · simp only [Act.put, List.setIfInBounds_toArray, List.set_cons_zero, List.set_cons_succ, i64_w, i32_w]
          rfl
        refine done_ (by kernel_rfl) ?_
        go_wp2
        go_roundg q'
        case measure => omega
        case rel => exact ⟨i + 1, stepE R2, o ++ [oneE R2], by go_num, by omega, ⟨H6.out.1, H6.out.2.1, H6.out.2.2, by rw [hI.out.2.2.2.1]; rfl, by rw [List.length_append, hI.out.2.2.2.2]; rfl⟩⟩
      · have d2 : decide ((i : Int) < (m : Int)) = false := decide_eq_false (by omega)
        obtain rfl : gk = 0 := by omega
        have he := Aside0.mk (show entGo m R1 [] = (R2, o) from hI.out.2.2.2.1)
        go_wp2
        go_ret2
        exact ⟨_, rfl, by rw [he.out]; exact hI.out.2.2.1, by rw [he.out]; exact hI.out.1, hI.out.2.1⟩
end
end Go.Proofs.YtgjdcdhfijkoiaaDoor.Obj
end
section
namespace Go.Proofs.YtgjdcdhfijkoiaaDoor.Obj
open Go.RowKit Go.Proofs.YtgjdcdhfijkoiaaDoorW.PrintWords Go.Proofs.YtgjdcdhfijkoiaaDoorW.PrintLast Go.Proofs.YtgjdcdhfijkoiaaDoorW.PrintMore Go.Proofs.YtgjdcdhfijkoiaaDoor.Mem Go.Proofs.YtgjdcdhfijkoiaaDoor.Cod Go.Proofs.YtgjdcdhfijkoiaaDoor.PCod Go.Proofs.YtgjdcdhfijkoiaaDoor.Str Go.Proofs.YtgjdcdhfijkoiaaDoor.Open
set_option linter.unusedVariables false
set_option linter.unusedSimpArgs false
def zeroO : OM := ⟨0, [], 0, [], [], ByteArray.empty⟩
/-- What the switch leaves: the reader, the object, whether that is well. -/
def swM (k kb : Int) (R : RM) : RM × OM × Bool :=
  if k = 1 then ((R.bytes 32768).1, ⟨kb, (R.bytes 32768).2, 0, [], [], ByteArray.empty⟩, true) else
  if k = 2 then ((idsM R.uint.1).1, ⟨kb, [], R.uint.2, (idsM R.uint.1).2.1, [], ByteArray.empty⟩, (idsM R.uint.1).2.2) else
  if k = 3 then ((entM R).1, ⟨kb, [], 0, [], (entM R).2.1, ByteArray.empty⟩, (entM R).2.2) else
  if k = 4 then ((R.uint.1.id.1.bytes 255).1, ⟨kb, [], R.uint.2, [R.uint.1.id.2], [], S (R.uint.1.id.1.bytes 255).2⟩, true) else
  (R, ⟨kb, [], 0, [], [], ByteArray.empty⟩, false)
def finM (z : RM × OM × Bool) : OM × Int := if z.2.2 = false then (zeroO, 11) else if z.1.end_ ≠ 0 then (zeroO, z.1.end_) else if errC z.2.1 ≠ 0 then (zeroO, 11) else (z.2.1, 0)
def getO (b : List Int) : OM × Int := if (⟨b, 0⟩ : RM).uint.1.e ≠ 0 then (zeroO, (⟨b, 0⟩ : RM).uint.1.e) else finM (swM (⟨b, 0⟩ : RM).uint.2 (IntKind.u8.wrap (⟨b, 0⟩ : RM).uint.2) (⟨b, 0⟩ : RM).uint.1)
def oz : Array Value := (ocells 0 0 (.slice none 0 0) (.slice none 0 0) (.slice none 0 0) ByteArray.empty).toArray
theorem oz_v : OV oz zeroO none none none 0 0 0 := rfl
/-- Rows of an object, behind its own block. -/
def Far {α : Type} (d : Kd α) (W : World) (gn : Nat) (A : Option Addr) (xs : List α) : Prop := Kd.C d W A xs.length xs ∧ ∀ ad, A = some ad → gn < ad.block
theorem C_keptG {α : Type} {d : Kd α} {w w' : World} {S : Nat → Prop} {A : Option Addr} {n : Nat} {xs : List α} (hK : ∀ x c, d.K w x c → d.K w' x c) (h : Kd.C d w A n xs) (hk : Kept w w' S) (hs : ∀ ad, A = some ad → ¬ S ad.block) : Kd.C d w' A n xs := by
  obtain ⟨q1, q2, q3⟩ := h
  refine ⟨q1, q2, fun hp => ?_⟩
  obtain ⟨ad, e1, hc0⟩ := q3 hp
  refine ⟨ad, e1, fun j p hj => ?_⟩
  obtain ⟨cc, hl, hkk, hcell⟩ := hc0 j p hj
  refine ⟨cc, hl, hK _ _ hkk, fun i u hu => ?_⟩
  have hq := hcell i u hu
  refine Go.Proofs.YtgjdcdhfijkoiaaDoorW.PrintWords.cell_kept hq hk ?_
  have hb : (ad.add (j * d.sz + i)).block = ad.block := by unfold Addr.add; split <;> rfl
  rw [hb]
  exact hs ad e1
theorem far_kept {α : Type} {d : Kd α} (hK : ∀ w w' x c, d.K w x c → d.K w' x c) {W W' : World} {gn : Nat} {A : Option Addr} {xs : List α} (h : Far d W gn A xs) {S : Nat → Prop} (hk : Kept W W' S) (hs : ∀ k, S k → k ≤ gn) : Far d W' gn A xs :=
  ⟨C_keptG (fun x c => hK W W' x c) h.1 hk (fun ad e hq => by have h1 := h.2 ad e; have h2 := hs _ hq; omega), h.2⟩
theorem far_nil {α : Type} (d : Kd α) (W : World) (gn : Nat) : Far d W gn none [] := ⟨Kd.C_nil _ _, fun _ h => by cases h⟩
theorem far_of {α : Type} {d : Kd α} {W : World} {e N gn c n : Nat} {ok : Nat → Prop} {A : Option Addr} {xs : List α} (h : Kd.R d e W N ok (.slice A n c) xs) (hC : Kd.C d W A xs.length xs) (ho : ∀ k, ok k → N ≤ k → gn < k) : Far d W gn A xs :=
  ⟨hC, fun ad e => by subst e; have h1 := (Kd.R_bound h).1 ad.block rfl; exact ho _ h1.1 h1.2.1⟩
/-- Get under way. -/
structure GO (w1 W : World) (lim g gn : Nat) (R : RM) (x : OM) (A Y E : Option Addr) (bc yc ec : Nat) : Prop where
  rs : RS w1 W lim g R
  gl : lim ≤ gn
  ob : OB W gn x A Y E bc yc ec
  rA : Far (Kd.int .u8) W gn A x.b
  rY : Far kId W gn Y x.ids
  rE : Far kE W gn E x.es
section
variable {w1 W W' : World} {lim g gn : Nat} {R R' : RM} {x : OM} {A Y E : Option Addr} {bc yc ec : Nat}
theorem GO.kept (h : GO w1 W lim g gn R x A Y E bc yc ec) (hr : RS w1 W' lim g R') {S : Nat → Prop} (hk : Kept W W' S) (hs : ∀ k, S k → k < gn) : GO w1 W' lim g gn R' x A Y E bc yc ec :=
  ⟨hr, h.gl, blk_kept h.ob hk (fun e => by have := hs _ e; omega), far_kept (fun _ _ _ _ h => h) h.rA hk (fun k e => Nat.le_of_lt (hs k e)), far_kept (fun _ _ _ _ h => h) h.rY hk (fun k e => Nat.le_of_lt (hs k e)), far_kept (fun _ _ _ _ h => h) h.rE hk (fun k e => Nat.le_of_lt (hs k e))⟩
theorem GO.read (h : GO w1 W lim g gn R x A Y E bc yc ec) (hr : RS w1 W' lim g R') (hk : Kept W W' (fun k => k = g)) : GO w1 W' lim g gn R' x A Y E bc yc ec :=
  h.kept hr hk (fun k e => by have h1 := h.rs.lt; have h2 := h.gl; have : k = g := e; omega)
theorem GO.below (h : GO w1 W lim g gn R x A Y E bc yc ec) (hb : Below W.heap.size W W') : GO w1 W' lim g gn R x A Y E bc yc ec :=
  h.kept (h.rs.below hb) (S := fun _ => False) (Kept.of_below hb _) (fun _ h => h.elim)
/-- A field was written. -/
theorem GO.field (h : GO w1 W lim g gn R x A Y E bc yc ec) (j : Nat) (v : Value) {x' : OM} {A' Y' E' : Option Addr} {bc' yc' ec' : Nat} (ho : OB (W.setCell ⟨gn, j, none⟩ v) gn x' A' Y' E' bc' yc' ec')
    (hA : Far (Kd.int .u8) W gn A' x'.b) (hY : Far kId W gn Y' x'.ids) (hE : Far kE W gn E' x'.es) : GO w1 (W.setCell ⟨gn, j, none⟩ v) lim g gn R x' A' Y' E' bc' yc' ec' := by
  have hk : Kept W (W.setCell ⟨gn, j, none⟩ v) (fun k => k = gn) := (Kept.refl W (fun k => k = gn)).setCell (p := ⟨gn, j, none⟩) (.inl rfl) _
  have hb : Below w1.heap.size w1 (W.setCell ⟨gn, j, none⟩ v) := below_set h.rs.bl (by have h1 := h.rs.b0; have h2 := h.gl; show w1.heap.size ≤ gn; omega)
  have hs : ∀ k, k = gn → k ≤ gn := fun k e => Nat.le_of_eq e
  exact ⟨h.rs.kept hb hk (fun k e => by have : k = gn := e; have := h.gl; omega), h.gl, ho, far_kept (fun _ _ _ _ h => h) hA hk hs, far_kept (fun _ _ _ _ h => h) hY hk hs, far_kept (fun _ _ _ _ h => h) hE hk hs⟩
theorem GO.setB (h : GO w1 W lim g gn R x A Y E bc yc ec) {A' : Option Addr} {c' n' : Nat} {b' : List Int} (hn : n' = b'.length) (hA : Far (Kd.int .u8) W gn A' b') : GO w1 (W.setCell ⟨gn, 1, none⟩ (.slice A' n' c')) lim g gn R { x with b := b' } A' Y E c' yc ec := by
  subst hn
  exact h.field 1 _ (blk_set h.ob 1 _) hA h.rY h.rE
theorem GO.setN (h : GO w1 W lim g gn R x A Y E bc yc ec) (n' : Int) : GO w1 (W.setCell ⟨gn, 2, none⟩ (.int .u64 n')) lim g gn R { x with n := n' } A Y E bc yc ec :=
  h.field 2 _ (blk_set h.ob 2 _) h.rA h.rY h.rE
theorem GO.setY (h : GO w1 W lim g gn R x A Y E bc yc ec) {Y' : Option Addr} {c' n' : Nat} {y' : List (List Int)} (hn : n' = y'.length) (hY : Far kId W gn Y' y') : GO w1 (W.setCell ⟨gn, 3, none⟩ (.slice Y' n' c')) lim g gn R { x with ids := y' } A Y' E bc c' ec := by
  subst hn
  exact h.field 3 _ (blk_set h.ob 3 _) h.rA hY h.rE
theorem GO.setE (h : GO w1 W lim g gn R x A Y E bc yc ec) {E' : Option Addr} {c' n' : Nat} {y' : List EM} (hn : n' = y'.length) (hE : Far kE W gn E' y') : GO w1 (W.setCell ⟨gn, 4, none⟩ (.slice E' n' c')) lim g gn R { x with es := y' } A Y E' bc yc c' := by
  subst hn
  exact h.field 4 _ (blk_set h.ob 4 _) h.rA h.rY hE
theorem GO.setS (h : GO w1 W lim g gn R x A Y E bc yc ec) (s' : ByteArray) : GO w1 (W.setCell ⟨gn, 5, none⟩ (.string s')) lim g gn R { x with s := s' } A Y E bc yc ec :=
  h.field 5 _ (blk_set h.ob 5 _) h.rA h.rY h.rE
end
theorem build_0 (W : World) : (Instr.build 57 #[]).run Tryd.prog W = .ok (.agg oz) W := by kernel_rfl
theorem build_k (W : World) (k : Int) : (Instr.build 57 #[(0, .int .u8 k)]).run Tryd.prog W = .ok (.agg (ocells k 0 (.slice none 0 0) (.slice none 0 0) (.slice none 0 0) ByteArray.empty).toArray) W := by kernel_rfl
theorem exec_build0 {o : Oper} {ev : Operand → Value} {W : World} (ho : o.op = .build 57 #[]) : (execOp ev o).run Tryd.prog W = .ok (.value (.agg oz)) W := by
  have h := build_0 W
  unfold execOp
  simp [ho, h]
theorem exec_buildk {o : Oper} {ev : Operand → Value} {W : World} (x : Operand) {k : Int} (ho : o.op = .build 57 #[(0, x)]) (hx : ev x = .int .u8 k) : (execOp ev o).run Tryd.prog W = .ok (.value (.agg (ocells k 0 (.slice none 0 0) (.slice none 0 0) (.slice none 0 0) ByteArray.empty).toArray)) W := by
  have h := build_k W k
  unfold execOp
  simp [ho, hx, h]
theorem oz_info : (Tryd.prog.info? 57).map (·.size) = some 6 := by kernel_rfl
theorem ocells_all (k n : Int) (A Y E : Option Addr) (bl bc yl yc el ec : Nat) (s : ByteArray) : (ocells k n (.slice A bl bc) (.slice Y yl yc) (.slice E el ec) s).toArray.all (·.oneCell') = true := by kernel_rfl
theorem ov_all {cs : Array Value} {x : OM} {A Y E : Option Addr} {bc yc ec : Nat} (h : OV cs x A Y E bc yc ec) : (Tryd.prog.info? 57).map (·.size) = some cs.size ∧ oz.size = cs.size ∧ cs.all (·.oneCell') = true := by
  unfold OV at h
  subst h
  exact ⟨oz_info, rfl, ocells_all _ _ _ _ _ _ _ _ _ _ _ _⟩
theorem id_byt {R : RM} (hb : Byt R.b) : Byt R.id.1.b ∧ Byt R.id.2 := by
  have h := RM.fixed_byt hb 32
  refine ⟨h.1, ?_⟩
  unfold RM.id
  dsimp only
  split
  · intro x hx; rw [List.eq_of_mem_replicate hx]; omega
  · exact h.2
theorem bool_byt {R : RM} (hb : Byt R.b) : Byt R.bool.1.b := by
  unfold RM.bool
  split
  · exact hb
  · split
    · intro x hx; cases hx
    · rename_i c r h
      intro x hx
      exact hb x (by rw [h]; exact List.mem_cons_of_mem _ hx)
theorem idsGo_byt : ∀ (n : Nat) (R : RM) (o : List (List Int)), Byt R.b → (∀ p ∈ o, Byt p) → Byt (idsGo n R o).1.b ∧ (∀ p ∈ (idsGo n R o).2, Byt p)
  | 0, R, o, hb, ho => ⟨hb, ho⟩
  | n + 1, R, o, hb, ho => idsGo_byt n _ _ (id_byt hb).1 (fun p hp => by
      rcases List.mem_append.1 hp with h | h
      · exact ho p h
      · rw [List.mem_singleton.1 h]; exact (id_byt hb).2)
theorem idsM_byt {R : RM} (hb : Byt R.b) : Byt (idsM R).1.b ∧ ∀ p ∈ (idsM R).2.1, Byt p := by
  unfold idsM
  split
  · exact ⟨RM.uint_byt hb, fun p hp => by cases hp⟩
  · exact idsGo_byt _ _ _ (RM.uint_byt hb) (fun p hp => by cases hp)
theorem entGo_byt : ∀ (n : Nat) (R : RM) (o : List EM), Byt R.b → (∀ e ∈ o, Byt e.id) → Byt (entGo n R o).1.b ∧ (∀ e ∈ (entGo n R o).2, Byt e.id)
  | 0, R, o, hb, ho => ⟨hb, ho⟩
  | n + 1, R, o, hb, ho => entGo_byt n _ _ (id_byt (bool_byt (RM.bytes_byt hb 255).1)).1 (fun p hp => by
      rcases List.mem_append.1 hp with h | h
      · exact ho p h
      · rw [List.mem_singleton.1 h]; exact (id_byt (bool_byt (RM.bytes_byt hb 255).1)).2)
theorem entM_byt {R : RM} (hb : Byt R.b) : Byt (entM R).1.b ∧ ∀ e ∈ (entM R).2.1, Byt e.id := by
  unfold entM
  split
  · exact ⟨RM.uint_byt hb, fun p hp => by cases hp⟩
  · exact entGo_byt _ _ _ (RM.uint_byt hb) (fun p hp => by cases hp)
theorem swM_1 (kb : Int) (R : RM) : swM 1 kb R = ((R.bytes 32768).1, ⟨kb, (R.bytes 32768).2, 0, [], [], ByteArray.empty⟩, true) := by unfold swM; rw [if_pos rfl]
theorem swM_2 (kb : Int) (R : RM) : swM 2 kb R = ((idsM R.uint.1).1, ⟨kb, [], R.uint.2, (idsM R.uint.1).2.1, [], ByteArray.empty⟩, (idsM R.uint.1).2.2) := by unfold swM; rw [if_neg (by decide), if_pos rfl]
theorem swM_3 (kb : Int) (R : RM) : swM 3 kb R = ((entM R).1, ⟨kb, [], 0, [], (entM R).2.1, ByteArray.empty⟩, (entM R).2.2) := by unfold swM; rw [if_neg (by decide), if_neg (by decide), if_pos rfl]
theorem swM_4 (kb : Int) (R : RM) : swM 4 kb R = ((R.uint.1.id.1.bytes 255).1, ⟨kb, [], R.uint.2, [R.uint.1.id.2], [], S (R.uint.1.id.1.bytes 255).2⟩, true) := by unfold swM; rw [if_neg (by decide), if_neg (by decide), if_neg (by decide), if_pos rfl]
theorem swM_0 {k : Int} (kb : Int) (R : RM) (h1 : k ≠ 1) (h2 : k ≠ 2) (h3 : k ≠ 3) (h4 : k ≠ 4) : swM k kb R = (R, ⟨kb, [], 0, [], [], ByteArray.empty⟩, false) := by unfold swM; rw [if_neg h1, if_neg h2, if_neg h3, if_neg h4]
/-- What holds of what was read. -/
structure SwO (z : RM × OM × Bool) : Prop where
  rb : Byt z.1.b
  bb : Byt z.2.1.b
  bi : ∀ p ∈ z.2.1.ids, Byt p
  be : ∀ e ∈ z.2.1.es, Byt e.id
  n : 0 ≤ z.2.1.n ∧ z.2.1.n ≤ 18446744073709551615
theorem swM_ok (k kb : Int) {R : RM} (hb : Byt R.b) : SwO (swM k kb R) ∧ (swM k kb R).2.1.k = kb := by
  have n0 : ∀ x ∈ ([] : List Int), 0 ≤ x ∧ x ≤ 255 := fun x hx => by cases hx
  have n1 : ∀ x ∈ ([] : List (List Int)), Byt x := fun x hx => by cases hx
  have n2 : ∀ x ∈ ([] : List EM), Byt x.id := fun x hx => by cases hx
  have hu := RM.uint_byt hb
  have hd := RM.uint_bd hb
  by_cases h1 : k = 1
  · subst h1; rw [swM_1]; exact ⟨⟨(RM.bytes_byt hb _).1, (RM.bytes_byt hb _).2, n1, n2, (by show (0 : Int) ≤ 0; omega), (by show (0 : Int) ≤ 18446744073709551615; omega)⟩, rfl⟩
  by_cases h2 : k = 2
  · subst h2; rw [swM_2]; exact ⟨⟨(idsM_byt hu).1, n0, (idsM_byt hu).2, n2, hd⟩, rfl⟩
  by_cases h3 : k = 3
  · subst h3; rw [swM_3]; exact ⟨⟨(entM_byt hb).1, n0, n1, (entM_byt hb).2, (by show (0 : Int) ≤ 0; omega), (by show (0 : Int) ≤ 18446744073709551615; omega)⟩, rfl⟩
  by_cases h4 : k = 4
  · subst h4; rw [swM_4]; exact ⟨⟨(RM.bytes_byt (id_byt hu).1 _).1, n0, fun p hp => by rw [List.mem_singleton.1 hp]; exact (id_byt hu).2, n2, hd⟩, rfl⟩
  · rw [swM_0 kb R h1 h2 h3 h4]; exact ⟨⟨hb, n0, n1, n2, (by show (0 : Int) ≤ 0; omega), (by show (0 : Int) ≤ 18446744073709551615; omega)⟩, rfl⟩
theorem u8_bd (k : Int) : 0 ≤ IntKind.u8.wrap k ∧ IntKind.u8.wrap k ≤ 255 := by rw [IntKind.wrap_u8]; omega
theorem one_id {W : World} {g : Nat} {p : List Int} (h : W.heap[g]? = some (.cells (nums .u8 p).toArray 74 (0, 0))) (hp : p.length = 32) : Kd.C kId W (some ⟨g, 0, none⟩) 1 [p] := by
  refine ⟨rfl, by decide, fun _ => ⟨_, rfl, fun j q hj => ?_⟩⟩
  match j, hj with
  | 0, hj =>
    cases hj
    refine ⟨nums .u8 p, by rw [nums_length]; exact hp, ⟨rfl, by rw [nums_length]; exact hp⟩, fun i u hu => ?_⟩
    rw [add_0, blk_cell h, List.getElem?_toArray]
    simpa using hu
section
variable {w1 W : World} {lim g gn : Nat} {R : RM} {k kb : Int}
/-- What the switch is to leave. -/
def SwR (w1 : World) (lim g gn : Nat) (k kb : Int) (R : RM) (v7 : Value) (wc : World) : Prop := v7 = .bool (swM k kb R).2.2 ∧ Aside0 (∃ A Y E bc yc ec, GO w1 wc lim g gn (swM k kb R).1 (swM k kb R).2.1 A Y E bc yc ec)
end
/-- What Get hands back. -/
def GotO (w : World) (b : List Int) (e : Ending) (w' : World) : Prop := ∃ cs A Y E bc yc ec, e = .returned (.tuple #[.agg cs, .int .i64 (getO b).2]) ∧ OV cs (getO b).1 A Y E bc yc ec ∧ InO w' (getO b).1 A Y E ∧ Below w.heap.size w w'
theorem inO_zero (w : World) : InO w zeroO none none none :=
  ⟨Kd.C_nil _ _, Kd.C_nil _ _, Kd.C_nil _ _, fun x h => (by cases h), fun x h => (by cases h), fun x h => (by cases h), by decide, by decide, by decide, by decide, by decide⟩
section
variable {w : World}
set_option maxRecDepth 100000 in
set_option maxHeartbeats 8000000 in
theorem oget_calls {b : List Int} {A0 : Option Addr} {c0 : Nat} (hr : Kd.C (Kd.int .u8) w A0 b.length b) (hc : b.length ≤ c0) (hl : b.length < 140737488355328) (hy : Byt b) :
    Calls Tryd.prog 35 #[.slice A0 b.length c0] w (GotO w b) := by
  obtain ⟨bl, hbl⟩ : ∃ k, k = b.length := ⟨_, rfl⟩
  obtain ⟨R, hR⟩ : ∃ z, z = (⟨b, 0⟩ : RM).uint.1 := ⟨_, rfl⟩
  obtain ⟨k, hk⟩ : ∃ z, z = (⟨b, 0⟩ : RM).uint.2 := ⟨_, rfl⟩
  have hby := RM.uint_byt (R := ⟨b, 0⟩) hy
  have hbd := RM.uint_bd (R := ⟨b, 0⟩) hy
  rw [← hR] at hby
  obtain ⟨kb, hkb⟩ : ∃ z, z = IntKind.u8.wrap k := ⟨_, rfl⟩
  have hg : getO b = if R.e ≠ 0 then (zeroO, R.e) else finM (swM k kb R) := by unfold getO; rw [hR, hkb, hk]
  have HB := Aside0.mk (And.intro hbl (And.intro hr (And.intro hc (And.intro hl (And.intro hy (And.intro hR (And.intro hk (And.intro hg (And.intro hkb (And.intro hby hbd))))))))))
  rw [← hbl]
  clear hr hc hl hy hbl hR hk hg hby hbd
  by_cases he : R.e = 0
  rotate_left
  · have d1 : (R.e != 0) = true := bne_iff_ne.2 he
    have HG := Aside0.mk (show getO b = (zeroO, R.e) by rw [HB.out.2.2.2.2.2.2.2.1, if_pos he])
    clear he
    go_enter Tryd.func35, Tryd.ntmps35
    go_wp2_with (first
      | ((with_reducible refine gate_dst (N := 2) rfl ?_); refine Kd.event_run rfl (v := .pointer (some ⟨w.heap.size, 0, none⟩)) (w1 := w.alloc (.cells oz 57)) ?hr ?_; (case hr => first | kernel_rfl | (go_simp; done) | (go_simp; rfl)); go_loud (refine wpName (fun w1 hw1 => ?_); have H1 := Aside0.mk (show w1.heap[w.heap.size]? = some (.cells oz 57 (0, 0)) ∧ Below w.heap.size w w1 from ⟨by rw [hw1]; exact blk_new w _, by rw [hw1]; exact below_alloc (Below.refl _ _) _⟩); clear hw1))
      | (go_at_call 49; go_loud (have hx := newReader_calls A0 c0 (Kd.C_below HB.out.2.1 H1.out.2) HB.out.2.2.1 HB.out.2.2.2.1 HB.out.2.2.2.2.1; rw [← HB.out.1] at hx; refine hx.mono ?_; clear hx; rintro e w2 ⟨g, rfl, h1, h2⟩; obtain ⟨lim, hlim⟩ : ∃ z, z = w2.heap.size := ⟨_, rfl⟩; have H2 := Aside0.mk (show RS w1 w2 lim g ⟨b, 0⟩ from ⟨h2, by rw [hlim]; exact h2.size, by rw [hlim]; exact Nat.le_refl _, _, h1, fun k hk => by rw [hlim]; exact hk, by obtain ⟨_, _, q, _⟩ := h1; exact q⟩); clear h1 h2 hlim))
      | (go_at_call 50; go_loud (have hx := H2.out.uint; rw [← HB.out.2.2.2.2.2.1, ← HB.out.2.2.2.2.2.2.1] at hx; refine hx.mono ?_; clear hx; rintro e w3 ⟨rfl, h3, _⟩; have H3 := Aside0.mk h3; clear h3))
      | (go_at_call 51; go_loud (refine H3.out.err.mono ?_; rintro e w4 ⟨rfl, rfl⟩; dsimp only))
      | ((with_reducible refine gate_dst (N := 15) rfl ?_); refine Kd.event_run rfl (v := .agg oz) (w1 := w3) ?hr ?_; (case hr => exact exec_build0 rfl))
      | ((with_reducible refine gate_store (ty := 57) (x := .tmp 2) (y := .tmp 15) rfl ?_); go_loud (have hz := (H3.out.bl.block _ (blk_lt H1.out.1)).trans H1.out.1; refine wpList_store_row rfl 57 (.tmp 2) (.tmp 15) rfl w.heap.size oz rfl rfl 57 oz hz (ov_all oz_v).1 rfl (ov_all oz_v).2.2 ?_; refine wpName (fun w5 hw5 => ?_); have H5 := Aside0.mk (show w5.heap[w.heap.size]? = some (.cells oz 57 (0, 0)) ∧ Below w.heap.size w w5 from ⟨by rw [hw5]; exact setRow_heap _ _ _ _ _ _ hz, by rw [hw5]; exact below_setRow (H1.out.2.trans (H3.out.bl.mono H1.out.2.size)) (Nat.le_refl _) _⟩); clear hw5 hz)))
    refine bodyPost_ret (results_ct rfl _ _ w.heap.size 57 oz (0, 0) _ rfl H5.out.1 Tryd.underlying57 rfl (by kernel_rfl)) rfl ?_
    exact ⟨oz, none, none, none, 0, 0, 0, by rw [HG.out]; rfl, by rw [HG.out]; exact oz_v, by rw [HG.out]; exact inO_zero _, H5.out.2⟩
  · have d1 : (R.e != 0) = false := by rw [he]; rfl
    have HG := Aside0.mk (show getO b = finM (swM k kb R) by rw [HB.out.2.2.2.2.2.2.2.1, if_neg (by simpa using he)])
    have hwk : IntKind.u8.wrap k = kb := hkb.symm
    clear he hkb
    go_enter Tryd.func35, Tryd.ntmps35
    go_upto_region 7 with (first
      | ((with_reducible refine gate_dst (N := 2) rfl ?_); refine Kd.event_run rfl (v := .pointer (some ⟨w.heap.size, 0, none⟩)) (w1 := w.alloc (.cells oz 57)) ?hr ?_; (case hr => first | kernel_rfl | (go_simp; done) | (go_simp; rfl)); go_loud (refine wpName (fun w1 hw1 => ?_); have H1 := Aside0.mk (show w1.heap[w.heap.size]? = some (.cells oz 57 (0, 0)) ∧ Below w.heap.size w w1 from ⟨by rw [hw1]; exact blk_new w _, by rw [hw1]; exact below_alloc (Below.refl _ _) _⟩); clear hw1))
      | (go_at_call 49; go_loud (have hx := newReader_calls A0 c0 (Kd.C_below HB.out.2.1 H1.out.2) HB.out.2.2.1 HB.out.2.2.2.1 HB.out.2.2.2.2.1; rw [← HB.out.1] at hx; refine hx.mono ?_; clear hx; rintro e w2 ⟨g, rfl, h1, h2⟩; obtain ⟨lim, hlim⟩ : ∃ z, z = w2.heap.size := ⟨_, rfl⟩; have H2 := Aside0.mk (show RS w1 w2 lim g ⟨b, 0⟩ from ⟨h2, by rw [hlim]; exact h2.size, by rw [hlim]; exact Nat.le_refl _, _, h1, fun k hk => by rw [hlim]; exact hk, by obtain ⟨_, _, q, _⟩ := h1; exact q⟩); clear h1 h2 hlim))
      | (go_at_call 50; go_loud (have hx := H2.out.uint; rw [← HB.out.2.2.2.2.2.1, ← HB.out.2.2.2.2.2.2.1] at hx; refine hx.mono ?_; clear hx; rintro e w3 ⟨rfl, h3, _⟩; have H3 := Aside0.mk h3; clear h3))
      | (go_at_call 51; go_loud (refine H3.out.err.mono ?_; rintro e w4 ⟨rfl, rfl⟩; dsimp only))
      | ((with_reducible refine gate_dst (N := 20) rfl ?_); refine Kd.event_run rfl (v := .agg (ocells kb 0 (.slice none 0 0) (.slice none 0 0) (.slice none 0 0) ByteArray.empty).toArray) (w1 := w3) ?hr ?_; (case hr => exact exec_buildk (.tmp 19) rfl rfl))
      | ((with_reducible refine gate_dst (N := 6) rfl ?_); refine Kd.event_run rfl (v := .pointer (some ⟨w3.heap.size, 0, none⟩)) (w1 := w3.alloc (.cells oz 57)) ?hr ?_; (case hr => first | kernel_rfl | (go_simp; done) | (go_simp; rfl)); go_loud (refine wpName (fun w6 hw6 => ?_); obtain ⟨gn, hgn⟩ : ∃ z, z = w3.heap.size := ⟨_, rfl⟩; have H6 := Aside0.mk (show w6.heap[gn]? = some (.cells oz 57 (0, 0)) ∧ Below w3.heap.size w3 w6 ∧ gn = w3.heap.size from ⟨by rw [hw6, hgn]; exact blk_new w3 _, by rw [hw6]; exact below_alloc (Below.refl _ _) _, hgn⟩); rw [← hgn]; clear hw6 hgn))
      | ((with_reducible refine gate_store (ty := 57) (x := .tmp 6) (y := .tmp 20) rfl ?_); go_loud (refine wpList_store_row rfl 57 (.tmp 6) (.tmp 20) rfl gn _ rfl rfl 57 oz H6.out.1 oz_info rfl (ocells_all kb 0 none none none 0 0 0 0 0 0 ByteArray.empty) ?_; refine wpName (fun w7 hw7 => ?_); have hb7 : Below w3.heap.size w3 w7 := (by rw [hw7]; exact below_setRow H6.out.2.1 (by rw [H6.out.2.2]; exact Nat.le_refl _) _); have H7 := Aside0.mk (show GO w1 w7 lim g gn R ⟨kb, [], 0, [], [], ByteArray.empty⟩ none none none 0 0 0 from ⟨H3.out.below hb7, by rw [H6.out.2.2]; exact H3.out.le, by rw [hw7]; exact setRow_heap _ _ _ _ _ _ H6.out.1, far_nil _ _ _, far_nil _ _ _, far_nil _ _ _⟩); clear hw7 hb7)))
    clear H2 H3 H6
    try dsimp only [Act.put]
    go_cut [21] (fun v21 wc => v21 = .int .u64 k ∧ Aside0 (GO w1 wc lim g gn R ⟨kb, [], 0, [], [], ByteArray.empty⟩ none none none 0 0 0))
    case first =>
      go_wp2
      go_meet
      case rel => exact ⟨rfl, H7⟩
    obtain ⟨rfl, HS⟩ := hcut
    clear H7
    apply_assumption
    go_cut [7] (fun v7 wc => SwR w1 lim g gn k kb R v7 wc)
    case first =>
      have hgn := blk_lt HS.out.ob
      by_cases k1 : k = 1
      · subst k1
        go_wp2_with (go_at_call 52; go_loud (refine (HS.out.rs.bytes 32768 (by omega)).mono ?_; rintro e w8 ⟨v8, rfl, hr8, h8, hk8⟩; obtain ⟨A8, c8, e8, _, hC8⟩ := Kd.R_reads hr8; subst e8; have h8r := HS.out.read h8 hk8; have s1 := h8r.ob.cells.2.1; have f1 : w8.frozen? ⟨gn, 1, none⟩ = false := blk_frozen h8r.ob 1; have H8 := Aside0.mk (And.intro h8r (far_of (gn := gn) hr8 hC8 (fun k _ hk => by omega))); clear h8r hr8 h8 hk8 hC8))
        go_meet
        case rel => exact ⟨by rw [swM_1], ⟨_, _, _, _, _, _, by rw [swM_1]; exact H8.out.1.setB rfl H8.out.2⟩⟩
      by_cases k2 : k = 2
      · subst k2
        go_wp2_with (first
          | (go_at_call 50; go_loud (refine HS.out.rs.uint.mono ?_; rintro e w8 ⟨rfl, h8, hk8⟩; have h8r := HS.out.read h8 hk8; have s2 := h8r.ob.cells.2.2.1; have f2 : w8.frozen? ⟨gn, 2, none⟩ = false := blk_frozen h8r.ob 2; have H8 := Aside0.mk (h8r.setN R.uint.2); clear h8r h8 hk8))
          | (go_at_call 67; go_loud (have hz : gn < (w8.setCell ⟨gn, 2, none⟩ (.int .u64 R.uint.2)).heap.size := blk_lt H8.out.ob; refine (oids_calls H8.out.rs).mono ?_; rintro e w9 ⟨v9, rfl, hr9, h9, hk9⟩; obtain ⟨A9, c9, e9, _, hC9⟩ := Kd.R_reads hr9; subst e9; have h9r := H8.out.read h9 hk9; have s3 := h9r.ob.cells.2.2.2.1; have f3 : w9.frozen? ⟨gn, 3, none⟩ = false := blk_frozen h9r.ob 3; have H9 := Aside0.mk (And.intro h9r (far_of (gn := gn) hr9 hC9 (fun k hk _ => by omega))); clear h9r hr9 h9 hk9 hC9 hz)))
        go_meet
        case rel => exact ⟨by rw [swM_2], ⟨_, _, _, _, _, _, by rw [swM_2]; exact H9.out.1.setY rfl H9.out.2⟩⟩
      by_cases k3 : k = 3
      · subst k3
        go_wp2_with (go_at_call 68; go_loud (refine (oents_calls HS.out.rs).mono ?_; rintro e w9 ⟨v9, rfl, hr9, h9, hk9⟩; obtain ⟨A9, c9, e9, _, hC9⟩ := Kd.R_reads hr9; subst e9; have h9r := HS.out.read h9 hk9; have s4 := h9r.ob.cells.2.2.2.2.1; have f4 : w9.frozen? ⟨gn, 4, none⟩ = false := blk_frozen h9r.ob 4; have H9 := Aside0.mk (And.intro h9r (far_of (gn := gn) hr9 hC9 (fun k hk _ => by omega))); clear h9r hr9 h9 hk9 hC9))
        go_meet
        case rel => exact ⟨by rw [swM_3], ⟨_, _, _, _, _, _, by rw [swM_3]; exact H9.out.1.setE rfl H9.out.2⟩⟩
      by_cases k4 : k = 4
      · subst k4
        have hby4 : Byt R.uint.1.id.1.b := (id_byt (RM.uint_byt HS.out.rs.byt)).1
        have HBY := Aside0.mk hby4
        clear hby4
        go_wp2_with (first
          | (go_at_call 50; go_loud (refine HS.out.rs.uint.mono ?_; rintro e w8 ⟨rfl, h8, hk8⟩; have h8r := HS.out.read h8 hk8; have s2 := h8r.ob.cells.2.2.1; have f2 : w8.frozen? ⟨gn, 2, none⟩ = false := blk_frozen h8r.ob 2; have H8 := Aside0.mk (h8r.setN R.uint.2); clear h8r h8 hk8))
          | (go_at_call 69; go_loud (refine H8.out.rs.id.mono ?_; rintro e w9 ⟨rfl, h9, hk9⟩; have H9 := Aside0.mk (H8.out.read h9 hk9); clear h9 hk9))
          | ((with_reducible refine gate_dst (N := 53) rfl ?_); refine Kd.event_run rfl (v := .slice (some ⟨w9.heap.size, 0, none⟩) 1 1) (w1 := w9.alloc (.cells (nums .u8 R.uint.1.id.2).toArray 74)) ?hr ?_; (case hr => exact exec_buildS (.tmp 52) (id_32 _) rfl rfl); go_loud (have hz := blk_lt H9.out.ob; have h10r := H9.out.below (below_alloc (Below.refl _ _) (.cells (nums .u8 R.uint.1.id.2).toArray 74)); have s3 := h10r.ob.cells.2.2.2.1; have f3 : (w9.alloc (.cells (nums .u8 R.uint.1.id.2).toArray 74)).frozen? ⟨gn, 3, none⟩ = false := blk_frozen h10r.ob 3; have H10 := Aside0.mk (h10r.setY (n' := 1) (c' := 1) (y' := [R.uint.1.id.2]) rfl ⟨one_id (blk_new w9 _) (id_32 _), fun ad e => by cases e; exact hz⟩); clear hz h10r))
          | (go_at_call 52; go_loud (refine (H10.out.rs.bytes 255 (by omega)).mono ?_; rintro e w11 ⟨v11, rfl, hr11, h11, hk11⟩; have h11r := H10.out.read h11 hk11; have s5 := h11r.ob.cells.2.2.2.2.2; have f5 : w11.frozen? ⟨gn, 5, none⟩ = false := blk_frozen h11r.ob 5; have H11 := Aside0.mk h11r; have hcv := row_conv (RM.bytes_byt HBY.out 255).2 hr11; clear hr11 h11 hk11 h11r)))
        go_meet
        case rel => exact ⟨by rw [swM_4], ⟨_, _, _, _, _, _, by rw [swM_4]; exact H11.out.setS _⟩⟩
      · have e1 : (k == 1) = false := beq_eq_false_iff_ne.2 k1
        have e2 : (k == 2) = false := beq_eq_false_iff_ne.2 k2
        have e3 : (k == 3) = false := beq_eq_false_iff_ne.2 k3
        have e4 : (k == 4) = false := beq_eq_false_iff_ne.2 k4
        go_wp2
        go_meet
        case rel => exact ⟨by rw [swM_0 kb R k1 k2 k3 k4], ⟨_, _, _, _, _, _, by rw [swM_0 kb R k1 k2 k3 k4]; exact HS.out⟩⟩
    case rest =>
      obtain ⟨rfl, hsw⟩ := hcut
      clear HS
      obtain ⟨hso, hsk⟩ := swM_ok k kb (R := R) HB.out.2.2.2.2.2.2.2.2.2.1
      have hkb8 : 0 ≤ kb ∧ kb ≤ 255 := by rw [HB.out.2.2.2.2.2.2.2.2.1]; exact u8_bd k
      obtain ⟨Z, hZ⟩ : ∃ z, z = swM k kb R := ⟨_, rfl⟩
      rw [← hZ] at hso hsk hsw ⊢
      obtain ⟨R2, x, okk⟩ := Z
      obtain ⟨A, Y, E, bc, yc, ec, HX⟩ := hsw.out
      dsimp only at hsk HX ⊢
      have HIn : Aside0 (InO wc x A Y E) := ⟨⟨HX.rA.1, HX.rY.1, HX.rE.1, hso.bb, hso.bi, hso.be, by rw [hsk]; exact hkb8, hso.n, HX.rA.1.2.1, HX.rY.1.2.1, HX.rE.1.2.1⟩⟩
      have HX := Aside0.mk HX
      have hg2 : getO b = finM (R2, x, okk) := by rw [HG.out, hZ]
      obtain ⟨cs, hcs⟩ : ∃ cs, OV cs x A Y E bc yc ec := ⟨_, rfl⟩
      have HCS := Aside0.mk hcs
      clear hsw hso hsk hZ hkb8 hcs
      cases okk
      · have HG2 := Aside0.mk (show getO b = (zeroO, 11) by rw [hg2]; rfl)
        clear hg2
        go_wp2_with (first
          | ((with_reducible refine gate_dst (N := 62) rfl ?_); refine Kd.event_run rfl (v := .agg oz) (w1 := wc) ?hr ?_; (case hr => exact exec_build0 rfl))
          | ((with_reducible refine gate_store (ty := 57) (x := .tmp 2) (y := .tmp 62) rfl ?_); go_loud (have hz := (HX.out.rs.bl.block _ (blk_lt H1.out.1)).trans H1.out.1; refine wpList_store_row rfl 57 (.tmp 2) (.tmp 62) rfl w.heap.size oz rfl rfl 57 oz hz (ov_all oz_v).1 rfl (ov_all oz_v).2.2 ?_; refine wpName (fun w5 hw5 => ?_); have H5 := Aside0.mk (show w5.heap[w.heap.size]? = some (.cells oz 57 (0, 0)) ∧ Below w.heap.size w w5 from ⟨by rw [hw5]; exact setRow_heap _ _ _ _ _ _ hz, by rw [hw5]; exact below_setRow (H1.out.2.trans (HX.out.rs.bl.mono H1.out.2.size)) (Nat.le_refl _) _⟩); clear hw5 hz)))
        refine bodyPost_ret (results_ct rfl _ _ w.heap.size 57 oz (0, 0) _ rfl H5.out.1 Tryd.underlying57 rfl (by kernel_rfl)) rfl ?_
        exact ⟨oz, none, none, none, 0, 0, 0, by rw [HG2.out]; rfl, by rw [HG2.out]; exact oz_v, by rw [HG2.out]; exact inO_zero _, H5.out.2⟩
      by_cases hend : R2.end_ = 0
      rotate_left
      · have HG2 := Aside0.mk (show getO b = (zeroO, R2.end_) by rw [hg2]; unfold finM; rw [if_neg (show ¬ true = false by decide), if_pos hend])
        have d2 : (R2.end_ != 0) = true := bne_iff_ne.2 hend
        clear hg2 hend
        go_wp2_with (first
          | (go_at_call 53; go_loud (refine HX.out.rs.end_.mono ?_; rintro e w9 ⟨rfl, rfl⟩; dsimp only))
          | ((with_reducible refine gate_dst (N := 67) rfl ?_); refine Kd.event_run rfl (v := .agg oz) (w1 := wc) ?hr ?_; (case hr => exact exec_build0 rfl))
          | ((with_reducible refine gate_store (ty := 57) (x := .tmp 2) (y := .tmp 67) rfl ?_); go_loud (have hz := (HX.out.rs.bl.block _ (blk_lt H1.out.1)).trans H1.out.1; refine wpList_store_row rfl 57 (.tmp 2) (.tmp 67) rfl w.heap.size oz rfl rfl 57 oz hz (ov_all oz_v).1 rfl (ov_all oz_v).2.2 ?_; refine wpName (fun w5 hw5 => ?_); have H5 := Aside0.mk (show w5.heap[w.heap.size]? = some (.cells oz 57 (0, 0)) ∧ Below w.heap.size w w5 from ⟨by rw [hw5]; exact setRow_heap _ _ _ _ _ _ hz, by rw [hw5]; exact below_setRow (H1.out.2.trans (HX.out.rs.bl.mono H1.out.2.size)) (Nat.le_refl _) _⟩); clear hw5 hz)))
        refine bodyPost_ret (results_ct rfl _ _ w.heap.size 57 oz (0, 0) _ rfl H5.out.1 Tryd.underlying57 rfl (by kernel_rfl)) rfl ?_
        exact ⟨oz, none, none, none, 0, 0, 0, by rw [HG2.out]; rfl, by rw [HG2.out]; exact oz_v, by rw [HG2.out]; exact inO_zero _, H5.out.2⟩
      have d2 : (R2.end_ != 0) = false := by rw [hend]; rfl
      rcases err_or x with her | her
      rotate_left
      · have HER := Aside0.mk her
        have HG2 := Aside0.mk (show getO b = (zeroO, 11) by rw [hg2]; unfold finM; rw [if_neg (show ¬ true = false by decide), if_neg (by simpa using hend), if_pos (by show errC x ≠ 0; rw [her]; decide)])
        clear hg2 hend her
        go_wp2_with (first
          | (go_at_call 53; go_loud (refine HX.out.rs.end_.mono ?_; rintro e w8 ⟨rfl, rfl⟩; dsimp only))
          | ((with_reducible refine gate_dst (N := 71) rfl ?_); refine Kd.event_run rfl (v := .agg cs) (w1 := wc) ?hr ?_; (case hr => exact HX.out.ob.load HCS.out (.tmp 6) rfl rfl))
          | (go_at_call 33; go_loud (have hx := ocheck_calls (w := wc) HCS.out HIn.out.eC HIn.out.el HIn.out.k; rw [HER.out] at hx; refine hx.mono ?_; clear hx; rintro e w9 ⟨rfl, hb9⟩; have H9 := Aside0.mk (HX.out.below hb9); clear hb9))
          | ((with_reducible refine gate_dst (N := 74) rfl ?_); refine Kd.event_run rfl (v := .agg oz) (w1 := w9) ?hr ?_; (case hr => exact exec_build0 rfl))
          | ((with_reducible refine gate_store (ty := 57) (x := .tmp 2) (y := .tmp 74) rfl ?_); go_loud (have hz := (H9.out.rs.bl.block _ (blk_lt H1.out.1)).trans H1.out.1; refine wpList_store_row rfl 57 (.tmp 2) (.tmp 74) rfl w.heap.size oz rfl rfl 57 oz hz (ov_all oz_v).1 rfl (ov_all oz_v).2.2 ?_; refine wpName (fun w5 hw5 => ?_); have H5 := Aside0.mk (show w5.heap[w.heap.size]? = some (.cells oz 57 (0, 0)) ∧ Below w.heap.size w w5 from ⟨by rw [hw5]; exact setRow_heap _ _ _ _ _ _ hz, by rw [hw5]; exact below_setRow (H1.out.2.trans (H9.out.rs.bl.mono H1.out.2.size)) (Nat.le_refl _) _⟩); clear hw5 hz)))
        refine bodyPost_ret (results_ct rfl _ _ w.heap.size 57 oz (0, 0) _ rfl H5.out.1 Tryd.underlying57 rfl (by kernel_rfl)) rfl ?_
        exact ⟨oz, none, none, none, 0, 0, 0, by rw [HG2.out]; rfl, by rw [HG2.out]; exact oz_v, by rw [HG2.out]; exact inO_zero _, H5.out.2⟩
      · have HER := Aside0.mk her
        have HG2 := Aside0.mk (show getO b = (x, 0) by rw [hg2]; unfold finM; rw [if_neg (show ¬ true = false by decide), if_neg (by simpa using hend), if_neg (by show ¬ errC x ≠ 0; rw [her]; decide)])
        clear hg2 hend her
        go_wp2_with (first
          | (go_at_call 53; go_loud (refine HX.out.rs.end_.mono ?_; rintro e w8 ⟨rfl, rfl⟩; dsimp only))
          | ((with_reducible refine gate_dst (N := 71) rfl ?_); refine Kd.event_run rfl (v := .agg cs) (w1 := wc) ?hr ?_; (case hr => exact HX.out.ob.load HCS.out (.tmp 6) rfl rfl))
          | (go_at_call 33; go_loud (have hx := ocheck_calls (w := wc) HCS.out HIn.out.eC HIn.out.el HIn.out.k; rw [HER.out] at hx; refine hx.mono ?_; clear hx; rintro e w9 ⟨rfl, hb9⟩; have H9 := Aside0.mk (HX.out.below hb9); clear hb9))
          | ((with_reducible refine gate_dst (N := 75) rfl ?_); refine Kd.event_run rfl (v := .agg cs) (w1 := w9) ?hr ?_; (case hr => exact H9.out.ob.load HCS.out (.tmp 6) rfl rfl))
          | ((with_reducible refine gate_store (ty := 57) (x := .tmp 2) (y := .tmp 75) rfl ?_); go_loud (have hz := (H9.out.rs.bl.block _ (blk_lt H1.out.1)).trans H1.out.1; refine wpList_store_row rfl 57 (.tmp 2) (.tmp 75) rfl w.heap.size cs rfl rfl 57 oz hz (ov_all HCS.out).1 (ov_all HCS.out).2.1 (ov_all HCS.out).2.2 ?_; refine wpName (fun w5 hw5 => ?_); have hk5 : Kept w9 w5 (fun k => k = w.heap.size) := (by rw [hw5]; exact ⟨by simp, fun i _ hn => setRow_other _ _ _ _ hn⟩); have hfar : w.heap.size < gn := Nat.lt_of_lt_of_le (blk_lt H1.out.1) (Nat.le_trans H9.out.rs.b0 H9.out.gl); have rA := far_kept (fun _ _ _ _ h => h) H9.out.rA hk5 (fun k e => by have : k = w.heap.size := e; omega); have rY := far_kept (fun _ _ _ _ h => h) H9.out.rY hk5 (fun k e => by have : k = w.heap.size := e; omega); have rE := far_kept (fun _ _ _ _ h => h) H9.out.rE hk5 (fun k e => by have : k = w.heap.size := e; omega); have H5 := Aside0.mk (show w5.heap[w.heap.size]? = some (.cells cs 57 (0, 0)) ∧ Below w.heap.size w w5 ∧ InO w5 x A Y E from ⟨by rw [hw5]; exact setRow_heap _ _ _ _ _ _ hz, by rw [hw5]; exact below_setRow (H1.out.2.trans (H9.out.rs.bl.mono H1.out.2.size)) (Nat.le_refl _) _, rA.1, rY.1, rE.1, HIn.out.bb, HIn.out.bi, HIn.out.be, HIn.out.k, HIn.out.n, HIn.out.bl, HIn.out.yl, HIn.out.el⟩); clear hw5 hz hk5 hfar rA rY rE)))
        refine bodyPost_ret (results_ct rfl _ _ w.heap.size 57 cs (0, 0) _ rfl H5.out.1 Tryd.underlying57 rfl (ov_all HCS.out).1) rfl ?_
        exact ⟨cs, A, Y, E, bc, yc, ec, by rw [HG2.out]; rfl, by rw [HG2.out]; exact HCS.out, by rw [HG2.out]; exact H5.out.2.2, H5.out.2.1⟩
end
end Go.Proofs.YtgjdcdhfijkoiaaDoor.Obj
end
