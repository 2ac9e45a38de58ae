/- The codec's reference: what is printed of it answers as the reader's and the writer's model. -/
import Derived.Test.YtgjdcdhfijkoiaaDoorCoA
import Derived.Test.YtgjdcdhfijkoiaaDoorPxC
import Derived.Test.YtgjdcdhfijkoiaaDoorWWa
import Derived.Lib.SlBytesConst
import Derived.ChangeKeysEq
section
namespace Go.Proofs.YtgjdcdhfijkoiaaDoor.Cod
open Go.RowKit Go.Proofs.YtgjdcdhfijkoiaaDoorW.PrintWords Go.Proofs.YtgjdcdhfijkoiaaDoorW.PrintLast Go.Proofs.YtgjdcdhfijkoiaaDoorW.PrintMore Go.Proofs.YtgjdcdhfijkoiaaDoor.Mem Go.Proofs.YtgjdcdhfijkoiaaDoor.PCod
set_option linter.unusedVariables false
set_option linter.unusedSimpArgs false
section
variable {w : World} {R : RM} {b r : List Int}
abbrev S (b : List Int) : ByteArray := strOfNums b
theorem S_size (b : List Int) : (S b).size = b.length := by
  show (S b).data.size = _
  rw [← Array.length_toList, strOfNums_data, List.length_map]
theorem S_app (a b : List Int) : S a ++ S b = S (a ++ b) := by
  apply ByteArray.ext
  apply Array.ext'
  have h1 : (S a ++ S b).data.toList = (S a).data.toList ++ (S b).data.toList := by simp
  rw [h1, strOfNums_data, strOfNums_data, strOfNums_data, List.map_append]
theorem w64_small {n : Int} (h0 : -9223372036854775808 ≤ n) (h1 : n ≤ 9223372036854775807) : wrap64 n = n := IntWalk.wrap64_in n ⟨h0, h1⟩
theorem u64_small {n : Int} (h0 : 0 ≤ n) (h1 : n ≤ 18446744073709551615) : IntKind.u64.wrap n = n := wraps_u64 n h0 (by omega)

/-! ### Uint -/
abbrev stV (R : RM) : Value := .agg #[.string (S R.b), .int .i64 R.e]
theorem RM.fixed_ok (he : R.e = 0) {n : Int} (h0 : ¬ n < 0) (h : ¬ (R.b.length : Int) < n) : R.fixed n = (⟨R.b.drop n.toNat, 0⟩, R.b.take n.toNat) := by unfold RM.fixed; rw [if_neg (by simpa using he), if_neg h0, if_neg h]
theorem rdNum_sub : ∀ (b : List Int) (i : Nat) (x m : Int), ∀ y ∈ (rdNum i x m b).1, y ∈ b := by
  intro b
  induction b with
  | nil => intro i x m y hy; exact hy
  | cons c r ih =>
    intro i x m y hy
    unfold rdNum at hy
    split at hy
    · exact List.mem_cons_of_mem _ hy
    · split at hy
      · exact List.mem_cons_of_mem _ hy
      · exact List.mem_cons_of_mem _ (ih _ _ _ y hy)
theorem RM.uint_byt (hb : Byt R.b) : Byt R.uint.1.b := by
  unfold RM.uint
  split
  · exact hb
  · exact fun x hx => hb x (rdNum_sub _ _ _ _ x hx)
theorem RM.fixed_byt (hb : Byt R.b) (n : Int) : Byt (R.fixed n).1.b ∧ Byt (R.fixed n).2 := by
  have h0 : Byt [] := fun x hx => by cases hx
  unfold RM.fixed
  split
  · exact ⟨hb, h0⟩
  · split
    · exact ⟨hb, h0⟩
    · split
      · exact ⟨hb, h0⟩
      · exact ⟨fun x hx => hb x (List.mem_of_mem_drop hx), fun x hx => hb x (List.mem_of_mem_take hx)⟩
theorem RM.bytes_byt (hb : Byt R.b) (n : Int) : Byt (R.bytes n).1.b ∧ Byt (R.bytes n).2 := by
  have h0 : Byt [] := fun x hx => by cases hx
  have hu := RM.uint_byt hb
  unfold RM.bytes
  split
  · exact ⟨hu, h0⟩
  · split
    · exact ⟨hu, h0⟩
    · exact RM.fixed_byt hu _
theorem RM.bytes_ok (h : R.uint.1.e = 0) {n : Int} (h1 : ¬ (n < 0 ∨ n < R.uint.2)) : R.bytes n = R.uint.1.fixed R.uint.2 := by unfold RM.bytes; rw [if_neg (by simpa using h), if_neg h1]
/-- The reference's yes or no: none where there is an error. -/
def RM.rbool (R : RM) : Bool := if R.bool.1.e = 0 then R.bool.2 else false
/-! ### Put, With -/
theorem put_f : ∀ (k : Nat) (x : Int), k ≤ 9 → 0 ≤ x → x < 128 ^ (k + 1) → x < 18446744073709551616 → baileeref01_Put.f (k + 1) x = some (S (putN k x)) := by
  intro k
  induction k with
  | zero =>
    intro x _ h0 h1 _
    have h1' : x < 128 := h1
    unfold baileeref01_Put.f
    rw [if_pos h1', show x % 256 = x by omega]
    rfl
  | succ k ih =>
    intro x hk h0 h1 h2
    unfold baileeref01_Put.f
    by_cases h : x < 128
    · rw [if_pos h, putN_small _ h, show x % 256 = x by omega]
    · rw [pow_128] at h1
      have hl := (putN_len k (x / 128)).1
      rw [if_neg h, Option.bind_some, Int.tdiv_eq_ediv_of_nonneg h0, Int.tmod_eq_emod_of_nonneg h0, u64_small (n := x % 128 + 128) (by omega) (by omega), u64_small (n := x / 128) (by omega) (by omega), ih (x / 128) (by omega) (by omega) (by omega) (by omega), Option.bind_some, putN_great _ h]
      have e1 : (x % 128 + 128) % 256 = x % 128 + 128 := by omega
      rw [e1, if_pos (by
        have h1 : (strOfNums [x % 128 + 128]).size = 1 := S_size _
        have h2 : (strOfNums (putN k (x / 128))).size = (putN k (x / 128)).length := S_size _
        rw [h1, h2]; omega)]
      exact congrArg some (S_app [x % 128 + 128] (putN k (x / 128)))
theorem ref_put (x : Int) (h0 : 0 ≤ x) (h1 : x < 18446744073709551616) : Calls Tryd.prog 43 #[.int .u64 x] w fun e w' => e = .returned (.string (S (putNum x))) ∧ Below w.heap.size w w' := by
  refine baileeref01_Put.calls 10 x _ w (put_f 9 x (by omega) h0 ?_ h1)
  have : (128 : Int) ^ (9 + 1) = 1180591620717411303424 := by decide
  omega
theorem ref_with (s : List Int) (hs : s.length < 140737488355328) : Calls Tryd.prog 44 #[.string (S s)] w fun e w' => e = .returned (.string (S (putNum s.length ++ s))) ∧ Below w.heap.size w w' := by
  have hz := S_size s
  obtain ⟨X, hX⟩ : ∃ X, X = S s := ⟨_, rfl⟩
  rw [← hX] at hz ⊢
  have HX := Aside0.mk hX
  have HZ := Aside0.mk hz
  have hlt : X.size < 140737488355328 := by omega
  clear hX hz
  have hl := (putNum_len (X.size : Int)).1
  have hw : IntKind.u64.wrap (X.size : Int) = X.size := u64_small (by omega) (by omega)
  obtain ⟨Y, hY⟩ : ∃ Y, Y = S (putNum (X.size : Int)) := ⟨_, rfl⟩
  have hys : Y.size ≤ 10 := by rw [hY, S_size]; exact hl
  have HY := Aside0.mk hY
  have h1 := Aside0.mk (ref_put (w := w) (X.size : Int) (by omega) (by omega))
  have hzz : (9223372036854775807 < Y.size + X.size) = False := eq_false (by omega)
  clear hY hl
  go_enter Tryd.func44, Tryd.ntmps44
  go_wp2_with (go_at_call 43; go_loud (refine h1.out.mono ?_; rw [← HY.out]; rintro e w1 ⟨rfl, hb⟩; have HB := Aside0.mk hb; clear hb))
  go_ret
  refine ⟨?_, HB.out⟩
  rw [HY.out, ← HZ.out, HX.out, ← S_app, ← HX.out]
  rfl
end
end Go.Proofs.YtgjdcdhfijkoiaaDoor.Cod
end
section
namespace Go.Proofs.YtgjdcdhfijkoiaaDoor.Cod
open Go.RowKit Go.Proofs.YtgjdcdhfijkoiaaDoorW.PrintWords Go.Proofs.YtgjdcdhfijkoiaaDoorW.PrintLast Go.Proofs.YtgjdcdhfijkoiaaDoorW.PrintMore Go.Proofs.YtgjdcdhfijkoiaaDoor.Mem Go.Proofs.YtgjdcdhfijkoiaaDoor.PCod
set_option linter.unusedVariables false
set_option linter.unusedSimpArgs false
section
variable {w : World} {R : RM} {b r xs : List Int}
def idAt (xs : List Int) (i : Nat) : List Int := xs.take i ++ List.replicate (32 - i) 0
/-- What is there behind a call of Id's. -/
def IdW (w : World) (A B : Array Value) (w1 : World) : Prop := w1.heap[w.heap.size]? = some (.cells A 99 (0, 0)) ∧ w1.heap[w.heap.size + 1]? = some (.cells B 99 (0, 0)) ∧ w1.heap[w.heap.size + 2]? = some (.cells zidL.toArray 74 (0, 0)) ∧ Below w.heap.size w w1
theorem IdW.set {A B : Array Value} {w1 : World} (h : IdW w A B w1) {g k : Nat} (hp : w.heap.size + 2 < g) (u : Value) : IdW w A B (w1.setCell ⟨g, k, none⟩ u) :=
  ⟨blk_far h.1 (p := ⟨g, k, none⟩) (show w.heap.size ≠ g by omega) u, blk_far h.2.1 (p := ⟨g, k, none⟩) (show w.heap.size + 1 ≠ g by omega) u, blk_far h.2.2.1 (p := ⟨g, k, none⟩) (show w.heap.size + 2 ≠ g by omega) u, below_set h.2.2.2 (by omega)⟩
section
variable {P : Program} {o : Oper} {ev : Operand → Value}
theorem exec_load_row (W : World) (ty : TypeId) (x : Operand) (ho : o.op = .load ty x) (g : Nat) (hx : ev x = .pointer (some ⟨g, 0, none⟩)) (t : TypeId) (cs : Array Value) (fr : Nat × Nat) (d : TypeDesc) (hg : W.heap[g]? = some (.cells cs t fr))
    (hu : P.underlying ty = some d) (hd : (match d with | .struct _ | .array _ _ => true | _ => false) = true) (hi : (P.info? ty).map (·.size) = some cs.size) : (execOp ev o).run P W = .ok (.value (.agg cs)) W := by
  unfold execOp
  simp only [ho, hx, Instr.loadAt, Instr.sureAddr, Sem.run_bind, Sem.run_pure, Result.andThen_ok, run_loadVar_row W g t ty cs fr d hg hu hd hi]
end
end
end Go.Proofs.YtgjdcdhfijkoiaaDoor.Cod
end
section
namespace Go.Proofs.YtgjdcdhfijkoiaaDoor.Conv
open Go.RowKit Go.Proofs.YtgjdcdhfijkoiaaDoorW.PrintWords Go.Proofs.YtgjdcdhfijkoiaaDoorW.PrintLast Go.Proofs.YtgjdcdhfijkoiaaDoorW.PrintMore
set_option linter.unusedVariables false
set_option linter.unusedSimpArgs false

theorem mark_run {P : Program} {W : World} {t e : TypeId} {g n c : Nat} {cur : Array Value} (ht : P.underlying t = some (.slice e)) (he : P.underlying e = some (.int .u8)) (hb : W.heap[g]? = some (.cells cur e (0, 0))) :
    ∃ W', (convert t t (.slice (some ⟨g, 0, none⟩) n c)).run P W = .ok (.slice (some ⟨g, 0, none⟩) n c) W' ∧ W.grownBy W' (some g) ∧ W'.heap[g]? = some (.cells cur e (cur.size, cur.size + 1)) := by
  have hsh : W.shape? g = some (e, cur.size) := by
    unfold World.shape?
    rw [hb]
  refine ⟨W.freeze ⟨g, cur.size, none⟩ 1, ?_, ?_, ?_⟩
  · simp [convert, run_underlying ht, run_underlying he, markStringish, hsh]
  · unfold World.freeze
    rw [if_neg (by decide)]
    refine ⟨rfl, rfl, rfl, by simp, fun k hk hne => ?_⟩
    simp only [Array.getElem?_modify]
    rw [if_neg (fun h => hne (by rw [h]))]
  · unfold World.freeze
    rw [if_neg (by decide)]
    simp [Array.getElem?_modify, hb]

section
variable {P : Program} {ops : Array Oper} {rest : List Oper} {o : Oper} {a : Act} {Q : Exit → Act → World → Prop}
theorem conv_event {w0 W : World} {base : Nat} {t e : TypeId} {x : Operand} (hgd : o.guard = none) (ho : o.op = .convert t t x) (ht : P.underlying t = some (.slice e)) (he : P.underlying e = some (.int .u8))
    {ok : Nat → Prop} {A : Option Addr} {n c : Nat} {xs : List Int} (hx : a.eval x = .slice A n c) (HO : Kd.R (Kd.int .u8) e W base ok (.slice A n c) xs) (hpos : 0 < xs.length) (HB : Below base w0 W) (hbase : base ≤ W.heap.size)
    (h : ∀ W', n = xs.length → xs.length ≤ c → Kd.C (Kd.int .u8) W' A xs.length xs → W.grownBy W' (Value.slice A n c).ownBlock → Below base w0 W' → wpList P ops Q rest (a.put o.dst (.slice A n c)) W') :
    wpList P ops Q (o :: rest) a W := by
  have hR := Kd.R_reads' HO
  obtain ⟨h0, inner, hown, hr⟩ := HO
  have hn : n = xs.length := hR.1
  rcases hown.2 with ⟨hv, hz⟩ | ⟨g, cap, cur, hv, hb, hh, h1, h2, h3, h4⟩
  · omega
  · injection hv with hA _ hc
    subst hA
    obtain ⟨W', hrun, hg, hh'⟩ := mark_run (P := P) (n := n) (c := c) ht he hh
    refine Kd.event_run hgd (v := .slice (some ⟨g, 0, none⟩) n c) (w1 := W') ?_ (h W' hn (by omega) ?_ hg (HB.grown hg hbase (fun k hk => by injection hk with hk; omega)))
    · unfold execOp
      simp [ho, hx, hrun]
    · obtain ⟨q1, q2, q3⟩ := hR.2.2
      refine ⟨q1, q2, fun hp => ?_⟩
      obtain ⟨ad, e1, hc0⟩ := q3 hp
      refine ⟨ad, e1, fun j p hj => ?_⟩
      obtain ⟨cc, hl, hk, hcell⟩ := hc0 j p hj
      refine ⟨cc, hl, hk, fun i u hu => ?_⟩
      have hq := hcell i u hu
      injection e1 with e1
      subst e1
      rw [← hq]
      have e2 : ((⟨g, 0, none⟩ : Addr).add (j * (Kd.int IntKind.u8).sz + i)) = ⟨g, j * (Kd.int IntKind.u8).sz + i, none⟩ := add_plain _ _
      rw [e2]
      simp [World.cell?, hh, hh']
end
end Go.Proofs.YtgjdcdhfijkoiaaDoor.Conv
end
section
namespace Go.Proofs.YtgjdcdhfijkoiaaDoor.Cod
open Go.RowKit Go.Proofs.YtgjdcdhfijkoiaaDoorW.PrintWords Go.Proofs.YtgjdcdhfijkoiaaDoorW.PrintLast Go.Proofs.YtgjdcdhfijkoiaaDoorW.PrintMore Go.Proofs.YtgjdcdhfijkoiaaDoor.Mem Go.Proofs.YtgjdcdhfijkoiaaDoor.PCod Go.Proofs.YtgjdcdhfijkoiaaDoor.Conv
set_option linter.unusedVariables false
set_option linter.unusedSimpArgs false
section
variable {w : World} {R : RM} {b r xs : List Int}
/-- A row as a string, in any later world. -/
theorem conv_row {w wd : World} {A : Option Addr} {c : Nat} {n : Nat} {xs : List Int} (hn : n = xs.length) (h : Kd.C (Kd.int .u8) w A xs.length xs) (hb : Below w.heap.size w wd) :
    (convert 27 9 (.slice A n c)).run Tryd.prog wd = .ok (.string (S xs)) wd := by
  subst hn
  exact Kd.C_string (P := Tryd.prog) (w := wd) (src := 27) (dst := 9) (e := 5) Tryd.underlying27 Tryd.underlying5 Tryd.underlying9 (Kd.C_below h hb)
/-- A row that came in, as it is read. -/
def InRow (w : World) (a : Option Addr) (len cap : Nat) (zs : List Int) : Prop :=
  (a = none ∧ len = 0 ∧ cap = 0 ∧ zs = []) ∨
  ∃ x, a = some x ∧ len ≤ cap ∧ cap ≤ maxLen ∧ zs.length = cap ∧ (∀ i, i < zs.length → w.cell? (x.add i) = some (.int .u8 (zs.getD i 0))) ∧ ∀ n ∈ zs, (Lit.int .u8 n).wf = true
/-! ### digests, compared -/
theorem plain_u8 : Tryd.prog.plainKey 5 = true := by kernel_rfl
theorem cells_u8 : Tryd.prog.cellsOf 5 = 1 := by kernel_rfl
theorem items_eq (W : World) (a b : List Int) : ∀ is : List Nat, (∀ j ∈ is, j < a.length ∧ j < b.length) →
    (Op.eqItems 9999 5 (Tryd.prog.cellsOf 5) (nums .u8 a).toArray (nums .u8 b).toArray is).run Tryd.prog W = .ok (is.all fun j => a.getD j 0 == b.getD j 0) W := by
  intro is
  induction is with
  | nil => intro _; simp [Op.eqItems]
  | cons j is ih =>
    intro h
    have hj := h j List.mem_cons_self
    have e : ∀ l : List Int, j < l.length → (nums .u8 l).toArray[j * Tryd.prog.cellsOf 5]? = some (.int .u8 (l.getD j 0)) := fun l hl => by
      rw [cells_u8, Nat.mul_one, List.getElem?_toArray]
      unfold nums
      rw [List.getElem?_map, List.getElem?_eq_getElem hl, List.getD_eq_getElem?_getD, List.getElem?_eq_getElem hl]
      rfl
    simp only [Op.eqItems, Sem.run_bind, run_part_plain W plain_u8 (e a hj.1), run_part_plain W plain_u8 (e b hj.2), Result.andThen_ok, run_equalIn_int W 9998 5 .u8 .u8 (a.getD j 0) (b.getD j 0) Tryd.underlying5, List.all_cons]
    cases hq : (a.getD j 0 == b.getD j 0)
    · simp
    · simp only [Bool.not_true, Bool.false_eq_true, if_false, Bool.true_and]
      exact ih (fun k hk => h k (List.mem_cons_of_mem _ hk))
set_option maxRecDepth 100000 in
theorem eq_id (a b : List Int) (ha : a.length = 32) (hb : b.length = 32) (W : World) : (Op.equalIn 10000 74 (.agg (nums .u8 a).toArray) (.agg (nums .u8 b).toArray)).run Tryd.prog W = .ok (a == b) W := by
  obtain ⟨i, hi, _⟩ := Option.map_eq_some_iff.1 info_u8s
  rw [run_equalIn_array W 9999 _ _ Tryd.underlying74 hi, items_eq W a b (List.range 32) (fun j hj => by have := List.mem_range.1 hj; omega)]
  congr 1
  rw [Bool.eq_iff_iff, List.all_eq_true, beq_iff_eq]
  constructor
  · intro h
    apply List.ext_getElem (by omega)
    intro j h1 h2
    have h3 := h j (List.mem_range.2 (by omega))
    rw [beq_iff_eq, List.getD_eq_getElem?_getD, List.getD_eq_getElem?_getD, List.getElem?_eq_getElem h1, List.getElem?_eq_getElem h2] at h3
    exact h3
  · intro h j _
    rw [h]; simp
end
end Go.Proofs.YtgjdcdhfijkoiaaDoor.Cod
end
section
namespace Go.Proofs.YtgjdcdhfijkoiaaDoor.Cod
open Go.RowKit Go.Proofs.YtgjdcdhfijkoiaaDoorW.PrintWords Go.Proofs.YtgjdcdhfijkoiaaDoorW.PrintLast Go.Proofs.YtgjdcdhfijkoiaaDoorW.PrintMore Go.Proofs.YtgjdcdhfijkoiaaDoor.Mem Go.Proofs.YtgjdcdhfijkoiaaDoor.PCod Go.Proofs.YtgjdcdhfijkoiaaDoor.Conv
set_option linter.unusedVariables false
set_option linter.unusedSimpArgs false
section
variable {w : World} {R : RM} {b r xs : List Int}
theorem rd_put : ∀ (k i : Nat) (x y : Int) (r : List Int), i + k = 9 → 0 ≤ y → 0 ≤ x → y < 128 ^ (k + 1) → y * 128 ^ i ≤ 18446744073709551615 → (0 < i → 0 < y) → rdNum i x (128 ^ i) (putN k y ++ r) = (r, 0, x + 128 ^ i * y) := by
  intro k
  induction k with
  | zero =>
    intro i x y r hik h0 hx h1 h9 hp
    obtain rfl : i = 9 := by omega
    have e9 : (128 : Int) ^ 9 = 9223372036854775808 := by decide
    have hy : y ≤ 1 := by rw [e9] at h9; omega
    show rdNum 9 x (128 ^ 9) (y :: r) = _
    unfold rdNum
    rw [if_neg (by omega), if_pos (by omega), show y % 128 = y by omega]
  | succ k ih =>
    intro i x y r hik h0 hx h1 h9 hp
    by_cases h : y < 128
    · rw [putN_small _ h]
      show rdNum i x (128 ^ i) (y :: r) = _
      unfold rdNum
      rw [if_neg (by omega), if_pos h, show y % 128 = y by omega]
    · rw [putN_great _ h]
      show rdNum i x (128 ^ i) ((y % 128 + 128) :: (putN k (y / 128) ++ r)) = _
      unfold rdNum
      rw [pow_128] at h1
      have hp128 : 0 ≤ (128 : Int) ^ i := by have := (pow_le i (by omega)).2; omega
      rw [if_neg (by omega), if_neg (by omega), show (y % 128 + 128) % 128 = y % 128 by omega, ← pow_128,
        ih (i + 1) _ (y / 128) r (by omega) (by omega) (Int.add_nonneg hx (Int.mul_nonneg hp128 (by omega))) (by omega) ?_ (by omega)]
      · congr 2
        rw [pow_128, Int.add_assoc, Int.mul_assoc, ← Int.mul_add]
        congr 2
        omega
      · rw [pow_128, Int.mul_comm (128 ^ i) 128, ← Int.mul_assoc]
        exact Int.le_trans (Int.mul_le_mul_of_nonneg_right (by omega) hp128) h9
theorem RM.uint_0 (b : List Int) : (⟨b, 0⟩ : RM).uint = (⟨(rdNum 0 0 1 b).1, (rdNum 0 0 1 b).2.1⟩, (rdNum 0 0 1 b).2.2) := by unfold RM.uint; rw [if_neg (by simp)]
theorem uint_put {y : Int} (h0 : 0 ≤ y) (h1 : y < 18446744073709551616) (r : List Int) : (⟨putNum y ++ r, 0⟩ : RM).uint = (⟨r, 0⟩, y) := by
  have hp : (128 : Int) ^ (9 + 1) = 1180591620717411303424 := by decide
  have h := rd_put 9 0 0 y r (by omega) h0 (by omega) (by omega) (by rw [Int.pow_zero]; omega) (fun h => by omega)
  rw [RM.uint_0]
  have e : rdNum 0 0 1 (putNum y ++ r) = (r, 0, y) := by
    have h2 : rdNum 0 0 1 (putNum y ++ r) = (r, 0, 0 + 128 ^ 0 * y) := h
    rw [h2]; simp
  rw [e]
/-- Numbers, one behind the other. -/
def putAll (l : List Int) : List Int := (l.map putNum).flatten
/-- What is left of a row of numbers that was cut, behind some of them. -/
def restOf (l : List Int) (k i : Nat) : List Int := (putAll (l.drop i)).take (k - (putAll (l.take i)).length)
end
end Go.Proofs.YtgjdcdhfijkoiaaDoor.Cod
end
