/- Equal; read: a block's number, part, end. -/
import Derived.Test.YtnajdnhgoakgaaaLaid
namespace Go.Proofs.Ytnajdnhgoakgaaa.Wal
open Go.RowKit Go.Proofs.YtnajdnhgoakgaaaW.PrintWords Go.Proofs.YtnajdnhgoakgaaaW.PrintLast Go.Proofs.YtnajdnhgoakgaaaW.PrintMore Go.Proofs.Ytnajdnhgoakgaaa.Mem Go.Proofs.Ytnajdnhgoakgaaa.PWal
set_option linter.unusedVariables false
set_option linter.unusedSimpArgs false
set_option maxRecDepth 8000
set_option maxHeartbeats 4000000
theorem eq_l0 : ∀ (n i : Nat) (a b : List Int) (k : Nat), a.length = b.length → a.length < 140737488355328 → i + n = a.length → n < k → slices_Equal_byte_byte.l0 k a b (a.length : Int) i = some (decide (a.drop i = b.drop i)) := by
  intro n
  induction n with
  | zero =>
    intro i a b k he hl hi hk
    obtain ⟨k', rfl⟩ : ∃ k', k = k' + 1 := ⟨k - 1, by omega⟩
    unfold slices_Equal_byte_byte.l0
    rw [if_neg (by omega), List.drop_of_length_le (by omega), List.drop_of_length_le (by omega)]
    rfl
  | succ n ih =>
    intro i a b k he hl hi hk
    obtain ⟨k', rfl⟩ : ∃ k', k = k' + 1 := ⟨k - 1, by omega⟩
    have hd : ∀ x : List Int, i < x.length → x.drop i = rd x i :: x.drop (i + 1) := by
      intro x hx
      rw [List.drop_eq_getElem_cons hx]
      unfold rd
      rw [Int.toNat_natCast, List.getD_eq_getElem?_getD, List.getElem?_eq_getElem hx]; rfl
    unfold slices_Equal_byte_byte.l0
    rw [if_pos (by omega), if_pos (by omega), if_pos (by omega), if_pos (by omega), hd a (by omega), hd b (by omega)]
    by_cases h : rd a i = rd b i
    · rw [if_pos h, show wrap64 ((i : Int) + 1) = ((i + 1 : Nat) : Int) from (IntWalk.wrap64_in _ ⟨by omega, by omega⟩).trans (by omega), ih (i + 1) a b k' he hl (by omega) (by omega), h]
      simp
    · rw [if_neg h]
      simp [h]
theorem eq_f (a b : List Int) (hl : a.length < 140737488355328) : slices_Equal_byte_byte.f (a.length + 1) a b = some (decide (a = b)) := by
  unfold slices_Equal_byte_byte.f
  by_cases h : (a.length : Int) = b.length
  · rw [if_pos h]
    have := eq_l0 a.length 0 a b (a.length + 1) (by omega) hl (by omega) (by omega)
    rw [List.drop_zero, List.drop_zero] at this
    exact this
  · rw [if_neg h]
    have : a ≠ b := fun e => h (by rw [e])
    simp [this]
section
variable {w : World}
theorem equal_calls {a b : List Int} (A B : Option Addr) (c d : Nat) (ha : Kd.C (Kd.int .u8) w A a.length a) (hc : a.length ≤ c) (hb : Kd.C (Kd.int .u8) w B b.length b) (hd : b.length ≤ d) (hl : a.length < 140737488355328) :
    Calls Try.prog 59 #[.slice A a.length c, .slice B b.length d] w fun e w' => e = .returned (.bool (decide (a = b))) ∧ Below w.heap.size w w' :=
  (slices_Equal_byte_byte.calls (a.length + 1) A c a B d b _ w ha hc hb hd (eq_f a b hl)).mono fun e w' h => ⟨h.1, h.2.below⟩
end
/-! ### what a block says -/
def b8 (b : List Int) : Int := b.getD 8 0
def b9 (b : List Int) : Bool := b.getD 9 0 == 1
def numOf (b : List Int) : Int := valB (b.take 8)
def partOf (b : List Int) : List Int := (b.drop 10).take (b8 b).toNat
/-- It is whole. -/
def okB (b : List Int) : Prop := b.length = 128 ∧ b8 b ≤ 110 ∧ laidM (numOf b) (partOf b) (b9 b) = b ∧ (b9 b = true ∨ b8 b = 110)
instance (b : List Int) : Decidable (okB b) := by unfold okB; infer_instance
def readM (b : List Int) : Int × List Int × Bool := if okB b then (numOf b, partOf b, b9 b) else (0, [], false)
theorem read_yes {b : List Int} (h : okB b) : readM b = (numOf b, partOf b, b9 b) := if_pos h
theorem read_no {b : List Int} (h : ¬ okB b) : readM b = (0, [], false) := if_neg h
theorem b8_byt {b : List Int} (hb : Byt b) (hl : b.length = 128) : 0 ≤ b8 b ∧ b8 b ≤ 255 := by
  unfold b8
  rw [List.getD_eq_getElem?_getD, List.getElem?_eq_getElem (by omega)]
  exact hb _ (List.getElem_mem _)
theorem part_len {b : List Int} (hb : Byt b) (hl : b.length = 128) (h : b8 b ≤ 110) : ((partOf b).length : Int) = b8 b := by
  have := b8_byt hb hl
  unfold partOf
  rw [List.length_take, List.length_drop]
  omega
theorem cell_C {w : World} {ad : Addr} {b : List Int} (h : Kd.C (Kd.int .u8) w (some ad) b.length b) (i : Nat) (hi : i < b.length) : w.cell? (ad.add i) = some (.int .u8 (b.getD i 0)) := by
  obtain ⟨ad', e, hc⟩ := cells_C h (by omega)
  cases e
  refine hc i _ ?_
  unfold nums
  rw [List.getElem?_map, List.getElem?_eq_getElem hi, List.getD_eq_getElem?_getD, List.getElem?_eq_getElem hi]
  rfl
theorem C_part {w : World} {ad : Addr} {b : List Int} (h : Kd.C (Kd.int .u8) w (some ad) b.length b) (m k : Nat) (hk : m + k ≤ b.length) : Kd.C (Kd.int .u8) w (some (ad.add m)) k ((b.drop m).take k) := by
  refine ⟨by rw [List.length_take, List.length_drop]; omega, by have := h.2.1; omega, fun h0 => ⟨_, rfl, fun j p hj => ?_⟩⟩
  obtain ⟨ad', e, hc⟩ := h.2.2 (by omega)
  cases e
  have hjk : j < k := by
    have := (List.getElem?_eq_some_iff.1 hj).1
    rw [List.length_take] at this
    omega
  rw [List.getElem?_take, if_pos hjk, List.getElem?_drop] at hj
  obtain ⟨cs, h1, h2, h3⟩ := hc (m + j) p hj
  refine ⟨cs, h1, h2, fun i u hu => ?_⟩
  have := h3 i u hu
  rw [Addr.add_add, show m + (j * (Kd.int IntKind.u8).sz + i) = (m + j) * (Kd.int IntKind.u8).sz + i by show m + (j * 1 + i) = (m + j) * 1 + i; omega]
  exact this
theorem C_blk {w : World} {g : Nat} {xs : List Int} {t : TypeId} (h : w.heap[g]? = some (.cells (nums .u8 xs).toArray t (0, 0))) (hl : xs.length ≤ 9223372036854775807) : Kd.C (Kd.int .u8) w (some ⟨g, 0, none⟩) xs.length xs := by
  refine ⟨rfl, hl, fun _ => ⟨_, rfl, fun j p hj => ⟨[.int .u8 p], rfl, rfl, fun i u hu => ?_⟩⟩⟩
  cases i with
  | zero =>
    obtain rfl : Value.int .u8 p = u := by simpa using hu
    rw [add_z, show j * (Kd.int IntKind.u8).sz + 0 = j by show j * 1 + 0 = j; omega, blk_cell h, List.getElem?_toArray]
    unfold nums
    rw [List.getElem?_map, hj]
    rfl
  | succ i => simp at hu
theorem cell_below {w w' : World} {p : Addr} {v : Value} (h : w.cell? p = some v) (hb : Below w.heap.size w w') : w'.cell? p = some v := pw_cell_below hb h
section
variable {w : World}
theorem wread_calls {b : List Int} (A : Option Addr) (c : Nat) (hr : Kd.C (Kd.int .u8) w A b.length b) (hc : b.length ≤ c) (hb : Byt b) :
    Calls Try.prog 54 #[.slice A b.length c] w fun e w' => ∃ A' c', e = .returned (.tuple #[.int .u64 (readM b).1, .slice A' (readM b).2.1.length c', .bool (readM b).2.2]) ∧ (readM b).2.1.length ≤ c' ∧ (∀ W, Kd.C (Kd.int .u8) W A b.length b → Kd.C (Kd.int .u8) W A' (readM b).2.1.length (readM b).2.1) ∧ Below w.heap.size w w' := by
  have hno : ∀ W : World, Kd.C (Kd.int .u8) W none 0 ([] : List Int) := fun W => ⟨rfl, by omega, fun h => absurd h (by omega)⟩
  have HN := Aside0.mk hno
  by_cases hl : b.length = 128
  · obtain ⟨ad, rfl, _⟩ := cells_C hr (by omega)
    have c8 : w.cell? ⟨ad.block, ad.off + 8, none⟩ = some (.int .u8 (b.getD 8 0)) := cell_C hr 8 (by omega)
    have c9 : w.cell? ⟨ad.block, ad.off + 9, none⟩ = some (.int .u8 (b.getD 9 0)) := cell_C hr 9 (by omega)
    rw [show b.getD 8 0 = b8 b from rfl] at c8
    have hx8 := b8_byt hb hl
    by_cases h8 : b8 b ≤ 110
    · have hxp := part_len hb hl h8
      obtain ⟨m, hm⟩ : ∃ m, m = (partOf b).length := ⟨_, rfl⟩
      have hm1 : m ≤ 110 := by omega
      rw [← hxp, ← hm] at c8
      rw [show b.getD 9 0 = b.getD 9 0 from rfl] at c9
      obtain ⟨v9, hv9⟩ : ∃ v, v = b.getD 9 0 := ⟨_, rfl⟩
      rw [← hv9] at c9
      have d8 : decide ((m : Int) > 110) = false := decide_eq_false (by omega)
      have HX := Aside0.mk (And.intro hr (And.intro hb (And.intro hl (And.intro h8 (And.intro hm hv9)))))
      have hk : 128 ≤ c := by omega
      have hC10 : ∀ W : World, Kd.C (Kd.int .u8) W (some ad) b.length b → Kd.C (Kd.int .u8) W (some (ad.add 10)) m (partOf b) := fun W h => by
        have h1 := C_part h 10 m (by omega)
        rw [show partOf b = (b.drop 10).take m by unfold partOf; rw [← hxp, ← hm, Int.toNat_natCast]]
        exact h1
      have HC := Aside0.mk hC10
      obtain ⟨q, hq⟩ : ∃ q, q = decide (laidM (numOf b) (partOf b) (b9 b) = b) := ⟨_, rfl⟩
      obtain ⟨e9, he9⟩ : ∃ e, e = b9 b := ⟨_, rfl⟩
      have h9 : (v9 == 1) = e9 := by rw [he9, hv9]; rfl
      have HQ := Aside0.mk (And.intro hq he9)
      clear hq he9
      rw [hl]
      have q8 : ((8 : Int) ≤ (c : Int)) = True := eq_true (by omega)
      obtain ⟨e, he⟩ : ∃ e, e = m + 10 := ⟨_, rfl⟩
      have qw : wrap64 (m : Int) = m := IntWalk.wrap64_in _ ⟨by omega, by omega⟩
      have qw2 : wrap64 (10 + (m : Int)) = (e : Int) := (IntWalk.wrap64_in _ ⟨by omega, by omega⟩).trans (by omega)
      have qm : ((10 : Int) ≤ (e : Int)) = True := eq_true (by omega)
      have qe : e - 10 = m := by omega
      have q0 : ((0 : Int) ≤ (e : Int)) = True := eq_true (by omega)
      have q1 : ((e : Int) ≤ (c : Int)) = True := eq_true (by omega)
      have qc : (c = 10) = False := eq_false (by omega)
      clear he
      clear hr hb hx8 h8 hc hxp hm hv9 hC10 hl hno
      go_enter Try.func54, Try.ntmps54
      go_upto_region 3 with (fail)
      obtain ⟨wd, hwd⟩ : ∃ wd, wd = w.drew := ⟨_, rfl⟩
      have hbd : Below w.heap.size w wd := by rw [hwd]; exact below_drew1 (Below.refl _ _)
      have HD := Aside0.mk (And.intro hbd (And.intro (show wd.cell? ⟨ad.block, ad.off + 8, none⟩ = some (.int .u8 m) by rw [hwd]; exact c8) (And.intro (show wd.cell? ⟨ad.block, ad.off + 9, none⟩ = some (.int .u8 v9) by rw [hwd]; exact c9) (Kd.C_below HX.out.1 hbd))))
      clear hbd c8 c9
      refine start_ (n := 17) (S := (fun w' => w'.cell? ⟨ad.block, ad.off + 8, none⟩ = some (.int .u8 m) ∧ w'.cell? ⟨ad.block, ad.off + 9, none⟩ = some (.int .u8 v9))) (ds := []) #[false, false, false, false, false, false, false, false, false, false, false, false, false, false, false, false, false] (by kernel_rfl) rfl (by kernel_rfl) ((by rw [← hwd]; exact ⟨HD.out.2.1, HD.out.2.2.1⟩)) (fun hHeld => ?_)
      rw [← hwd] at hHeld ⊢
      clear hwd
      refine pure_ (i := 0) (N := some 17) (v := ?_) (a' := ?_) #[true, false, false, false, false, false, false, false, false, false, false, false, false, false, false, false, false] rfl rfl (by kernel_rfl) (fun _ _ _ h => h) (Or.inl ⟨by rfl, ?_⟩) ?_ ?_
      rotate_left
      · intro w'
        go_simp
        with_reducible rfl
      rotate_left
      · simp only [Act.put, List.setIfInBounds_toArray, List.set_cons_zero, List.set_cons_succ, i64_w, i32_w]
        rfl
      refine pure_ (i := 1) (N := some 18) (v := ?_) (a' := ?_) #[true, true, false, false, false, false, false, false, false, false, false, false, false, false, false, false, false] rfl rfl (by kernel_rfl) (fun _ _ _ h => h) (Or.inl ⟨by rfl, ?_⟩) ?_ ?_
      rotate_left
      · intro w'
        go_simp
        with_reducible rfl
      rotate_left
      · simp only [Act.put, List.setIfInBounds_toArray, List.set_cons_zero, List.set_cons_succ, i64_w, i32_w]
        rfl
      refine pure_ (i := 3) (N := some 20) (v := ?_) (a' := ?_) #[true, true, false, true, false, false, false, false, false, false, false, false, false, false, false, false, false] rfl rfl (by kernel_rfl) (fun _ _ _ h => h) (Or.inl ⟨by rfl, ?_⟩) ?_ ?_
      rotate_left
      · intro w'
        go_simp
        with_reducible rfl
      rotate_left
      · simp only [Act.put, List.setIfInBounds_toArray, List.set_cons_zero, List.set_cons_succ, i64_w, i32_w]
        rfl
      refine pure_ (i := 4) (N := some 21) (v := ?_) (a' := ?_) #[true, true, false, true, true, false, false, false, false, false, false, false, false, false, false, false, false] rfl rfl (by kernel_rfl) (fun _ _ _ h => h) (Or.inl ⟨by rfl, ?_⟩) ?_ ?_
      rotate_left
      · intro w'
        go_simp
        with_reducible rfl
      rotate_left
      · simp only [Act.put, List.setIfInBounds_toArray, List.set_cons_zero, List.set_cons_succ, i64_w, i32_w]
        rfl
      refine pure_ (i := 5) (N := some 22) (v := ?_) (a' := ?_) #[true, true, false, true, true, true, false, false, false, false, false, false, false, false, false, false, false] rfl rfl (by kernel_rfl) (fun _ _ _ h => h) (Or.inl ⟨by rfl, ?_⟩) ?_ ?_
      rotate_left
      · intro w'
        go_simp
        with_reducible rfl
      rotate_left
      · simp only [Act.put, List.setIfInBounds_toArray, List.set_cons_zero, List.set_cons_succ, i64_w, i32_w]
        rfl
      refine take_ (i := 6) (N := some 23) (v := ?_) (a' := ?_) #[true, true, false, true, true, true, true, false, false, false, false, false, false, false, false, false, false] rfl rfl (by kernel_rfl) (fun _ _ _ h => h) (Or.inl ⟨by rfl, ?_⟩) hHeld ?_ ?_
      rotate_left
      · rintro w' s0
        obtain ⟨s8, s9⟩ := s0
        go_simp
        with_reducible rfl
      rotate_left
      · simp only [Act.put, List.setIfInBounds_toArray, List.set_cons_zero, List.set_cons_succ, i64_w, i32_w]
        rfl
      refine pure_ (i := 7) (N := some 24) (v := ?_) (a' := ?_) #[true, true, false, true, true, true, true, true, false, false, false, false, false, false, false, false, false] rfl rfl (by kernel_rfl) (fun _ _ _ h => h) (Or.inl ⟨by rfl, ?_⟩) ?_ ?_
      rotate_left
      · intro w'
        go_simp
        with_reducible rfl
      rotate_left
      · simp only [Act.put, List.setIfInBounds_toArray, List.set_cons_zero, List.set_cons_succ, i64_w, i32_w]
        rfl
      refine pure_ (i := 8) (N := some 25) (v := ?_) (a' := ?_) #[true, true, false, true, true, true, true, true, true, false, false, false, false, false, false, false, false] rfl rfl (by kernel_rfl) (fun _ _ _ h => h) (Or.inl ⟨by rfl, ?_⟩) ?_ ?_
      rotate_left
      · intro w'
        go_simp
        with_reducible rfl
      rotate_left
      · simp only [Act.put, List.setIfInBounds_toArray, List.set_cons_zero, List.set_cons_succ, i64_w, i32_w]
        rfl
      refine pure_ (i := 9) (N := some 26) (v := ?_) (a' := ?_) #[true, true, false, true, true, true, true, true, true, true, false, false, false, false, false, false, false] rfl rfl (by kernel_rfl) (fun _ _ _ h => h) (Or.inl ⟨by rfl, ?_⟩) ?_ ?_
      rotate_left
      · intro w'
        go_simp
        with_reducible rfl
      rotate_left
      · simp only [Act.put, List.setIfInBounds_toArray, List.set_cons_zero, List.set_cons_succ, i64_w, i32_w]
        rfl
      refine pure_ (i := 10) (N := some 27) (v := ?_) (a' := ?_) #[true, true, false, true, true, true, true, true, true, true, true, false, false, false, false, false, false] rfl rfl (by kernel_rfl) (fun _ _ _ h => h) (Or.inl ⟨by rfl, ?_⟩) ?_ ?_
      rotate_left
      · intro w'
        go_simp
        with_reducible rfl
      rotate_left
      · simp only [Act.put, List.setIfInBounds_toArray, List.set_cons_zero, List.set_cons_succ, i64_w, i32_w]
        rfl
      refine pure_ (i := 11) (N := some 28) (v := ?_) (a' := ?_) #[true, true, false, true, true, true, true, true, true, true, true, true, false, false, false, false, false] rfl rfl (by kernel_rfl) (fun _ _ _ h => h) (Or.inl ⟨by rfl, ?_⟩) ?_ ?_
      rotate_left
      · intro w'
        go_simp
        with_reducible rfl
      rotate_left
      · simp only [Act.put, List.setIfInBounds_toArray, List.set_cons_zero, List.set_cons_succ, i64_w, i32_w]
        rfl
      refine take_ (i := 12) (N := some 29) (v := ?_) (a' := ?_) #[true, true, false, true, true, true, true, true, true, true, true, true, true, false, false, false, false] rfl rfl (by kernel_rfl) (fun _ _ _ h => h) (Or.inl ⟨by rfl, ?_⟩) hHeld ?_ ?_
      rotate_left
      · rintro w' s0
        obtain ⟨s8, s9⟩ := s0
        go_simp
        with_reducible rfl
      rotate_left
      · simp only [Act.put, List.setIfInBounds_toArray, List.set_cons_zero, List.set_cons_succ, i64_w, i32_w]
        rfl
      refine pure_ (i := 13) (N := some 30) (v := ?_) (a' := ?_) #[true, true, false, true, true, true, true, true, true, true, true, true, true, true, false, false, false] rfl rfl (by kernel_rfl) (fun _ _ _ h => h) (Or.inl ⟨by rfl, ?_⟩) ?_ ?_
      rotate_left
      · intro w'
        go_simp
        with_reducible rfl
      rotate_left
      · simp only [Act.put, List.setIfInBounds_toArray, List.set_cons_zero, List.set_cons_succ, i64_w, i32_w]
        rfl
      refine one_ (i := 2) (N := some 19) #[true, true, true, true, true, true, true, true, true, true, true, true, true, true, false, false, false] rfl rfl (by kernel_rfl) (by decide) (fun K hK => ?_)
      have htk : (b.take 8).length = 8 := by rw [List.length_take, HX.out.2.2.1]; rfl
      have hv := value_calls (w := wd) (xs := b.take 8) (some ad) c (Kd.C_take HD.out.2.2.2 (by rw [HX.out.2.2.1]; omega)) (by rw [htk]; omega) (fun x hx => HX.out.2.1 x (List.mem_of_mem_take hx)) (by rw [htk]; omega)
      rw [htk] at hv
      refine goes_ Try.func51 (by kernel_rfl) rfl #[.slice (some ad) 8 c] (by rfl) rfl rfl (by (try simp only [List.map_toArray, List.map_cons, List.map_nil]); rfl) ?_
      refine hv.mono ?_
      rintro x w3 ⟨rfl, hb3⟩
      refine ⟨_, rfl, ?_⟩
      have h8' := cell_below HD.out.2.1 hb3
      have h9' := cell_below HD.out.2.2.1 hb3
      have H3 := Aside0.mk (And.intro (below_step HD.out.1 hb3) (And.intro (Kd.C_below HD.out.2.2.2 hb3) (Kd.C_below (HC.out wd HD.out.2.2.2) hb3)))
      clear hb3 hv htk
      refine hK.out _ _ (⟨h8', h9'⟩) (fun hHeld => ?_)
      clear hK K
      refine norm_ (a' := ?_) ?_ ?_
      rotate_left
      · show Act.put _ (some 19) _ = _
        simp only [Act.put, List.setIfInBounds_toArray, List.set_cons_zero, List.set_cons_succ, i64_w, i32_w]
        rfl
      refine pure_ (i := 14) (N := some 5) (v := ?_) (a' := ?_) #[true, true, true, true, true, true, true, true, true, true, true, true, true, true, true, false, false] rfl rfl (by kernel_rfl) (fun _ _ _ h => h) (Or.inl ⟨by rfl, ?_⟩) ?_ ?_
      rotate_left
      · intro w'
        go_simp
        with_reducible rfl
      rotate_left
      · simp only [Act.put, List.setIfInBounds_toArray, List.set_cons_zero, List.set_cons_succ, i64_w, i32_w]
        rfl
      refine pure_ (i := 15) (N := some 6) (v := ?_) (a' := ?_) #[true, true, true, true, true, true, true, true, true, true, true, true, true, true, true, true, false] rfl rfl (by kernel_rfl) (fun _ _ _ h => h) (Or.inl ⟨by rfl, ?_⟩) ?_ ?_
      rotate_left
      · intro w'
        go_simp
        with_reducible rfl
      rotate_left
      · simp only [Act.put, List.setIfInBounds_toArray, List.set_cons_zero, List.set_cons_succ, i64_w, i32_w]
        rfl
      refine pure_ (i := 16) (N := some 7) (v := ?_) (a' := ?_) #[true, true, true, true, true, true, true, true, true, true, true, true, true, true, true, true, true] rfl rfl (by kernel_rfl) (fun _ _ _ h => h) (Or.inl ⟨by rfl, ?_⟩) ?_ ?_
      rotate_left
      · intro w'
        go_simp
        with_reducible rfl
      rotate_left
      · simp only [Act.put, List.setIfInBounds_toArray, List.set_cons_zero, List.set_cons_succ, i64_w, i32_w]
        rfl
      refine done_ (by kernel_rfl) ?_
      clear HD h8' h9'
      have hnb := num8_val (xs := b.take 8) (by rw [List.length_take, HX.out.2.2.1]; rfl) (fun x hx => HX.out.2.1 x (List.mem_of_mem_take hx))
      have hx := laid_calls (w := w3) (numOf b) hnb.2.1 hnb.2.2 (part := partOf b) (some (ad.add 10)) (c - 10) e9 (by rw [← HX.out.2.2.2.2.1]; exact H3.out.2.2) (by rw [← HX.out.2.2.2.2.1]; exact hm1)
      rw [← HX.out.2.2.2.2.1] at hx
      have HL := Aside0.mk hx
      clear hx hnb
      have hfin : (q = true ∧ (e9 = true ∨ m = 110)) ↔ okB b := by
        unfold okB
        rw [HQ.out.1, HQ.out.2, decide_eq_true_iff]
        have h1 := HX.out.2.2.2.2.1
        have h2 := part_len HX.out.2.1 HX.out.2.2.1 HX.out.2.2.2.1
        constructor
        · rintro ⟨a1, a2⟩; exact ⟨HX.out.2.2.1, HX.out.2.2.2.1, a1, a2.imp id (fun h => by omega)⟩
        · rintro ⟨_, _, a1, a2⟩; exact ⟨a1, a2.imp id (fun h => by omega)⟩
      have HF := Aside0.mk hfin
      clear hfin
      cases q
      · go_wp2_with (first
          | (go_at_call 49; go_loud (refine HL.out.mono ?_; rintro x w4 ⟨g, rfl, hg1, hg2, hg3⟩; have H4 := Aside0.mk (And.intro hg1 (And.intro hg2 hg3)); clear hg1 hg2 hg3))
          | (go_at_call 59; go_loud (have hx := equal_calls (w := w4) (some ⟨g, 0, none⟩) (some ad) 128 c (C_blk H4.out.2.1 (by rw [laidM_len _ _ (by rw [← HX.out.2.2.2.2.1]; exact hm1)]; omega)) (by rw [laidM_len _ _ (by rw [← HX.out.2.2.2.2.1]; exact hm1)]; omega) (Kd.C_below H3.out.2.1 H4.out.2.2) (by rw [HX.out.2.2.1]; exact hk) (by rw [laidM_len _ _ (by rw [← HX.out.2.2.2.2.1]; exact hm1)]; omega); rw [laidM_len _ _ (by rw [← HX.out.2.2.2.2.1]; exact hm1), HX.out.2.2.1, HQ.out.2, ← HQ.out.1] at hx; refine hx.mono ?_; clear hx; rintro x w5 ⟨rfl, hb5⟩; have H5 := Aside0.mk (below_step H3.out.1 (below_step H4.out.2.2 hb5)); clear hb5)))
        go_ret3
        rw [read_no (fun h => by have := HF.out.2 h; cases this.1)]
        exact ⟨none, 0, rfl, Nat.le_refl _, fun W _ => HN.out W, H5.out⟩
      · cases e9
        · by_cases hm2 : m < 110
          · have d2 : decide ((m : Int) < 110) = true := decide_eq_true (by omega)
            go_wp2_with (first
              | (go_at_call 49; go_loud (refine HL.out.mono ?_; rintro x w4 ⟨g, rfl, hg1, hg2, hg3⟩; have H4 := Aside0.mk (And.intro hg1 (And.intro hg2 hg3)); clear hg1 hg2 hg3))
              | (go_at_call 59; go_loud (have hx := equal_calls (w := w4) (some ⟨g, 0, none⟩) (some ad) 128 c (C_blk H4.out.2.1 (by rw [laidM_len _ _ (by rw [← HX.out.2.2.2.2.1]; exact hm1)]; omega)) (by rw [laidM_len _ _ (by rw [← HX.out.2.2.2.2.1]; exact hm1)]; omega) (Kd.C_below H3.out.2.1 H4.out.2.2) (by rw [HX.out.2.2.1]; exact hk) (by rw [laidM_len _ _ (by rw [← HX.out.2.2.2.2.1]; exact hm1)]; omega); rw [laidM_len _ _ (by rw [← HX.out.2.2.2.2.1]; exact hm1), HX.out.2.2.1, HQ.out.2, ← HQ.out.1] at hx; refine hx.mono ?_; clear hx; rintro x w5 ⟨rfl, hb5⟩; have H5 := Aside0.mk (below_step H3.out.1 (below_step H4.out.2.2 hb5)); clear hb5)))
            go_ret3
            rw [read_no (fun h => by have h2 := (HF.out.2 h).2; rcases h2 with h2 | h2; (cases h2); omega)]
            exact ⟨none, 0, rfl, Nat.le_refl _, fun W _ => HN.out W, H5.out⟩
          · have d2 : decide ((m : Int) < 110) = false := decide_eq_false (by omega)
            go_wp2_with (first
              | (go_at_call 49; go_loud (refine HL.out.mono ?_; rintro x w4 ⟨g, rfl, hg1, hg2, hg3⟩; have H4 := Aside0.mk (And.intro hg1 (And.intro hg2 hg3)); clear hg1 hg2 hg3))
              | (go_at_call 59; go_loud (have hx := equal_calls (w := w4) (some ⟨g, 0, none⟩) (some ad) 128 c (C_blk H4.out.2.1 (by rw [laidM_len _ _ (by rw [← HX.out.2.2.2.2.1]; exact hm1)]; omega)) (by rw [laidM_len _ _ (by rw [← HX.out.2.2.2.2.1]; exact hm1)]; omega) (Kd.C_below H3.out.2.1 H4.out.2.2) (by rw [HX.out.2.2.1]; exact hk) (by rw [laidM_len _ _ (by rw [← HX.out.2.2.2.2.1]; exact hm1)]; omega); rw [laidM_len _ _ (by rw [← HX.out.2.2.2.2.1]; exact hm1), HX.out.2.2.1, HQ.out.2, ← HQ.out.1] at hx; refine hx.mono ?_; clear hx; rintro x w5 ⟨rfl, hb5⟩; have H5 := Aside0.mk (below_step H3.out.1 (below_step H4.out.2.2 hb5)); clear hb5)))
            go_ret3
            rw [read_yes (HF.out.1 (by first | (simp; done) | (simp; omega))), ← HX.out.2.2.2.2.1, ← HQ.out.2]
            exact ⟨some (ad.add 10), c - 10, rfl, by omega, fun W hW => HC.out W (by rw [HX.out.2.2.1]; exact hW), H5.out⟩
        · go_wp2_with (first
            | (go_at_call 49; go_loud (refine HL.out.mono ?_; rintro x w4 ⟨g, rfl, hg1, hg2, hg3⟩; have H4 := Aside0.mk (And.intro hg1 (And.intro hg2 hg3)); clear hg1 hg2 hg3))
            | (go_at_call 59; go_loud (have hx := equal_calls (w := w4) (some ⟨g, 0, none⟩) (some ad) 128 c (C_blk H4.out.2.1 (by rw [laidM_len _ _ (by rw [← HX.out.2.2.2.2.1]; exact hm1)]; omega)) (by rw [laidM_len _ _ (by rw [← HX.out.2.2.2.2.1]; exact hm1)]; omega) (Kd.C_below H3.out.2.1 H4.out.2.2) (by rw [HX.out.2.2.1]; exact hk) (by rw [laidM_len _ _ (by rw [← HX.out.2.2.2.2.1]; exact hm1)]; omega); rw [laidM_len _ _ (by rw [← HX.out.2.2.2.2.1]; exact hm1), HX.out.2.2.1, HQ.out.2, ← HQ.out.1] at hx; refine hx.mono ?_; clear hx; rintro x w5 ⟨rfl, hb5⟩; have H5 := Aside0.mk (below_step H3.out.1 (below_step H4.out.2.2 hb5)); clear hb5)))
          go_ret3
          rw [read_yes (HF.out.1 (by first | (simp; done) | (simp; omega))), ← HX.out.2.2.2.2.1, ← HQ.out.2]
          exact ⟨some (ad.add 10), c - 10, rfl, by omega, fun W hW => HC.out W (by rw [HX.out.2.2.1]; exact hW), H5.out⟩
    · have hno' : ¬ okB b := fun h => h8 h.2.1
      rw [read_no hno']
      have d8 : decide (b8 b > 110) = true := decide_eq_true (by omega)
      obtain ⟨v8, hv8⟩ : ∃ v, v = b8 b := ⟨_, rfl⟩
      rw [← hv8] at c8 d8
      rw [hl] at hc ⊢
      clear hr hb hx8 h8 hno' hv8 c9
      go_enter Try.func54, Try.ntmps54
      go_wp2
      go_ret3
      exact ⟨none, 0, rfl, Nat.le_refl _, fun W _ => hno W, Below.refl _ _⟩
  · have hno' : ¬ okB b := fun h => hl h.1
    rw [read_no hno']
    have d1 : ((b.length : Int) != 128) = true := bne_iff_ne.2 (by omega)
    obtain ⟨n, hn⟩ : ∃ n, n = b.length := ⟨_, rfl⟩
    rw [← hn] at d1 hr ⊢
    clear hr hb hc hl hno' hn
    go_enter Try.func54, Try.ntmps54
    go_wp2
    go_ret3
    exact ⟨none, 0, rfl, Nat.le_refl _, fun W _ => hno W, Below.refl _ _⟩
end
end Go.Proofs.Ytnajdnhgoakgaaa.Wal
