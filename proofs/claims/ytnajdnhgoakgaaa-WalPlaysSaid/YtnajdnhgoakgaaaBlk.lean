/- The disk of blocks: what it is in memory, and what its calls do. -/
import Derived.Test.YtnajdnhgoakgaaaMem
namespace Go.Proofs.Ytnajdnhgoakgaaa.Blk
open Go.RowKit Go.Proofs.YtnajdnhgoakgaaaW.PrintWords Go.Proofs.YtnajdnhgoakgaaaW.PrintLast Go.Proofs.YtnajdnhgoakgaaaW.PrintMore Go.Proofs.Ytnajdnhgoakgaaa.Mem
attribute [local go_sem] max2_int min2_int max_two min_two max_three min_three max_four min_four
set_option linter.unusedVariables false
set_option linter.unusedSimpArgs false

/-- A disk's state. -/
structure DM where
  L : List ByteArray
  left : Int
  torn : Int
  down : Bool

structure DM.Ok (D : DM) : Prop where
  sz : ∀ s ∈ D.L, s.size = 128
  n1 : 1 ≤ D.L.length
  n2 : D.L.length ≤ 65536
  l1 : -1 ≤ D.left
  l2 : D.left ≤ 9223372036854775807
  t1 : 0 ≤ D.torn
  t2 : D.torn ≤ 128

def dcells (L : List ByteArray) : List Value := (L.map bc).flatten

/-- The disk behind a pointer to block g; its blocks lie in F. -/
def DiskAt (w : World) (F : Nat → Prop) (g : Nat) (D : DM) : Prop :=
  ∃ lb, F g ∧ F lb ∧ w.heap[g]? = some (.cells #[.slice (some ⟨lb, 0, none⟩) D.L.length D.L.length, .int .i64 D.left, .int .i64 D.torn, .bool D.down] 86 (0, 0)) ∧ w.heap[lb]? = some (.cells (dcells D.L).toArray 88 (0, 0)) ∧ D.Ok

theorem DiskAt.kept {w w' : World} {F S : Nat → Prop} {g : Nat} {D : DM} (h : DiskAt w F g D) (hk : Kept w w' S) (ha : Apart F S) : DiskAt w' F g D := by
  obtain ⟨lb, h1, h2, h3, h4, h5⟩ := h
  exact ⟨lb, h1, h2, blk_kept h3 hk (ha g h1), blk_kept h4 hk (ha lb h2), h5⟩
theorem DiskAt.below {w w' : World} {F : Nat → Prop} {g : Nat} {D : DM} (h : DiskAt w F g D) (hb : Below w.heap.size w w') : DiskAt w' F g D := h.kept (Kept.of_below hb (fun _ => False)) (fun _ _ h => h)
theorem DiskAt.mono {w : World} {F G : Nat → Prop} {g : Nat} {D : DM} (h : DiskAt w F g D) (hs : ∀ k, F k → G k) : DiskAt w G g D := by
  obtain ⟨lb, h1, h2, h3⟩ := h
  exact ⟨lb, hs g h1, hs lb h2, h3⟩
theorem DiskAt.cut {w : World} {F : Nat → Prop} {g b : Nat} {D : DM} (h : DiskAt w F g D) (hb : ∀ k, F k → b ≤ k) : DiskAt w (Cut b w F) g D := by
  obtain ⟨lb, h1, h2, h3, h4, h5⟩ := h
  exact ⟨lb, ⟨h1, hb g h1, blk_lt h3⟩, ⟨h2, hb lb h2, blk_lt h4⟩, h3, h4, h5⟩

/-! ### what the calls answer -/
def DM.fine (D : DM) (i : Int) : Int := if D.down = true then 30 else if i < 0 ∨ (D.L.length : Int) ≤ i then 14 else 0
def DM.blk (D : DM) (i : Int) : ByteArray := D.L.getD i.toNat ByteArray.empty
def DM.write (D : DM) (i : Int) (s : ByteArray) : DM × Int :=
  if D.fine i ≠ 0 then (D, D.fine i) else if s.size ≠ 128 then (D, 1) else
  if D.left = 0 then ({ D with L := D.L.set i.toNat (s.extract 0 D.torn.toNat ++ (D.blk i).extract D.torn.toNat 128), down := true }, 30)
  else ({ D with L := D.L.set i.toNat s, left := if D.left > 0 then D.left - 1 else D.left }, 0)
def DM.stop (D : DM) (after torn : Int) : DM := { D with left := if after < 0 then -1 else after, torn := if torn < 0 then 0 else if torn > 128 then 128 else torn }
def DM.restart (D : DM) : DM := { D with left := -1, down := false }

theorem dcells_length (L : List ByteArray) (h : ∀ s ∈ L, s.size = 128) : (dcells L).length = L.length * 128 := by
  unfold dcells
  induction L with
  | nil => rfl
  | cons s L ih =>
    rw [List.map_cons, List.flatten_cons, List.length_append, ih (fun x hx => h x (List.mem_cons_of_mem _ hx)), bc_length, h s List.mem_cons_self, List.length_cons]
    omega
theorem dcells_at (L : List ByteArray) (h : ∀ s ∈ L, s.size = 128) : ∀ (i j : Nat) (hi : i < L.length), j < 128 → (dcells L)[i * 128 + j]? = (bc L[i])[j]? := by
  induction L with
  | nil => intro i j hi; simp at hi
  | cons s L ih =>
    intro i j hi hj
    have hs : (bc s).length = 128 := by rw [bc_length, h s List.mem_cons_self]
    have e : dcells (s :: L) = bc s ++ dcells L := rfl
    rw [e]
    cases i with
    | zero => rw [List.getElem?_append_left (by omega)]; simp
    | succ i =>
      rw [List.getElem?_append_right (by omega), hs, show (i + 1) * 128 + j - 128 = i * 128 + j by omega, ih (fun x hx => h x (List.mem_cons_of_mem _ hx)) i j (by simpa using hi) hj]
      rfl
theorem fine_0 {D : DM} {i : Int} (h : D.fine i = 0) : D.down = false ∧ 0 ≤ i ∧ i < D.L.length := by
  unfold DM.fine at h
  split at h
  · omega
  · rename_i hd
    split at h
    · omega
    · rename_i hi
      exact ⟨by simpa using hd, by omega, by omega⟩

theorem d_len_max {D : DM} (h : D.Ok) : (D.L.length : Int) ≤ 65536 := by have := h.n2; omega

section
variable {w : World} {F : Nat → Prop} {g : Nat} {D : DM}

theorem len_calls (hd : DiskAt w F g D) : Calls Try.prog 26 #[.pointer (some ⟨g, 0, none⟩)] w fun e w' => e = .returned (.int .i64 D.L.length) ∧ w = w' := by
  obtain ⟨lb, _, _, h3, _, h5⟩ := hd
  have c0 : w.cell? ⟨g, 0, none⟩ = some (.slice (some ⟨lb, 0, none⟩) D.L.length D.L.length) := (blk_cell h3 0).trans rfl
  have HD := Aside0.mk h3
  clear h3
  go_enter Try.func26, Try.ntmps26
  go_wp2
  go_ret
  exact ⟨rfl, rfl⟩
theorem down_calls (hd : DiskAt w F g D) : Calls Try.prog 27 #[.pointer (some ⟨g, 0, none⟩)] w fun e w' => e = .returned (.bool D.down) ∧ w = w' := by
  obtain ⟨lb, _, _, h3, _, h5⟩ := hd
  have c3 : w.cell? ⟨g, 3, none⟩ = some (.bool D.down) := (blk_cell h3 3).trans rfl
  have HD := Aside0.mk h3
  clear h3
  go_enter Try.func27, Try.ntmps27
  go_wp2
  go_ret
  exact ⟨rfl, rfl⟩
theorem fine_calls (hd : DiskAt w F g D) (i : Int) : Calls Try.prog 46 #[.pointer (some ⟨g, 0, none⟩), .int .i64 i] w fun e w' => e = .returned (.int .i64 (D.fine i)) ∧ w = w' := by
  obtain ⟨lb, _, _, h3, _, h5⟩ := hd
  have c0 : w.cell? ⟨g, 0, none⟩ = some (.slice (some ⟨lb, 0, none⟩) D.L.length D.L.length) := (blk_cell h3 0).trans rfl
  have c3 : w.cell? ⟨g, 3, none⟩ = some (.bool D.down) := (blk_cell h3 3).trans rfl
  have HD := Aside0.mk h3
  clear h3
  obtain ⟨d, hdn⟩ : ∃ d, d = D.down := ⟨_, rfl⟩
  obtain ⟨n, hn⟩ : ∃ n : Nat, n = D.L.length := ⟨_, rfl⟩
  rw [← hn] at c0
  rw [← hdn] at c3
  cases d with
  | true =>
    have hf : D.fine i = 30 := by unfold DM.fine; rw [if_pos hdn.symm]
    rw [hf]
    clear hf hdn hn
    go_enter Try.func46, Try.ntmps46
    go_wp2
    go_ret
    exact ⟨rfl, rfl⟩
  | false =>
    by_cases h1 : i < 0
    · have hf : D.fine i = 14 := by unfold DM.fine; rw [if_neg (by rw [← hdn]; simp), if_pos (.inl h1)]
      rw [hf]
      clear hf hdn hn
      have hb : decide (i < 0) = true := decide_eq_true h1
      go_enter Try.func46, Try.ntmps46
      go_wp2
      go_ret
      exact ⟨rfl, rfl⟩
    · have hb : decide (i < 0) = false := decide_eq_false h1
      by_cases h2 : (n : Int) ≤ i
      · have hf : D.fine i = 14 := by unfold DM.fine; rw [if_neg (by rw [← hdn]; simp), if_pos (.inr (by rw [← hn]; exact h2))]
        rw [hf]
        clear hf hdn hn
        have hb2 : decide ((n : Int) ≤ i) = true := decide_eq_true h2
        go_enter Try.func46, Try.ntmps46
        go_wp2
        go_ret
        exact ⟨rfl, rfl⟩
      · have hf : D.fine i = 0 := by unfold DM.fine; rw [if_neg (by rw [← hdn]; simp), if_neg (by rw [← hn]; omega)]
        rw [hf]
        clear hf hdn hn
        have hb2 : decide ((n : Int) ≤ i) = false := decide_eq_false h2
        go_enter Try.func46, Try.ntmps46
        go_wp2
        go_ret
        exact ⟨rfl, rfl⟩

/-! ### Read -/
theorem read_no (hd : DiskAt w F g D) (i : Int) (hf : D.fine i ≠ 0) : Calls Try.prog 21 #[.pointer (some ⟨g, 0, none⟩), .int .i64 i] w fun e w' => e = .returned (.tuple #[.slice none 0 0, .int .i64 (D.fine i)]) ∧ w = w' := by
  have h1 := fine_calls hd i
  obtain ⟨q, hq⟩ : ∃ q, q = D.fine i := ⟨_, rfl⟩
  rw [← hq] at h1 hf ⊢
  clear hq
  have hb : (q != 0) = true := bne_iff_ne.2 hf
  go_enter Try.func21, Try.ntmps21
  go_wp2_with (go_at_call 46; refine h1.mono ?_; rintro e w' ⟨rfl, rfl⟩)
  go_ret2
  exact ⟨rfl, rfl⟩
theorem blk_at {D : DM} (h : D.Ok) {i : Int} (h0 : 0 ≤ i) (h1 : i < D.L.length) : (D.blk i).size = 128 ∧ D.blk i = D.L[i.toNat]'(by omega) := by
  have e : D.blk i = D.L[i.toNat]'(by omega) := by
    unfold DM.blk
    rw [List.getD_eq_getElem?_getD, List.getElem?_eq_getElem (show i.toNat < D.L.length by omega)]
    rfl
  exact ⟨by rw [e]; exact h.sz _ (List.getElem_mem _), e⟩
theorem disk_reads {lb : Nat} (hl : w.heap[lb]? = some (.cells (dcells D.L).toArray 88 (0, 0))) (h : D.Ok) {i : Int} (h0 : 0 ≤ i) (h1 : i < D.L.length) : Kd.C (Kd.int .u8) w (some ⟨lb, i.toNat * 128, none⟩) (bytesOf (D.blk i)).length (bytesOf (D.blk i)) := by
  obtain ⟨hs, he⟩ := blk_at h h0 h1
  refine Kd.C_of_reads (d := (0 : Int)) (h1 := fun _ => rfl) ⟨rfl, by rw [bytesOf_length]; omega, fun _ => ⟨_, rfl, fun j hj => ?_⟩⟩
  rw [bytesOf_length] at hj
  have ha : (⟨lb, i.toNat * 128, none⟩ : Addr).add j = ⟨lb, i.toNat * 128 + j, none⟩ := by unfold Addr.add; split <;> simp_all
  rw [ha, blk_cell hl, List.getElem?_toArray, dcells_at D.L h.sz i.toNat j (by omega) (by omega), ← he]
  unfold bc nums
  rw [List.getElem?_map, List.getElem?_eq_getElem (by rw [bytesOf_length]; omega)]
  simp [List.getD_eq_getElem?_getD, List.getElem?_eq_getElem (show j < (bytesOf (D.blk i)).length by rw [bytesOf_length]; omega)]

set_option maxHeartbeats 1000000 in
set_option maxRecDepth 100000 in
theorem read_calls (hd : DiskAt w F g D) (i : Int) (hf : D.fine i = 0) : Calls Try.prog 21 #[.pointer (some ⟨g, 0, none⟩), .int .i64 i] w fun e w' => ∃ v, e = .returned (.tuple #[v, .int .i64 0]) ∧ Kd.R (Kd.int .u8) 5 w' w.heap.size (fun _ => True) v (bytesOf (D.blk i)) ∧ v ≠ .slice none 0 0 ∧ Below w.heap.size w w' := by
  have h1 := fine_calls hd i
  rw [hf] at h1
  obtain ⟨hdn, h0, hlt⟩ := fine_0 hf
  obtain ⟨lb, _, _, h3, h4, h5⟩ := hd
  have c0 : w.cell? ⟨g, 0, none⟩ = some (.slice (some ⟨lb, 0, none⟩) D.L.length D.L.length) := (blk_cell h3 0).trans rfl
  have HR := Aside0.mk (disk_reads h4 h5 h0 hlt)
  have hl : (bytesOf (D.blk i)).length = 128 := by rw [bytesOf_length]; exact (blk_at h5 h0 hlt).1
  have HD := Aside0.mk h3
  have HL := Aside0.mk h4
  have H5 := Aside0.mk hl
  have hmax := d_len_max h5
  clear h3 h4 h5 hdn hf hl
  have b1 : decide (0 ≤ i) = true := decide_eq_true h0
  have b2 : decide (i < (D.L.length : Int)) = true := decide_eq_true hlt
  go_enter Try.func21, Try.ntmps21
  go_wp2_with (first | (go_at_call 46; refine h1.mono ?_; rintro e w' ⟨rfl, rfl⟩) | (go_at_call 47; refine (clone_n _ _ (bytesOf (D.blk i)) _ H5.out HR.out (by omega) (by omega)).mono ?_; rintro e w1 ⟨v, rfl, hv, hb, hn1, hn2⟩; have HV := Aside0.mk hv; have HB := Aside0.mk hb; have HN := Aside0.mk (hn2 (by simp)); clear hv hb hn1 hn2))
  go_ret2
  exact ⟨_, rfl, HV.out, HN.out, HB.out⟩

/-! ### Write -/
theorem write_no (hd : DiskAt w F g D) (i : Int) (v : Value) (hf : D.fine i ≠ 0) : Calls Try.prog 17 #[.pointer (some ⟨g, 0, none⟩), .int .i64 i, v] w fun e w' => e = .returned (.int .i64 (D.fine i)) ∧ w = w' := by
  have h1 := fine_calls hd i
  obtain ⟨q, hq⟩ : ∃ q, q = D.fine i := ⟨_, rfl⟩
  rw [← hq] at h1 hf ⊢
  clear hq
  have hb : (q != 0) = true := bne_iff_ne.2 hf
  go_enter Try.func17, Try.ntmps17
  go_wp2_with (go_at_call 46; refine h1.mono ?_; rintro e w' ⟨rfl, rfl⟩)
  go_ret
  exact ⟨rfl, rfl⟩
theorem write_len (hd : DiskAt w F g D) (i : Int) (A : Option Addr) (n c : Nat) (hf : D.fine i = 0) (hn : n ≠ 128) : Calls Try.prog 17 #[.pointer (some ⟨g, 0, none⟩), .int .i64 i, .slice A n c] w fun e w' => e = .returned (.int .i64 1) ∧ w = w' := by
  have h1 := fine_calls hd i
  rw [hf] at h1
  clear hf
  have hb : ((n : Int) != 128) = true := bne_iff_ne.2 (by omega)
  go_enter Try.func17, Try.ntmps17
  go_wp2_with (go_at_call 46; refine h1.mono ?_; rintro e w' ⟨rfl, rfl⟩)
  go_ret
  exact ⟨rfl, rfl⟩
theorem info_u8s : (Try.prog.info? 5).map (·.size) = some 1 := by kernel_rfl
theorem dcells_splice : ∀ (L : List ByteArray), (∀ s ∈ L, s.size = 128) → ∀ (i : Nat) (hi : i < L.length) (cs : List Value) (x : ByteArray), cs.length ≤ 128 → bc x = cs ++ (bc (L[i]'hi)).drop cs.length → splice (dcells L) (i * 128) cs = dcells (L.set i x) := by
  intro L
  induction L with
  | nil => intro _ i hi; simp at hi
  | cons s L ih =>
    intro h i hi cs x hc hx
    have hs : (bc s).length = 128 := by rw [bc_length, h s List.mem_cons_self]
    have e : dcells (s :: L) = bc s ++ dcells L := rfl
    cases i with
    | zero =>
      have e2 : dcells ((s :: L).set 0 x) = bc x ++ dcells L := rfl
      rw [e, e2, hx]
      unfold splice
      simp only [Nat.zero_mul, List.take_zero, List.nil_append, Nat.zero_add, List.getElem_cons_zero]
      rw [List.drop_append_of_le_length (by omega), List.append_assoc]
    | succ i =>
      have e2 : dcells ((s :: L).set (i + 1) x) = bc s ++ dcells (L.set i x) := rfl
      rw [e, e2, ← ih (fun y hy => h y (List.mem_cons_of_mem _ hy)) i (by simpa using hi) cs x hc (by simpa using hx)]
      unfold splice
      rw [show (i + 1) * 128 = (bc s).length + i * 128 by rw [hs]; omega, List.take_length_add_append, List.append_assoc, show (bc s).length + i * 128 + cs.length = (bc s).length + (i * 128 + cs.length) by omega, List.drop_length_add_append]
theorem set_ok {L : List ByteArray} (h : ∀ s ∈ L, s.size = 128) (i : Nat) (x : ByteArray) (hx : x.size = 128) : ∀ s ∈ L.set i x, s.size = 128 := by
  intro s hs
  rcases List.mem_or_eq_of_mem_set hs with h1 | h1
  · exact h s h1
  · rw [h1]; exact hx
theorem torn_size {s o : ByteArray} (hs : s.size = 128) (ho : o.size = 128) {t : Nat} (ht : t ≤ 128) : (s.extract 0 t ++ o.extract t 128).size = 128 := by
  rw [ByteArray.size_append, ByteArray.size_extract, ByteArray.size_extract]
  omega
theorem torn_bc {s o : ByteArray} (hs : s.size = 128) (ho : o.size = 128) {t : Nat} (ht : t ≤ 128) : bc (s.extract 0 t ++ o.extract t 128) = (bc s).take t ++ (bc o).drop ((bc s).take t).length := by
  rw [bc_append, bc_extract, bc_extract, List.drop_zero, List.length_take, bc_length, hs, Nat.min_eq_left ht]
  congr 2
  rw [List.take_of_length_le (by rw [bc_length]; omega)]

set_option maxHeartbeats 1000000 in
set_option maxRecDepth 100000 in
theorem write_torn {w0 : World} (hB : Below w0.heap.size w0 w) (hF : ∀ k, F k → w0.heap.size ≤ k) (hd : DiskAt w F g D) (i : Int) (A : Option Addr) (c : Nat) (s : ByteArray) (hs : s.size = 128) (hr : ∀ W, Kept w W F → Kd.C (Kd.int .u8) W A 128 (bytesOf s)) (hf : D.fine i = 0) (hl : D.left = 0) :
    Calls Try.prog 17 #[.pointer (some ⟨g, 0, none⟩), .int .i64 i, .slice A 128 c] w fun e w' => e = .returned (.int .i64 30) ∧ DiskAt w' F g (D.write i s).1 ∧ Below w0.heap.size w0 w' ∧ Kept w w' F := by
  have h1 := fine_calls hd i
  rw [hf] at h1
  obtain ⟨hdn, h0, hlt⟩ := fine_0 hf
  obtain ⟨lb, hFg, hFl, h3, h4, h5⟩ := hd
  have hne : lb ≠ g := blk_ne h4 h3 (by decide)
  have c0 : w.cell? ⟨g, 0, none⟩ = some (.slice (some ⟨lb, 0, none⟩) D.L.length D.L.length) := (blk_cell h3 0).trans rfl
  have c1 : w.cell? ⟨g, 1, none⟩ = some (.int .i64 0) := (blk_cell h3 1).trans (by rw [← hl]; rfl)
  have c2 : w.cell? ⟨g, 2, none⟩ = some (.int .i64 D.torn) := (blk_cell h3 2).trans rfl
  have c3 : w.cell? ⟨g, 3, none⟩ = some (.bool false) := (blk_cell h3 3).trans (by rw [← hdn]; rfl)
  have f3 : w.frozen? ⟨g, 3, none⟩ = false := blk_frozen h3 3
  have HD := Aside0.mk h3
  have HL := Aside0.mk h4
  have H5 := Aside0.mk h5
  have HR := Aside0.mk hr
  have HS := Aside0.mk hs
  have HB := Aside0.mk hB
  have HE := Aside0.mk hne
  have HG := Aside0.mk hFg
  have HH := Aside0.mk hFl
  have HF := Aside0.mk hF
  have hmax := d_len_max h5
  have ht1 := h5.t1
  have ht2 := h5.t2
  obtain ⟨tn, htn⟩ : ∃ tn, tn = D.torn := ⟨_, rfl⟩
  rw [← htn] at ht1 ht2 c2
  have HT := Aside0.mk htn
  have HX := Aside0.mk (And.intro hdn (And.intro hf hl))
  have HI := Aside0.mk (And.intro h0 hlt)
  clear h3 h4 h5 hdn hf hr hs htn hl hB hne hFg hFl hF
  have b1 : decide (0 ≤ i) = true := decide_eq_true h0
  have b2 : decide (i < (D.L.length : Int)) = true := decide_eq_true hlt
  go_enter Try.func17, Try.ntmps17
  go_wp2_with (first | (go_at_call 46; refine h1.mono ?_; rintro e w' ⟨rfl, rfl⟩) | ((with_reducible refine gate_builtin (b := .copy) (xs := #[.tmp 39, .tmp 40]) rfl ?_); refine copy_event rfl (.tmp 39) (.tmp 40) 35 35 rfl 5 Try.underlying35 info_u8s _ _ _ _ _ _ rfl rfl lb (i.toNat * 128) (dcells D.L) 88 (blk_far HL.out HE.out _) ((bc s).take tn.toNat) ?cn ?cp ?cf ?co w0.heap.size w0 ?cb ?cg ?_; (case cn => have := HS.out; rw [List.length_take, bc_length]; show min _ _ = min _ _; omega); (case cp => intro _; refine ⟨rfl, ?_⟩; obtain ⟨ad, e1, e2⟩ := cells_of_C (HR.out _ ((Kept.refl w F).setCell (p := ⟨g, 3, none⟩) (.inl HG.out) _)) (by omega); exact ⟨ad, e1, fun j v hv => e2 j v (by rw [List.getElem?_take] at hv; split at hv; exact hv; cases hv)⟩); (case cf => have := H5.out; rw [dcells_length _ this.sz, List.length_take, bc_length, HS.out]; omega); (case co => exact fun v hv => bc_one s v (List.mem_of_mem_take hv)); (case cb => exact below_set HB.out (HF.out g HG.out)); (case cg => exact HF.out lb HH.out); intro w1 hl1 hb1 hk1; have hg1 := blk_kept (blk_set HD.out 3 (.bool true)) hk1 (fun h => HE.out h.symm); have c3' : w1.cell? ⟨g, 3, none⟩ = some (.bool true) := (blk_cell hg1 3).trans rfl; have HL1 := Aside0.mk hl1; have HB1 := Aside0.mk hb1; have HK1 := Aside0.mk hk1; have HG1 := Aside0.mk hg1; clear hl1 hb1 hk1 hg1))
  go_ret
  have hok := H5.out
  obtain ⟨hq0, hq1⟩ := HI.out
  obtain ⟨hz1, hz2⟩ := blk_at hok hq0 hq1
  have hw : D.write i s = ({ D with L := D.L.set i.toNat (s.extract 0 D.torn.toNat ++ (D.blk i).extract D.torn.toNat 128), down := true }, 30) := by
    unfold DM.write
    rw [if_neg (by rw [HX.out.2.1]; simp), if_neg (by rw [HS.out]; simp), if_pos HX.out.2.2]
  obtain rfl := HT.out
  have htt : D.torn.toNat ≤ 128 := by omega
  have hsp := dcells_splice D.L hok.sz i.toNat (by omega) ((bc s).take D.torn.toNat) (s.extract 0 D.torn.toNat ++ (D.blk i).extract D.torn.toNat 128) (by rw [List.length_take]; omega) (by rw [torn_bc HS.out hz1 htt, hz2])
  refine ⟨rfl, ?_, HB1.out, ?_⟩
  · rw [hw]
    refine ⟨lb, HG.out, HH.out, ?_, ?_, ?_⟩
    · have := HG1.out
      simpa using this
    · have := HL1.out
      rw [hsp] at this
      exact this
    · exact ⟨set_ok hok.sz _ _ (torn_size HS.out hz1 htt), by simpa using hok.n1, by simpa using hok.n2, hok.l1, hok.l2, hok.t1, hok.t2⟩
  · exact ((Kept.refl w F).setCell (p := ⟨g, 3, none⟩) (.inl HG.out) _).then_ HK1.out (fun k hk => .inl (by rw [hk]; exact HH.out))

theorem write_1 {s : ByteArray} {i : Int} (hs : s.size = 128) (hf : D.fine i = 0) (hl : D.left ≠ 0) : D.write i s = ({ D with L := D.L.set i.toNat s, left := if D.left > 0 then D.left - 1 else D.left }, 0) := by
  unfold DM.write
  rw [if_neg (by rw [hf]; simp), if_neg (by rw [hs]; simp), if_neg hl]

theorem write_fin {w0 w1 : World} {lb : Nat} {i : Int} {s : ByteArray} (hs : s.size = 128) (hf : D.fine i = 0) (hok : D.Ok) (hne : lb ≠ g) (hFg : F g) (hFl : F lb) (hF : ∀ k, F k → w0.heap.size ≤ k) (q : Int) (hq1 : -1 ≤ q) (hq2 : q ≤ 9223372036854775807)
    (hg1 : w1.heap[g]? = some (.cells #[.slice (some ⟨lb, 0, none⟩) D.L.length D.L.length, .int .i64 D.left, .int .i64 D.torn, .bool D.down] 86 (0, 0))) (hl1 : w1.heap[lb]? = some (.cells (splice (dcells D.L) (i.toNat * 128) (bc s)).toArray 88 (0, 0)))
    (hb1 : Below w0.heap.size w0 w1) (hk1 : Kept w w1 (fun k => k = lb)) :
    DiskAt (w1.setCell ⟨g, 1, none⟩ (.int .i64 q)) F g { D with L := D.L.set i.toNat s, left := q } ∧ Below w0.heap.size w0 (w1.setCell ⟨g, 1, none⟩ (.int .i64 q)) ∧ Kept w (w1.setCell ⟨g, 1, none⟩ (.int .i64 q)) F := by
  obtain ⟨_, h0, hlt⟩ := fine_0 hf
  have hsp := dcells_splice D.L hok.sz i.toNat (by omega) (bc s) s (by rw [bc_length]; omega) (by rw [List.drop_of_length_le (by rw [bc_length, bc_length, hok.sz _ (List.getElem_mem _), hs]; omega), List.append_nil])
  refine ⟨⟨lb, hFg, hFl, ?_, ?_, ?_⟩, below_set hb1 (hF g hFg), ?_⟩
  · have := blk_set hg1 1 (.int .i64 q)
    simpa using this
  · have := blk_far hl1 (p := ⟨g, 1, none⟩) hne (.int .i64 q)
    rw [hsp] at this
    exact this
  · exact ⟨set_ok hok.sz _ _ hs, by simpa using hok.n1, by simpa using hok.n2, hq1, hq2, hok.t1, hok.t2⟩
  · exact (((Kept.refl w F).then_ hk1 (fun k hk => .inl (by rw [hk]; exact hFl)))).setCell (p := ⟨g, 1, none⟩) (.inl hFg) _

set_option maxHeartbeats 1000000 in
set_option maxRecDepth 100000 in
theorem write_ok {w0 : World} (hB : Below w0.heap.size w0 w) (hF : ∀ k, F k → w0.heap.size ≤ k) (hd : DiskAt w F g D) (i : Int) (A : Option Addr) (c : Nat) (s : ByteArray) (hs : s.size = 128) (hr : ∀ W, Kept w W F → Kd.C (Kd.int .u8) W A 128 (bytesOf s)) (hf : D.fine i = 0) (hl : D.left ≠ 0) :
    Calls Try.prog 17 #[.pointer (some ⟨g, 0, none⟩), .int .i64 i, .slice A 128 c] w fun e w' => e = .returned (.int .i64 0) ∧ DiskAt w' F g (D.write i s).1 ∧ Below w0.heap.size w0 w' ∧ Kept w w' F := by
  have h1 := fine_calls hd i
  rw [hf] at h1
  obtain ⟨hdn, h0, hlt⟩ := fine_0 hf
  obtain ⟨lb, hFg, hFl, h3, h4, h5⟩ := hd
  have hne : lb ≠ g := blk_ne h4 h3 (by decide)
  have c0 : w.cell? ⟨g, 0, none⟩ = some (.slice (some ⟨lb, 0, none⟩) D.L.length D.L.length) := (blk_cell h3 0).trans rfl
  have c1 : w.cell? ⟨g, 1, none⟩ = some (.int .i64 D.left) := (blk_cell h3 1).trans rfl
  have HD := Aside0.mk h3
  have HL := Aside0.mk h4
  have H5 := Aside0.mk h5
  have HR := Aside0.mk hr
  have HS := Aside0.mk hs
  have HB := Aside0.mk hB
  have HE := Aside0.mk hne
  have HG := Aside0.mk hFg
  have HH := Aside0.mk hFl
  have HF := Aside0.mk hF
  have hmax := d_len_max h5
  have ht1 := h5.l1
  have ht2 := h5.l2
  obtain ⟨lf, hlf⟩ : ∃ lf, lf = D.left := ⟨_, rfl⟩
  have HT := Aside0.mk hlf
  rw [← hlf] at ht1 ht2 c1 hl
  have HX := Aside0.mk (And.intro hdn (And.intro hf hl))
  have HI := Aside0.mk (And.intro h0 hlt)
  have b3 : (lf == 0) = false := beq_eq_false_iff_ne.2 hl
  have hpos : 0 < lf ∨ lf = -1 := by omega
  clear h3 h4 h5 hdn hf hr hs hlf hl hB hne hFg hFl hF
  have b1 : decide (0 ≤ i) = true := decide_eq_true h0
  have b2 : decide (i < (D.L.length : Int)) = true := decide_eq_true hlt
  have hw := write_1 (D := D) (s := s) (i := i) HS.out HX.out.2.1 (by rw [← HT.out]; exact HX.out.2.2)
  have HW := Aside0.mk hw
  clear hw
  rcases hpos with hp | hp
  · have b4 : decide (lf - 1 < -1) = false := decide_eq_false (by omega)
    have b5 : decide (lf - 1 ≤ -1) = false := decide_eq_false (by omega)
    go_enter Try.func17, Try.ntmps17
    go_wp2_with (first | (go_at_call 46; refine h1.mono ?_; rintro e w' ⟨rfl, rfl⟩) | ((with_reducible refine gate_builtin (b := .copy) (xs := #[.tmp 39, .tmp 40]) rfl ?_); refine copy_event rfl (.tmp 39) (.tmp 40) 35 35 rfl 5 Try.underlying35 info_u8s _ _ _ _ _ _ rfl rfl lb (i.toNat * 128) (dcells D.L) 88 HL.out (bc s) ?cn ?cp ?cf ?co w0.heap.size w0 HB.out (HF.out lb HH.out) ?_; (case cn => have := HS.out; rw [bc_length]; show _ = min _ _; omega); (case cp => intro _; refine ⟨rfl, ?_⟩; exact cells_of_C (HR.out _ (Kept.refl w F)) (by omega)); (case cf => have := H5.out; rw [dcells_length _ this.sz, bc_length, HS.out]; omega); (case co => exact bc_one s); intro w1 hl1 hb1 hk1; have hg1 := blk_kept HD.out hk1 (fun h => HE.out h.symm); have c3' : w1.cell? ⟨g, 3, none⟩ = some (.bool false) := (blk_cell hg1 3).trans (by rw [← HX.out.1]; rfl); have c1' : w1.cell? ⟨g, 1, none⟩ = some (.int .i64 lf) := (blk_cell hg1 1).trans (by rw [HT.out]; rfl); have f1' : w1.frozen? ⟨g, 1, none⟩ = false := blk_frozen hg1 1; have HL1 := Aside0.mk hl1; have HB1 := Aside0.mk hb1; have HK1 := Aside0.mk hk1; have HG1 := Aside0.mk hg1; clear hl1 hb1 hk1 hg1))
    go_ret
    have hz := write_fin (q := lf - 1) (i := i) HS.out HX.out.2.1 H5.out HE.out HG.out HH.out HF.out (by omega) (by omega) HG1.out HL1.out HB1.out HK1.out
    rw [HW.out]
    refine ⟨rfl, ?_, hz.2.1, hz.2.2⟩
    have hz1 := hz.1
    show DiskAt _ _ _ _
    rw [if_pos (by rw [← HT.out]; exact hp), ← HT.out]
    exact hz1
  · subst hp
    go_enter Try.func17, Try.ntmps17
    go_wp2_with (first | (go_at_call 46; refine h1.mono ?_; rintro e w' ⟨rfl, rfl⟩) | ((with_reducible refine gate_builtin (b := .copy) (xs := #[.tmp 39, .tmp 40]) rfl ?_); refine copy_event rfl (.tmp 39) (.tmp 40) 35 35 rfl 5 Try.underlying35 info_u8s _ _ _ _ _ _ rfl rfl lb (i.toNat * 128) (dcells D.L) 88 HL.out (bc s) ?cn ?cp ?cf ?co w0.heap.size w0 HB.out (HF.out lb HH.out) ?_; (case cn => have := HS.out; rw [bc_length]; show _ = min _ _; omega); (case cp => intro _; refine ⟨rfl, ?_⟩; exact cells_of_C (HR.out _ (Kept.refl w F)) (by omega)); (case cf => have := H5.out; rw [dcells_length _ this.sz, bc_length, HS.out]; omega); (case co => exact bc_one s); intro w1 hl1 hb1 hk1; have hg1 := blk_kept HD.out hk1 (fun h => HE.out h.symm); have c3' : w1.cell? ⟨g, 3, none⟩ = some (.bool false) := (blk_cell hg1 3).trans (by rw [← HX.out.1]; rfl); have c1' : w1.cell? ⟨g, 1, none⟩ = some (.int .i64 (-1)) := (blk_cell hg1 1).trans (by rw [HT.out]; rfl); have f1' : w1.frozen? ⟨g, 1, none⟩ = false := blk_frozen hg1 1; have HL1 := Aside0.mk hl1; have HB1 := Aside0.mk hb1; have HK1 := Aside0.mk hk1; have HG1 := Aside0.mk hg1; clear hl1 hb1 hk1 hg1))
    go_ret
    have hz := write_fin (q := -1) (i := i) HS.out HX.out.2.1 H5.out HE.out HG.out HH.out HF.out (by omega) (by omega) HG1.out HL1.out HB1.out HK1.out
    rw [HW.out]
    refine ⟨rfl, ?_, hz.2.1, hz.2.2⟩
    have hz1 := hz.1
    show DiskAt _ _ _ _
    rw [if_neg (by rw [← HT.out]; omega), ← HT.out]
    exact hz1

/-! ### Stop, Restart -/
theorem restart_calls {w0 : World} (hB : Below w0.heap.size w0 w) (hF : ∀ k, F k → w0.heap.size ≤ k) (hd : DiskAt w F g D) : Calls Try.prog 23 #[.pointer (some ⟨g, 0, none⟩)] w fun e w' => e = .returned (.tuple #[]) ∧ DiskAt w' F g D.restart ∧ Below w0.heap.size w0 w' ∧ Kept w w' F := by
  obtain ⟨lb, hFg, hFl, h3, h4, h5⟩ := hd
  have hne : lb ≠ g := blk_ne h4 h3 (by decide)
  have c1 : w.cell? ⟨g, 1, none⟩ = some (.int .i64 D.left) := (blk_cell h3 1).trans rfl
  have c3 : w.cell? ⟨g, 3, none⟩ = some (.bool D.down) := (blk_cell h3 3).trans rfl
  have f1 : w.frozen? ⟨g, 1, none⟩ = false := blk_frozen h3 1
  have f3 : w.frozen? ⟨g, 3, none⟩ = false := blk_frozen h3 3
  have HD := Aside0.mk h3
  have HL := Aside0.mk h4
  have H5 := Aside0.mk h5
  have HX := Aside0.mk (And.intro hne (And.intro hFg (And.intro hFl (And.intro hF hB))))
  clear h3 h4 h5 hne hFg hFl hF hB
  go_enter Try.func23, Try.ntmps23
  go_wp2
  go_end0
  obtain ⟨hne, hFg, hFl, hF, hB⟩ := HX.out
  have hok := H5.out
  refine ⟨rfl, ⟨lb, hFg, hFl, ?_, ?_, ⟨hok.sz, hok.n1, hok.n2, Int.le_refl _, by show (-1 : Int) ≤ _; omega, hok.t1, hok.t2⟩⟩, ?_, ?_⟩
  · have := blk_set (blk_set HD.out 1 (.int .i64 (-1))) 3 (.bool false)
    simpa [DM.restart] using this
  · exact blk_far (blk_far HL.out (p := ⟨g, 1, none⟩) hne _) (p := ⟨g, 3, none⟩) hne _
  · exact below_set (below_set hB (hF g hFg)) (hF g hFg)
  · exact ((Kept.refl w F).setCell (p := ⟨g, 1, none⟩) (.inl hFg) _).setCell (p := ⟨g, 3, none⟩) (.inl hFg) _

theorem stop_fin {w0 : World} {lb : Nat} {a b : Int} (x y : Int) (hx : x = (D.stop a b).left) (hy : y = (D.stop a b).torn) (ha : a ≤ 9223372036854775807) (hok : D.Ok) (h3 : w.heap[g]? = some (.cells #[.slice (some ⟨lb, 0, none⟩) D.L.length D.L.length, .int .i64 D.left, .int .i64 D.torn, .bool D.down] 86 (0, 0))) (h4 : w.heap[lb]? = some (.cells (dcells D.L).toArray 88 (0, 0)))
    (hx0 : lb ≠ g ∧ F g ∧ F lb ∧ (∀ k, F k → w0.heap.size ≤ k) ∧ Below w0.heap.size w0 w) :
    DiskAt ((w.setCell ⟨g, 1, none⟩ (.int .i64 x)).setCell ⟨g, 2, none⟩ (.int .i64 y)) F g (D.stop a b) ∧ Below w0.heap.size w0 ((w.setCell ⟨g, 1, none⟩ (.int .i64 x)).setCell ⟨g, 2, none⟩ (.int .i64 y)) ∧ Kept w ((w.setCell ⟨g, 1, none⟩ (.int .i64 x)).setCell ⟨g, 2, none⟩ (.int .i64 y)) F := by
  obtain ⟨hne, hFg, hFl, hF, hB⟩ := hx0
  refine ⟨⟨lb, hFg, hFl, ?_, ?_, ⟨hok.sz, hok.n1, hok.n2, ?_, ?_, ?_, ?_⟩⟩, ?_, ?_⟩
  · have := blk_set (blk_set h3 1 (.int .i64 x)) 2 (.int .i64 y)
    rw [← hx, ← hy]
    simpa [DM.stop] using this
  · exact blk_far (blk_far h4 (p := ⟨g, 1, none⟩) hne _) (p := ⟨g, 2, none⟩) hne _
  · show -1 ≤ (if a < 0 then (-1 : Int) else a); split <;> omega
  · show (if a < 0 then (-1 : Int) else a) ≤ _; split <;> omega
  · show 0 ≤ (if b < 0 then (0 : Int) else if b > 128 then 128 else b); repeat' split
    all_goals omega
  · show (if b < 0 then (0 : Int) else if b > 128 then 128 else b) ≤ 128; repeat' split
    all_goals omega
  · exact below_set (below_set hB (hF g hFg)) (hF g hFg)
  · exact ((Kept.refl w F).setCell (p := ⟨g, 1, none⟩) (.inl hFg) _).setCell (p := ⟨g, 2, none⟩) (.inl hFg) _

set_option maxHeartbeats 1000000 in
set_option maxRecDepth 100000 in
theorem stop_calls {w0 : World} (hB : Below w0.heap.size w0 w) (hF : ∀ k, F k → w0.heap.size ≤ k) (hd : DiskAt w F g D) (a b : Int) (ha : a ≤ 9223372036854775807) : Calls Try.prog 19 #[.pointer (some ⟨g, 0, none⟩), .int .i64 a, .int .i64 b] w fun e w' => e = .returned (.tuple #[]) ∧ DiskAt w' F g (D.stop a b) ∧ Below w0.heap.size w0 w' ∧ Kept w w' F := by
  obtain ⟨lb, hFg, hFl, h3, h4, h5⟩ := hd
  have hne : lb ≠ g := blk_ne h4 h3 (by decide)
  have c1 : w.cell? ⟨g, 1, none⟩ = some (.int .i64 D.left) := (blk_cell h3 1).trans rfl
  have c2 : w.cell? ⟨g, 2, none⟩ = some (.int .i64 D.torn) := (blk_cell h3 2).trans rfl
  have f1 : w.frozen? ⟨g, 1, none⟩ = false := blk_frozen h3 1
  have f2 : w.frozen? ⟨g, 2, none⟩ = false := blk_frozen h3 2
  have HD := Aside0.mk h3
  have HL := Aside0.mk h4
  have H5 := Aside0.mk h5
  have HX := Aside0.mk (And.intro hne (And.intro hFg (And.intro hFl (And.intro hF hB))))
  have HA := Aside0.mk ha
  clear h3 h4 h5 hne hFg hFl hF hB ha
  go_enter Try.func19, Try.ntmps19
  go_wp2
  all_goals go_end0
  all_goals refine ⟨rfl, stop_fin _ _ ?_ ?_ HA.out H5.out HD.out HL.out HX.out⟩
  all_goals unfold DM.stop
  all_goals dsimp only
  all_goals repeat' split
  all_goals omega

/-! ### New -/
def zero128 : ByteArray := ⟨Array.replicate 128 0⟩
theorem info_blk : (Try.prog.info? 88).map (fun i => (i.zero.map Value.cells, i.size, i.bytes)) = some (some (Array.replicate 128 (.int .u8 0)), 128, 128) := by kernel_rfl
theorem bc_zero : bc zero128 = List.replicate 128 (.int .u8 0) := by
  unfold bc
  rw [show bytesOf zero128 = List.replicate 128 0 from by decide +kernel]
  simp [nums]
theorem dcells_zero : ∀ n : Nat, dcells (List.replicate n zero128) = List.replicate (n * 128) (.int .u8 0) := by
  intro n
  induction n with
  | zero => rfl
  | succ n ih =>
    have e : dcells (List.replicate (n + 1) zero128) = bc zero128 ++ dcells (List.replicate n zero128) := rfl
    rw [e, ih, bc_zero, List.replicate_append_replicate]
    congr 1
    omega
theorem made_zero (m : Nat) : madeCells (Array.replicate 128 (Value.int .u8 0)) m = (List.replicate m (Value.int .u8 0)).toArray := by
  apply Array.ext
  · simp [madeCells]
  · intro i h1 h2
    have h3 : i % 128 < 128 := Nat.mod_lt _ (by omega)
    simp [madeCells, h3]
theorem make_blks (n : Nat) (h2 : n ≤ 65536) (W : World) : (Instr.makeSlice 84 (.int .i64 (n : Int)) (.int .i64 (n : Int))).run Try.prog W = .ok (.slice (some ⟨W.heap.size, 0, none⟩) n n) (W.alloc (.cells (dcells (List.replicate n zero128)).toArray 88)) := by
  obtain ⟨i, hi, hzz⟩ := Option.map_eq_some_iff.1 info_blk
  simp only [Prod.mk.injEq] at hzz
  obtain ⟨hz0, hz1, hz2⟩ := hzz
  obtain ⟨z, hz, hc⟩ := Option.map_eq_some_iff.1 hz0
  have h := run_make (P := Try.prog) W 84 88 i z Try.underlying84 hi hz .i64 .i64 (n : Int) (n : Int) (by omega) (by omega) (by rw [hz2]; omega) (by omega)
  rw [hc, hz1, made_zero, Int.toNat_natCast, ← dcells_zero] at h
  exact h

set_option maxHeartbeats 1000000 in
set_option maxRecDepth 100000 in
theorem new_calls (n : Nat) (h1 : 1 ≤ n) (h2 : n ≤ 65536) : Calls Try.prog 14 #[.int .i64 n] w fun e w' => ∃ g, e = .returned (.tuple #[.pointer (some ⟨g, 0, none⟩), .int .i64 0]) ∧ DiskAt w' (fun k => w.heap.size ≤ k) g ⟨List.replicate n zero128, -1, 0, false⟩ ∧ Below w.heap.size w w' := by
  have b1 : decide ((n : Int) < 1) = false := decide_eq_false (by omega)
  have b2 : decide (65536 < (n : Int)) = false := decide_eq_false (by omega)
  have hmk := make_blks n h2
  obtain ⟨L, hL⟩ : ∃ L, L = List.replicate n zero128 := ⟨_, rfl⟩
  rw [← hL] at hmk ⊢
  have HL := Aside0.mk hL
  clear hL
  go_enter Try.func14, Try.ntmps14
  go_wp2
  go_ret2
  have hl := HL.out
  have hb1 : ((w.alloc (.cells (dcells L).toArray 88)).alloc (.cells #[.slice (some ⟨w.heap.size, 0, none⟩) n n, .int .i64 (-1), .int .i64 0, .bool false] 86)).heap[w.heap.size]? = some (.cells (dcells L).toArray 88 (0, 0)) := by
    rw [Below.heap_alloc _ _ _ (by simp)]
    exact blk_new w _
  have hb2 : ((w.alloc (.cells (dcells L).toArray 88)).alloc (.cells #[.slice (some ⟨w.heap.size, 0, none⟩) n n, .int .i64 (-1), .int .i64 0, .bool false] 86)).heap[w.heap.size + 1]? = some (.cells #[.slice (some ⟨w.heap.size, 0, none⟩) n n, .int .i64 (-1), .int .i64 0, .bool false] 86 (0, 0)) := by
    have := blk_new (w.alloc (.cells (dcells L).toArray 88)) (.cells #[.slice (some ⟨w.heap.size, 0, none⟩) n n, .int .i64 (-1), .int .i64 0, .bool false] 86)
    simpa using this
  have hlen : L.length = n := by rw [hl, List.length_replicate]
  refine ⟨_, rfl, ⟨w.heap.size, by show _ ≤ _; omega, Nat.le_refl _, ?_, hb1, ?_⟩, (((Below.refl _ _).alloc (Nat.le_refl _) _).alloc (by simp) _)⟩
  · simp only [hlen]
    exact hb2
  · refine ⟨fun s hs => ?_, by simp only [hlen]; exact h1, by simp only [hlen]; exact h2, Int.le_refl _, by show (-1 : Int) ≤ _; omega, Int.le_refl _, by show (0 : Int) ≤ _; omega⟩
    have hs' : s ∈ L := hs
    rw [hl] at hs'
    rw [List.eq_of_mem_replicate hs']
    rfl
end
end Go.Proofs.Ytnajdnhgoakgaaa.Blk
