/- 'same': records, and those that were told. -/
import Derived.Test.YtnajdnhgoakgaaaWalI
namespace Go.Proofs.Ytnajdnhgoakgaaa.Wal
open Go.RowKit Go.Proofs.YtnajdnhgoakgaaaW.PrintWords Go.Proofs.YtnajdnhgoakgaaaW.PrintLast Go.Proofs.YtnajdnhgoakgaaaW.PrintMore Go.Proofs.Ytnajdnhgoakgaaa.Mem Go.Proofs.Ytnajdnhgoakgaaa.PWal Go.Proofs.Ytnajdnhgoakgaaa.Blk
set_option linter.unusedVariables false
set_option linter.unusedSimpArgs false
set_option maxRecDepth 8000
set_option maxHeartbeats 4000000
theorem conv_str {w wd : World} {A : Option Addr} {c n : Nat} {s : ByteArray} (hn : n = (bytesOf s).length) (h : Kd.C (Kd.int .u8) w A (bytesOf s).length (bytesOf s)) (hb : Below w.heap.size w wd) :
    (convert 35 9 (.slice A n c)).run Try.prog wd = .ok (.string s) wd := by
  subst hn
  have hx := Kd.C_string (P := Try.prog) (w := wd) (src := 35) (dst := 9) (e := 5) (c := c) Try.underlying35 Try.underlying5 Try.underlying9 (Kd.C_below h hb)
  rw [str_bytesOf] at hx
  exact hx
theorem conv_nums {w wd : World} {A : Option Addr} {c n : Nat} {l : List Int} (hy : Byt l) (hn : n = l.length) (h : Kd.C (Kd.int .u8) w A l.length l) (hb : Below w.heap.size w wd) :
    (convert 35 9 (.slice A n c)).run Try.prog wd = .ok (.string (strOfNums l)) wd := by
  have e := bytesOf_str hy
  exact conv_str (by rw [e]; exact hn) (by rw [e]; exact h) hb
section
variable {w : World}
theorem same_calls {l : List (List Int)} {m : List ByteArray} {base base2 : Nat} {ok ok2 : Nat → Prop} {v u : Value} (hl : KR.R 35 w base ok v l) (hm : Kd.R Kd.string 9 w base2 ok2 u m) (he : l = m.map bytesOf) (hn : m.length ≤ 65536) :
    Calls Try.prog 37 #[v, u] w fun e w' => e = .returned (.bool true) ∧ Below w.heap.size w w' := by
  obtain ⟨A, c, rfl, _, hC⟩ := Kd.R_reads hl
  obtain ⟨B, d, rfl, _, hM⟩ := Kd.R_reads hm
  have hll : l.length = m.length := by rw [he, List.length_map]
  have HX := Aside0.mk (And.intro hC (And.intro hM he))
  obtain ⟨n, hnn⟩ : ∃ n, n = m.length := ⟨_, rfl⟩
  have HN := Aside0.mk (And.intro hnn hll)
  rw [hll, ← hnn]
  rw [← hnn] at hn
  have dq1 : ((n : Int) != (n : Int)) = false := by simp
  clear hC hM he hll hnn hl hm
  go_enter Try.func37, Try.ntmps37
  go_wp2
  go_loopg [5] n (fun q v5 wr => ∃ i : Nat, v5 = .int .i64 i ∧ q + i = n ∧ Aside0 (Below w.heap.size w wr))
  case atStart => exact ⟨0, rfl, by omega, ⟨Below.refl _ _⟩⟩
  case round =>
    obtain ⟨i, rfl, hq, hI⟩ := hrel
    by_cases hlt : i < n
    · have d2 : decide ((i : Int) < (n : Int)) = true := decide_eq_true (by omega)
      have d2n : decide (i < n) = true := decide_eq_true (by omega)
      obtain ⟨ad, A0, c0, rfl, hcell0, hc0, hC0⟩ := at_L1 HX.out.1 (i : Int) (by omega) (by rw [HN.out.2, ← HN.out.1]; omega)
      obtain ⟨ae, rfl, hst0⟩ := Kd.at_string HX.out.2.1 (i : Int) (by omega) (by rw [← HN.out.1]; omega)
      obtain ⟨X, hX⟩ : ∃ X, X = rdOf ByteArray.empty m (i : Int) := ⟨_, rfl⟩
      rw [← hX] at hst0
      have hr : rd_L1 l (i : Int) = bytesOf X := by
        have hi : i < m.length := by rw [← HN.out.1]; exact hlt
        rw [hX, HX.out.2.2]
        unfold rd_L1 rdOf
        rw [Int.toNat_natCast, List.getD_eq_getElem?_getD, List.getD_eq_getElem?_getD, List.getElem?_map, List.getElem?_eq_getElem hi]
        rfl
      rw [hr] at hcell0 hC0
      have HXX := Aside0.mk (And.intro hcell0 (And.intro hst0 hC0))
      obtain ⟨k, hk⟩ : ∃ k, k = (bytesOf X).length := ⟨_, rfl⟩
      have hall : ∀ W, Below w.heap.size w W → W.cell? (ad.add i) = some (.slice A0 k c0) ∧ W.cell? (ae.add i) = some (.string X) ∧ (convert 35 9 (.slice A0 k c0)).run Try.prog W = .ok (.string X) W := by
        intro W hW
        exact ⟨cell_below (by rw [hk]; exact HXX.out.1) hW, cell_below HXX.out.2.1 hW, conv_str hk HXX.out.2.2 hW⟩
      have HA := Aside0.mk hall
      have hxx : (X.toList != X.toList) = false := by simp
      clear hall hcell0 hst0 hC0 hX hr hk hc0
      go_upto_region 6 with (fail)
      obtain ⟨wd, hwd⟩ : ∃ wd, wd = wr.drew := ⟨_, rfl⟩
      have hbd : Below w.heap.size w wd := by rw [hwd]; exact below_step hI.out (below_drew1 (Below.refl _ _))
      have HD := Aside0.mk hbd
      clear hbd
      refine start_ (n := 10) (S := fun w' => Below w.heap.size w w') (ds := []) #[false, false, false, false, false, false, false, false, false, false] (by kernel_rfl) rfl (by kernel_rfl) (by rw [← hwd]; exact HD.out) (fun hHeld => ?_)
      rw [← hwd] at hHeld ⊢
      clear hwd
      refine pure_ (i := 0) (N := some 17) (v := ?_) (a' := ?_) #[true, false, false, false, false, false, false, false, false, false] rfl rfl (by kernel_rfl) (fun _ _ _ h => h) (Or.inl ⟨by rfl, ?_⟩) ?_ ?_
      rotate_left
      · intro w'
        go_simp
        with_reducible rfl
      rotate_left
      · simp only [Act.put, List.setIfInBounds_toArray, List.set_cons_zero, List.set_cons_succ, i64_w, i32_w]
        rfl
      refine pure_ (i := 1) (N := some 18) (v := ?_) (a' := ?_) #[true, true, false, false, false, false, false, false, false, false] rfl rfl (by kernel_rfl) (fun _ _ _ h => h) (Or.inl ⟨by rfl, ?_⟩) ?_ ?_
      rotate_left
      · intro w'
        go_simp
        with_reducible rfl
      rotate_left
      · simp only [Act.put, List.setIfInBounds_toArray, List.set_cons_zero, List.set_cons_succ, i64_w, i32_w]
        rfl
      refine pure_ (i := 2) (N := some 19) (v := ?_) (a' := ?_) #[true, true, true, false, false, false, false, false, false, false] rfl rfl (by kernel_rfl) (fun _ _ _ h => h) (Or.inl ⟨by rfl, ?_⟩) ?_ ?_
      rotate_left
      · intro w'
        go_simp
        with_reducible rfl
      rotate_left
      · simp only [Act.put, List.setIfInBounds_toArray, List.set_cons_zero, List.set_cons_succ, i64_w, i32_w]
        rfl
      refine take_ (i := 3) (N := some 20) (v := ?_) (a' := ?_) #[true, true, true, true, false, false, false, false, false, false] rfl rfl (by kernel_rfl) (fun _ _ _ h => h) (Or.inl ⟨by rfl, ?_⟩) hHeld ?_ ?_
      rotate_left
      · rintro w' s0
        obtain ⟨b0, b1, b2⟩ := HA.out w' s0
        go_simp
        with_reducible rfl
      rotate_left
      · simp only [Act.put, List.setIfInBounds_toArray, List.set_cons_zero, List.set_cons_succ, i64_w, i32_w]
        rfl
      refine take_ (i := 4) (N := some 21) (v := ?_) (a' := ?_) #[true, true, true, true, true, false, false, false, false, false] rfl rfl (by kernel_rfl) (fun _ _ _ h => h) (Or.inl ⟨by rfl, ?_⟩) hHeld ?_ ?_
      rotate_left
      · rintro w' s0
        obtain ⟨b0, b1, b2⟩ := HA.out w' s0
        go_simp
        with_reducible rfl
      rotate_left
      · simp only [Act.put, List.setIfInBounds_toArray, List.set_cons_zero, List.set_cons_succ, i64_w, i32_w]
        rfl
      refine pure_ (i := 5) (N := some 22) (v := ?_) (a' := ?_) #[true, true, true, true, true, true, false, false, false, false] rfl rfl (by kernel_rfl) (fun _ _ _ h => h) (Or.inl ⟨by rfl, ?_⟩) ?_ ?_
      rotate_left
      · intro w'
        go_simp
        with_reducible rfl
      rotate_left
      · simp only [Act.put, List.setIfInBounds_toArray, List.set_cons_zero, List.set_cons_succ, i64_w, i32_w]
        rfl
      refine pure_ (i := 6) (N := some 23) (v := ?_) (a' := ?_) #[true, true, true, true, true, true, true, false, false, false] rfl rfl (by kernel_rfl) (fun _ _ _ h => h) (Or.inl ⟨by rfl, ?_⟩) ?_ ?_
      rotate_left
      · intro w'
        go_simp
        with_reducible rfl
      rotate_left
      · simp only [Act.put, List.setIfInBounds_toArray, List.set_cons_zero, List.set_cons_succ, i64_w, i32_w]
        rfl
      refine pure_ (i := 7) (N := some 24) (v := ?_) (a' := ?_) #[true, true, true, true, true, true, true, true, false, false] rfl rfl (by kernel_rfl) (fun _ _ _ h => h) (Or.inl ⟨by rfl, ?_⟩) ?_ ?_
      rotate_left
      · intro w'
        go_simp
        with_reducible rfl
      rotate_left
      · simp only [Act.put, List.setIfInBounds_toArray, List.set_cons_zero, List.set_cons_succ, i64_w, i32_w]
        rfl
      refine take_ (i := 8) (N := some 25) (v := ?_) (a' := ?_) #[true, true, true, true, true, true, true, true, true, false] rfl rfl (by kernel_rfl) (fun _ _ _ h => h) (Or.inl ⟨by rfl, ?_⟩) hHeld ?_ ?_
      rotate_left
      · rintro w' s0
        obtain ⟨b0, b1, b2⟩ := HA.out w' s0
        go_simp
        with_reducible rfl
      rotate_left
      · simp only [Act.put, List.setIfInBounds_toArray, List.set_cons_zero, List.set_cons_succ, i64_w, i32_w]
        rfl
      refine pure_ (i := 9) (N := some 26) (v := ?_) (a' := ?_) #[true, true, true, true, true, true, true, true, true, true] rfl rfl (by kernel_rfl) (fun _ _ _ h => h) (Or.inl ⟨by rfl, ?_⟩) ?_ ?_
      rotate_left
      · intro w'
        go_simp
        with_reducible rfl
      rotate_left
      · simp only [Act.put, List.setIfInBounds_toArray, List.set_cons_zero, List.set_cons_succ, i64_w, i32_w]
        rfl
      refine done_ (by kernel_rfl) ?_
      go_wp2
      go_roundg (n - (i + 1))
      case measure => omega
      case rel => exact ⟨i + 1, by go_num, by omega, HD⟩
    · have d2 : decide ((i : Int) < (n : Int)) = false := decide_eq_false (by omega)
      have d2n : decide (i < n) = false := decide_eq_false (by omega)
      go_wp2
      go_ret
      exact ⟨rfl, hI.out⟩
end
end Go.Proofs.Ytnajdnhgoakgaaa.Wal
