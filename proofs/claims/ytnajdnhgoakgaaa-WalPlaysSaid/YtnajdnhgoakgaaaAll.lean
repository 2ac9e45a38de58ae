/- The disk's Write and Read, whatever comes of them; all: a log's blocks. -/
import Derived.Test.YtnajdnhgoakgaaaTake
namespace Go.Proofs.Ytnajdnhgoakgaaa.Wal
open Go.RowKit Go.Proofs.YtnajdnhgoakgaaaW.PrintWords Go.Proofs.YtnajdnhgoakgaaaW.PrintLast Go.Proofs.YtnajdnhgoakgaaaW.PrintMore Go.Proofs.Ytnajdnhgoakgaaa.Mem Go.Proofs.Ytnajdnhgoakgaaa.PWal Go.Proofs.Ytnajdnhgoakgaaa.Blk
set_option linter.unusedVariables false
set_option linter.unusedSimpArgs false
set_option maxRecDepth 8000
set_option maxHeartbeats 4000000
section
variable {w : World} {F : Nat → Prop} {g : Nat} {D : DM}
/-- Write, whatever comes of it; the row lies in no block of the disk. -/
theorem write_row {w0 : World} (hB : Below w0.heap.size w0 w) (hF : ∀ k, F k → w0.heap.size ≤ k) (hd : DiskAt w F g D) (i : Int) (A : Option Addr) (n c : Nat) (s : ByteArray) (hn : n = s.size) (hr : ∀ W, Kept w W F → Kd.C (Kd.int .u8) W A n (bytesOf s)) :
    Calls Try.prog 17 #[.pointer (some ⟨g, 0, none⟩), .int .i64 i, .slice A n c] w fun e w' => e = .returned (.int .i64 (D.write i s).2) ∧ DiskAt w' F g (D.write i s).1 ∧ Below w0.heap.size w0 w' ∧ Kept w w' F := by
  by_cases hf : D.fine i = 0
  · by_cases hs : s.size = 128
    · rw [hs] at hn
      subst hn
      by_cases hl : D.left = 0
      · refine (write_torn hB hF hd i A c s hs hr hf hl).mono ?_
        rintro e w' ⟨rfl, h1, h2, h3⟩
        have e2 : (D.write i s).2 = 30 := by unfold DM.write; rw [if_neg (by rw [hf]; simp), if_neg (by rw [hs]; simp), if_pos hl]
        exact ⟨by rw [e2], h1, h2, h3⟩
      · refine (write_ok hB hF hd i A c s hs hr hf hl).mono ?_
        rintro e w' ⟨rfl, h1, h2, h3⟩
        have e2 : (D.write i s).2 = 0 := by rw [write_1 hs hf hl]
        exact ⟨by rw [e2], h1, h2, h3⟩
    · have e2 : D.write i s = (D, 1) := by unfold DM.write; rw [if_neg (by rw [hf]; simp), if_pos hs]
      refine (write_len hd i A n c hf (by omega)).mono ?_
      rintro e w' ⟨rfl, rfl⟩
      exact ⟨by rw [e2], by rw [e2]; exact hd, hB, Kept.refl _ _⟩
  · have e2 : D.write i s = (D, D.fine i) := by unfold DM.write; rw [if_pos hf]
    refine (write_no hd i _ hf).mono ?_
    rintro e w' ⟨rfl, rfl⟩
    exact ⟨by rw [e2], by rw [e2]; exact hd, hB, Kept.refl _ _⟩
/-- Read, whatever comes of it. -/
def readD (D : DM) (i : Int) : ByteArray := if D.fine i = 0 then D.blk i else ByteArray.empty
theorem read_any (hd : DiskAt w F g D) (i : Int) : Calls Try.prog 21 #[.pointer (some ⟨g, 0, none⟩), .int .i64 i] w fun e w' => ∃ v, e = .returned (.tuple #[v, .int .i64 (D.fine i)]) ∧ Kd.R (Kd.int .u8) 5 w' w.heap.size (fun _ => True) v (bytesOf (readD D i)) ∧ Below w.heap.size w w' := by
  by_cases hf : D.fine i = 0
  · refine (read_calls hd i hf).mono ?_
    rintro e w' ⟨v, rfl, h1, h2, h3⟩
    exact ⟨v, by rw [hf], by unfold readD; rw [if_pos hf]; exact h1, h3⟩
  · refine (Blk.read_no hd i hf).mono ?_
    rintro e w' ⟨rfl, rfl⟩
    exact ⟨_, rfl, by unfold readD; rw [if_neg hf]; exact Kd.R_nil _ _ _ _ _, Below.refl _ _⟩
theorem ok_write {D : DM} (h : D.Ok) (i : Int) (s : ByteArray) : (D.write i s).1.L.length = D.L.length := by
  unfold DM.write
  repeat' split
  all_goals simp
end
/-! ### all -/
def bad (D : DM) (fr n : Int) : Prop := fr < 0 ∨ n < 1 ∨ (D.L.length : Int) < fr ∨ (D.L.length : Int) - fr < n
instance (D : DM) (fr n : Int) : Decidable (bad D fr n) := by unfold bad; infer_instance
def allE (D : DM) (fr n : Int) : Int := if bad D fr n then 1 else if D.down then 30 else 0
def rowsD (D : DM) (fr n : Int) : List (List Int) := ((D.L.drop fr.toNat).take n.toNat).map bytesOf
section
variable {w : World} {F : Nat → Prop} {g : Nat} {D : DM}
theorem rows_len {fr n : Int} (h : ¬ bad D fr n) : (rowsD D fr n).length = n.toNat := by
  unfold rowsD
  unfold bad at h
  rw [List.length_map, List.length_take, List.length_drop]
  omega
theorem rows_at {fr n : Int} (h : ¬ bad D fr n) (hok : D.Ok) (i : Nat) (hi : (i : Int) < n) : (rowsD D fr n).take (i + 1) = (rowsD D fr n).take i ++ [bytesOf (D.blk (fr + i))] := by
  have hl := rows_len h
  unfold bad at h
  have e : (rowsD D fr n)[i]? = some (bytesOf (D.blk (fr + i))) := by
    unfold rowsD
    rw [List.getElem?_map, List.getElem?_take, if_pos (by omega), List.getElem?_drop, List.getElem?_eq_getElem (by omega), (blk_at hok (i := fr + i) (by omega) (by omega)).2]
    simp only [Option.map_some]
    congr 2
    congr 1
    omega
  rw [List.take_add_one, e]
  rfl
theorem fine_bad {fr n : Int} (h : ¬ bad D fr n) (i : Nat) (hi : (i : Int) < n) : D.fine (fr + i) = if D.down then 30 else 0 := by
  unfold bad at h
  unfold DM.fine
  split
  · rfl
  · rw [if_neg (by omega)]
theorem all_calls (hd : DiskAt w F g D) (fr n : Int) : Calls Try.prog 50 #[.pointer (some ⟨g, 0, none⟩), .int .i64 fr, .int .i64 n] w fun e w' => ∃ v, e = .returned (.tuple #[v, .int .i64 (allE D fr n)]) ∧ (allE D fr n ≠ 0 → w = w') ∧ (allE D fr n = 0 → KR.R 35 w' w.heap.size (fun _ => True) v (rowsD D fr n)) ∧ Below w.heap.size w w' := by
  have hok : D.Ok := by obtain ⟨lb, _, _, _, _, h⟩ := hd; exact h
  have hmax := d_len_max hok
  obtain ⟨dl, hdl⟩ : ∃ dl, dl = D.L.length := ⟨_, rfl⟩
  have HL := Aside0.mk (len_calls (w := w) hd)
  rw [← hdl] at HL
  have HX := Aside0.mk (And.intro hd (And.intro hok hdl))
  by_cases h0 : fr < 0
  · have hE : allE D fr n = 1 := if_pos (.inl h0)
    rw [hE]
    have d0 : decide (fr < 0) = true := decide_eq_true h0
    clear hd hok hmax hdl h0 hE
    go_enter Try.func50, Try.ntmps50
    go_wp2
    go_ret2
    exact ⟨_, rfl, fun _ => rfl, fun h => absurd h (by decide), Below.refl _ _⟩
  · have d0 : decide (fr < 0) = false := decide_eq_false h0
    by_cases h1 : n < 1
    · have hE : allE D fr n = 1 := if_pos (.inr (.inl h1))
      rw [hE]
      have d1 : decide (n < 1) = true := decide_eq_true h1
      clear hd hok hmax hdl h0 hE h1
      go_enter Try.func50, Try.ntmps50
      go_wp2
      go_ret2
      exact ⟨_, rfl, fun _ => rfl, fun h => absurd h (by decide), Below.refl _ _⟩
    · have d1 : decide (n < 1) = false := decide_eq_false h1
      by_cases h2 : (dl : Int) < fr
      · have hE : allE D fr n = 1 := if_pos (.inr (.inr (.inl (by rw [← hdl]; exact h2))))
        rw [hE]
        have d2 : decide (fr > (dl : Int)) = true := decide_eq_true h2
        clear hd hok hmax hdl h0 hE h1 h2
        go_enter Try.func50, Try.ntmps50
        go_wp2_with (go_at_call 26; refine HL.out.mono ?_; rintro e w' ⟨rfl, rfl⟩)
        go_ret2
        exact ⟨_, rfl, fun _ => rfl, fun h => absurd h (by decide), Below.refl _ _⟩
      · have d2 : decide (fr > (dl : Int)) = false := decide_eq_false h2
        have hw : wrap64 ((dl : Int) - fr) = (dl : Int) - fr := IntWalk.wrap64_in _ ⟨by omega, by omega⟩
        by_cases h3 : (dl : Int) - fr < n
        · have hE : allE D fr n = 1 := if_pos (.inr (.inr (.inr (by rw [← hdl]; exact h3))))
          rw [hE]
          have d3 : decide (n > (dl : Int) - fr) = true := decide_eq_true h3
          clear hd hok hmax hdl h0 hE h1 h2 h3
          go_enter Try.func50, Try.ntmps50
          go_wp2_with (go_at_call 26; refine HL.out.mono ?_; rintro e w' ⟨rfl, rfl⟩)
          go_ret2
          exact ⟨_, rfl, fun _ => rfl, fun h => absurd h (by decide), Below.refl _ _⟩
        · have d3 : decide (n > (dl : Int) - fr) = false := decide_eq_false h3
          have hnb : ¬ bad D fr n := by unfold bad; rw [← hdl]; omega
          obtain ⟨m, rfl⟩ : ∃ m : Nat, n = m := ⟨n.toNat, by omega⟩
          obtain ⟨f0, rfl⟩ : ∃ m : Nat, fr = m := ⟨fr.toNat, by omega⟩
          have d2' : decide (dl < f0) = false := decide_eq_false (by omega)
          have hE : allE D f0 m = if D.down then 30 else 0 := by unfold allE; rw [if_neg hnb]
          rw [hE]
          obtain ⟨dn, hdn⟩ : ∃ dn, dn = D.down := ⟨_, rfl⟩
          rw [← hdn]
          have HY := Aside0.mk (And.intro hnb hdn)
          have hM : (m : Int) ≤ 65536 := by omega
          have hm0 : 0 < m := by omega
          have HN := Aside0.mk (show 1 ≤ m ∧ (m : Int) + f0 ≤ 65536 from ⟨by omega, by omega⟩)
          clear hd hok hmax hdl h0 hE h1 h2 h3 hnb hdn
          cases dn
          · rw [if_neg (by decide)]
            go_enter Try.func50, Try.ntmps50
            go_wp2_with (go_at_call 26; refine HL.out.mono ?_; rintro e w' ⟨rfl, rfl⟩)
            rw [hw]
            go_loopg [8, 37] m (fun q v8 v37 wr => ∃ (i : Nat) (A8 : Option Addr) (c8 : Nat), v37 = .int .i64 i ∧ v8 = .slice A8 i c8 ∧ q + i = m ∧ Aside0 (KR.R 35 wr w.heap.size (fun _ => True) (.slice A8 i c8) ((rowsD D f0 m).take i) ∧ Below w.heap.size w wr))
            case atStart => exact ⟨0, none, 0, rfl, rfl, by omega, ⟨Kd.R_nil _ _ _ _ _, Below.refl _ _⟩⟩
            case round =>
              obtain ⟨i, A8, c8, rfl, rfl, hq, hI⟩ := hrel
              by_cases hlt : i < m
              · have hf0 : D.fine ((f0 : Int) + i) = 0 := by rw [fine_bad HY.out.1 i (by omega), ← HY.out.2]; rfl
                have HR := Aside0.mk (And.intro (read_calls (HX.out.1.below hI.out.2) ((f0 : Int) + i) hf0) (And.intro (rows_at HY.out.1 HX.out.2.1 i (by omega)) (show ((rowsD D f0 m).take i).length = i by rw [List.length_take, rows_len HY.out.1]; omega)))
                have hwi : wrap64 ((f0 : Int) + i) = (f0 : Int) + i := IntWalk.wrap64_in _ ⟨by omega, by have := HN.out; omega⟩
                clear hf0
                go_wp2_with (first
                  | (go_at_call 21; go_loud (refine HR.out.1.mono ?_; rintro e w2 ⟨v2, rfl, hv2, _, hb2⟩; obtain ⟨A2, c2, rfl, _, _⟩ := Kd.R_reads hv2; have H2 := Aside0.mk (And.intro hv2 hb2); clear hv2 hb2))
                  | ((with_reducible refine gate_builtin (b := .append) (xs := #[.tmp 51, .tmp 53]) rfl ?_); at_builtin; go_loud ( refine Kd.R_append KR (w0 := w) (W := w2) w.heap.size rfl (.tmp 51) (.tmp 53) 56 35 (.slice none 0 0) 24 rfl Try.underlying56 info_bytes rfl (by decide) (by decide) (.slice A8 i c8) ((rowsD D f0 m).take i) (bytesOf (D.blk ((f0 : Int) + i))) _ (fun _ => True) (fun k => wr.heap.size ≤ k) rfl rfl ⟨_, rfl, Kd.R_lower (Kd.R_mono (Kd.R_bound H2.out.1) (fun k hk => hk.2.1)) hI.out.2.size⟩ ?aK (fun _ _ => trivial) (Kd.R_below hI.out.1 H2.out.2) ?aB ?aS ?aL ?_; (case aK => exact fun k hk => ⟨trivial, fun he => by have := ((Kd.R_bound hI.out.1).1 k he.symm).2.2.1; omega⟩); (case aB => exact below_step hI.out.2 H2.out.2); (case aS => have h1 := hI.out.2.size; have h2 := H2.out.2.size; omega); (case aL => rw [HR.out.2.2]; have := HN.out; omega); intro v5 w5 ho5 hb5 _ _; obtain ⟨A5, c5, rfl, _, _⟩ := Kd.R_reads ho5; rw [← HR.out.2.1] at ho5 ⊢; have hl5 : ((rowsD D f0 m).take (i + 1)).length = i + 1 := (by rw [List.length_take, rows_len HY.out.1]; omega); rw [hl5] at ho5 ⊢; have H5 := Aside0.mk (And.intro ho5 hb5); clear ho5 hb5 hl5)))
                go_roundg (m - (i + 1))
                case measure => omega
                case rel => exact ⟨i + 1, A5, c5, by go_num, rfl, by omega, H5⟩
              · have hin : i = m := by omega
                have htk : (rowsD D f0 m).take i = rowsD D f0 m := List.take_of_length_le (by rw [rows_len HY.out.1]; omega)
                have HI := Aside0.mk (And.intro htk hI.out)
                clear htk hI hin
                go_wp2
                go_ret2
                have h1 := HI.out.2.1
                rw [HI.out.1] at h1
                exact ⟨_, rfl, fun h => absurd rfl h, fun _ => h1, HI.out.2.2⟩
          · rw [if_pos rfl]
            have hf0 : D.fine (f0 : Int) = 30 := by have h := fine_bad HY.out.1 0 (by omega); rw [← HY.out.2] at h; simpa using h
            have HR := Aside0.mk (Blk.read_no HX.out.1 (f0 : Int) (by rw [hf0]; decide))
            rw [hf0] at HR
            have hwi : wrap64 ((f0 : Int) + 0) = (f0 : Int) := (IntWalk.wrap64_in _ ⟨by omega, by have := HN.out; omega⟩).trans (by omega)
            have hwi2 : wrap64 (f0 : Int) = (f0 : Int) := (IntWalk.wrap64_in _ ⟨by omega, by have := HN.out; omega⟩)
            have d4 : decide ((0 : Int) < (m : Int)) = true := decide_eq_true (by omega)
            clear hf0
            go_enter Try.func50, Try.ntmps50
            go_wp2_with (go_at_call 26; refine HL.out.mono ?_; rintro e w' ⟨rfl, rfl⟩)
            rw [hw]
            go_loopg [8, 37] 0 (fun q v8 v37 wr => v37 = .int .i64 0 ∧ v8 = .slice none 0 0 ∧ wr = w)
            case atStart => exact ⟨rfl, rfl, rfl⟩
            case round =>
              obtain ⟨rfl, rfl, rfl⟩ := hrel
              go_wp2_with (first
                  | (go_at_call 21; go_loud (refine HR.out.mono ?_; rintro e w2 ⟨rfl, rfl⟩)))
              go_ret2
              exact ⟨_, rfl, fun _ => rfl, fun h => absurd h (by decide), Below.refl _ _⟩
end
end Go.Proofs.Ytnajdnhgoakgaaa.Wal
