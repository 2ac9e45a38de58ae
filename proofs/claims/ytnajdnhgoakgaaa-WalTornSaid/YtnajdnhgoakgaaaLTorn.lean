/- The law WalTorn. -/
import Derived.Test.YtnajdnhgoakgaaaLAgain
namespace Go.Proofs.Ytnajdnhgoakgaaa.Wal
open Go.RowKit Go.Proofs.YtnajdnhgoakgaaaW.PrintWords Go.Proofs.YtnajdnhgoakgaaaW.PrintLast Go.Proofs.YtnajdnhgoakgaaaW.PrintMore Go.Proofs.Ytnajdnhgoakgaaa.Mem Go.Proofs.Ytnajdnhgoakgaaa.PWal Go.Proofs.Ytnajdnhgoakgaaa.Blk Go.Proofs.Ytnajdnhgoakgaaa.Open
set_option linter.unusedVariables false
set_option linter.unusedSimpArgs false
set_option maxRecDepth 100000
set_option maxHeartbeats 8000000
theorem restart_ok {D : DM} (h : D.Ok) : D.restart.Ok := ⟨h.sz, h.n1, h.n2, by show (-1 : Int) ≤ -1; omega, by show (-1 : Int) ≤ _; omega, h.t1, h.t2⟩
theorem Live.stop {D : DM} {L : LM} (h : Live D L) {a t : Int} (hok : (D.stop a t).Ok) : Live (D.stop a t) L := ⟨hok, h.nb, h.up, h.e0, h.x1, h.h0, h.h1, h.bd, h.th⟩
theorem Tk.stop {D : DM} {L : LM} (h : Tk D L) (a t : Int) : Tk (D.stop a t) L := ⟨h.l, h.hv, h.first⟩
/-- A record: it is added, or the disk stops, or it has no room. -/
theorem add_any {D : DM} {L : LM} {b : List Int} (h : Live D L) (tk : Tk D L) (hy : Byt b) (hx : L.next + npc b ≤ 256) :
    ((addM D L b).2.2 = 0 ∧ (addM D L b).2.1 = L.added b ∧ Live (addM D L b).1 (L.added b) ∧ Tk (addM D L b).1 (L.added b)) ∨
    (((addM D L b).2.2 = 30 ∨ (addM D L b).2.2 = 31) ∧ Live (addM D L b).1.restart (openM (addM D L b).1.restart L.fr L.n) ∧ Tk (addM D L b).1.restart (openM (addM D L b).1.restart L.fr L.n) ∧ ((openM (addM D L b).1.restart L.fr L.n).l = L.l ∨ (openM (addM D L b).1.restart L.fr L.n).l = L.l ++ [b]) ∧ (openM (addM D L b).1.restart L.fr L.n).next ≤ L.next + npc b) := by
  have hx1 := h.x1
  by_cases hf : L.n - L.hv < npc b
  · have hM : addM D L b = (D, L, 31) := by unfold addM; rw [if_neg (by simp [h.e0]), if_pos hf]
    rw [hM]
    have z := open_same (D' := D.restart) h tk (restart_ok h.ok) h.nb rfl rfl (by omega)
    exact .inr ⟨.inr rfl, z.1, z.2.1, .inl z.2.2.1, by have := z.2.2.2.2; show (openM D.restart L.fr L.n).next ≤ _; omega⟩
  · obtain ⟨a, ha, hl⟩ := wr_of h hf
    have hM : addM D L b = if (wrs (L.fr + L.hv) L.next b 0 (npc b) D).2 = 0 then ((wrs (L.fr + L.hv) L.next b 0 (npc b) D).1, L.added b, 0)
        else ((wrs (L.fr + L.hv) L.next b 0 (npc b) D).1, { L with e := (wrs (L.fr + L.hv) L.next b 0 (npc b) D).2 }, (wrs (L.fr + L.hv) L.next b 0 (npc b) D).2) := by
      unfold addM; rw [if_neg (by simp [h.e0]), if_neg hf, if_neg (by omega)]
    rcases wrs_ends (N := L.next) hl (npc b) 0 D (Wr.zero h.ok h.up a L.next b) (by omega) with ⟨e, hw⟩ | ⟨e, i, c, hi, hw⟩
    · rw [ha] at e hw
      have z := add_live h hy hf (by omega) ha hw
      rw [hM, if_pos e]
      exact .inl ⟨rfl, rfl, z.1, z.2.1⟩
    · rw [ha] at e hw
      rw [hM, if_neg (by rw [e]; decide)]
      have z := torn_live h tk hy hf hx ha hi hw (restart_ok hw.ok)
      exact .inr ⟨.inl e, z⟩
/-- What is true between two records. -/
structure TnSt (w wr : World) (gd gl : Nat) (i : Nat) (v : Value) (E : Nat → Prop) (D : DM) (L : LM) (m : List ByteArray) : Prop where
  rs : RS w wr E gd gl 0 40 D L (m.map bytesOf)
  tk : Tk D L
  nx : L.next ≤ 1 + 3 * i
  td : Told wr w E v m
  ml : m.length ≤ i
section
variable {w wr w' : World} {gd gl i : Nat} {v : Value} {E : Nat → Prop} {D : DM} {L : LM} {m : List ByteArray}
theorem TnSt.below (h : TnSt w wr gd gl i v E D L m) (hb : Below wr.heap.size wr w') : TnSt w w' gd gl i v E D L m := ⟨h.rs.below hb, h.tk, h.nx, h.td.below hb, h.ml⟩
theorem Told.kept_same (h : Told wr w E v m) (hk : Kept wr w' E) : Told w' w E v m := Kd.R_kept h hk (fun k hk2 => hk2)
theorem TnSt.stop (h : TnSt w wr gd gl i v E D L m) (a b : Int) (ha : a ≤ 9223372036854775807) : Calls Try.prog 19 #[.pointer (some ⟨gd, 0, none⟩), .int .i64 a, .int .i64 b] wr fun e w' => e = .returned (.tuple #[]) ∧ TnSt w w' gd gl i v E (D.stop a b) L m := by
  refine (h.rs.sys.stop a b ha).mono ?_
  rintro e w' ⟨rfl, hs, hk⟩
  exact ⟨rfl, ⟨hs, h.rs.live.stop hs.ok, h.rs.hfr, h.rs.hn, h.rs.l⟩, h.tk.stop a b, h.nx, h.td.kept_same hk, h.ml⟩
/-- Behind a record: it was added; or the disk is begun anew, and the log opened. -/
theorem TnSt.add (h : TnSt w wr gd gl i v E D L m) (hi : i ≤ 11) {b : List Int} {A : Option Addr} {c : Nat} (hC : Kd.C (Kd.int .u8) w A b.length b) (hc : b.length ≤ c) (hl : b.length ≤ 300) (hy : Byt b) :
    ∃ er : Int, (er = 0 ∨ er = 30 ∨ er = 31) ∧ Calls Try.prog 30 #[.pointer (some ⟨gl, 0, none⟩), .slice A b.length c] wr fun e w' => e = .returned (.int .i64 er) ∧ ∃ D' L', Sys w w' (Ext E wr w') gd gl D' L' ∧ Told w' w (Ext E wr w') v m ∧
      (er = 0 → Live D' L' ∧ Tk D' L' ∧ L'.fr = 0 ∧ L'.n = 40 ∧ L'.l = (m ++ [strOfNums b]).map bytesOf ∧ L'.next ≤ 1 + 3 * ((i + 1 : Nat) : Int)) ∧
      (er ≠ 0 → Live D'.restart (openM D'.restart 0 40) ∧ Tk D'.restart (openM D'.restart 0 40) ∧ ((openM D'.restart 0 40).l = m.map bytesOf ∨ (openM D'.restart 0 40).l = m.map bytesOf ++ [b]) ∧ (openM D'.restart 0 40).next ≤ 1 + 3 * ((i + 1 : Nat) : Int)) := by
  have hn := npc_300 hl
  have hnx := h.nx
  have hcall := h.rs.sys.add (RS.came h.rs.sys hC) hc (by omega) hy
  rcases add_any (b := b) h.rs.live h.tk hy (by omega) with ⟨z1, z2, z3, z4⟩ | ⟨z1, z2, z3, z4, z5⟩
  · refine ⟨0, .inl rfl, ?_⟩
    rw [z1, z2] at hcall
    refine hcall.mono ?_
    rintro e w' ⟨rfl, hs, hk⟩
    refine ⟨rfl, _, _, hs, h.td.ext hk, fun _ => ⟨z3, z4, h.rs.hfr, h.rs.hn, ?_, ?_⟩, fun h => absurd rfl h⟩
    · show L.l ++ [b] = _
      rw [List.map_append, List.map_singleton, str_bytes hy, h.rs.l]
    · show L.next + npc b ≤ _; omega
  · refine ⟨(addM D L b).2.2, .inr z1, hcall.mono ?_⟩
    rintro e w' ⟨rfl, hs, hk⟩
    rw [h.rs.hfr, h.rs.hn, h.rs.l] at z4
    rw [h.rs.hfr, h.rs.hn] at z2 z3 z5
    exact ⟨rfl, _, _, hs, h.td.ext hk, fun h0 => absurd h0 (by rcases z1 with z1 | z1 <;> rw [z1] <;> decide), fun _ => ⟨z2, z3, z4, by omega⟩⟩
end
section
variable {w : World}
theorem torn_law {l : List (List Int)} {st tn : List Int} {A B C : Option Addr} {c d f : Nat} (hl : RowsAt w A l) (hy : ∀ q ∈ l, Byt q) (hs : Kd.C (Kd.int .u8) w B st.length st) (hsy : Byt st) (ht : Kd.C (Kd.int .u8) w C tn.length tn) (hty : Byt tn) :
    Calls Try.prog 11 #[.slice A l.length c, .slice B st.length d, .slice C tn.length f] w fun e w' => e = .returned (.bool true) ∧ Below w.heap.size w w' := by
  obtain ⟨n, hn⟩ : ∃ n, n = l.length := ⟨_, rfl⟩
  obtain ⟨o, ho⟩ : ∃ n, n = st.length := ⟨_, rfl⟩
  obtain ⟨p, hp⟩ : ∃ n, n = tn.length := ⟨_, rfl⟩
  have HX := Aside0.mk (And.intro hl (And.intro hy hn))
  have HY := Aside0.mk (And.intro hs (And.intro hsy (And.intro ho (And.intro ht (And.intro hty hp)))))
  rw [← hn, ← ho, ← hp]
  clear hl hy hs hsy ht hty hn ho hp
  by_cases h6 : 12 < n ∨ 12 < o ∨ p < o
  · have d0 : decide ((n : Int) > 12) = true ∨ (decide ((n : Int) > 12) = false ∧ decide ((o : Int) > 12) = true) ∨ (decide ((n : Int) > 12) = false ∧ decide ((o : Int) > 12) = false ∧ decide ((p : Int) < (o : Int)) = true) := by
      by_cases h1 : 12 < n
      · exact .inl (decide_eq_true (by omega))
      · by_cases h2 : 12 < o
        · exact .inr (.inl ⟨decide_eq_false (by omega), decide_eq_true (by omega)⟩)
        · exact .inr (.inr ⟨decide_eq_false (by omega), decide_eq_false (by omega), decide_eq_true (by omega)⟩)
    have d3' : ∀ b : Bool, decide ((p : Int) < (o : Int)) = b → decide (p < o) = b := fun b hb => by rw [← hb]; exact decide_eq_decide.2 (by omega)
    clear h6
    rcases d0 with d1 | ⟨d1, d2⟩ | ⟨d1, d2, d3⟩
    rotate_left 2
    have d3n := d3' _ d3
    rotate_left 1
    all_goals
      clear d3'
      go_enter Try.func11, Try.ntmps11
      go_wp2_with (first | (go_at_call 28; go_loud (refine (awake_calls w).mono ?_; rintro e w1 ⟨rfl, hb0⟩; have HB := Aside0.mk hb0; clear hb0)))
      go_ret
      exact ⟨rfl, HB.out⟩
  · have d1 : decide ((n : Int) > 12) = false := decide_eq_false (by omega)
    have d2 : decide ((o : Int) > 12) = false := decide_eq_false (by omega)
    have d3 : decide ((p : Int) < (o : Int)) = false := decide_eq_false (by omega)
    have d3n : decide (p < o) = false := decide_eq_false (by omega)
    have hn12 : n ≤ 12 := by omega
    have ho12 : o ≤ 12 := by omega
    have hop : o ≤ p := by omega
    have hnew : ∀ w1, Below w.heap.size w w1 → Calls Try.prog 14 #[.int .i64 40] w1 _ := fun w1 hb => Dk.new (w0 := w) hb 40 (by omega) (by omega)
    have HN := Aside0.mk hnew
    have hE : allE (zD 40) 0 40 = 0 := by rw [zD_bad, if_neg (by omega)]
    have hnb : ¬ bad (zD 40) 0 40 := fun h => by unfold allE at hE; rw [if_pos h] at hE; cases hE
    have HE := Aside0.mk (And.intro hE (begin_0 (k := 40) (by omega) (by omega) hnb))
    clear h6 hnew hE hnb
    go_enter Try.func11, Try.ntmps11
    go_wp2_with (first
      | (go_at_call 28; go_loud (refine (awake_calls w).mono ?_; rintro e w1 ⟨rfl, hb0⟩; have HB := Aside0.mk hb0; clear hb0))
      | (go_at_call 14; go_loud (refine (HN.out w1 HB.out).mono ?_; rintro e w2 ⟨g, rfl, hd, _⟩; have H1 := Aside0.mk (show Dk w w2 _ g (zD 40) from hd); clear hd))
      | (go_at_call 29; go_loud (have hx := H1.out.begin_ 0 40 1 (by omega) (by omega); rw [HE.out.1] at hx; refine hx.mono ?_; clear hx; rintro e w3 ⟨v, rfl, _, h2, _⟩; obtain ⟨gl, rfl, hs⟩ := h2 rfl; have H3 := Aside0.mk (show Sys w w3 _ g gl (zD 40) (beginM (zD 40) 0 40 1) from hs); clear h2 hs H1)))
    have HI : Aside0 (TnSt w w3 g gl 0 (.slice none 0 0) _ (zD 40) (beginM (zD 40) 0 40 1) []) :=
      ⟨⟨⟨H3.out, HE.out.2.1, rfl, rfl, rfl⟩, HE.out.2.2.1, by rw [HE.out.2.2.2.2]; omega, Kd.R_nil _ _ _ _ _, Nat.le_refl _⟩⟩
    clear H3
    go_loopg [10, 12, 13] n (fun q v10 v12 v13 wr => ∃ (i m gx : Nat) (A1 : Option Addr) (c1 : Nat) (E : Nat → Prop) (D : DM) (L : LM) (ms : List ByteArray), v10 = .pointer (some ⟨gx, 0, none⟩) ∧ v12 = .slice A1 m c1 ∧ v13 = .int .i64 i ∧ q + i = n ∧ m = ms.length ∧ Aside0 (TnSt w wr g gx i (.slice A1 m c1) E D L ms))
    case atStart => exact ⟨0, 0, gl, none, 0, _, _, _, [], rfl, rfl, rfl, by omega, rfl, HI⟩
    case round =>
      clear HI
      obtain ⟨i, m, gx, A1, c1, E, D, L, ms, rfl, rfl, rfl, hq, hms, hI⟩ := hrel
      have HM := Aside0.mk hms
      have hmi : m ≤ i := by rw [hms]; exact hI.out.ml
      clear hms
      by_cases hlt : i < n
      · have d4 : decide ((i : Int) < (n : Int)) = true := decide_eq_true (by omega)
        have d4n : decide (i < n) = true := decide_eq_true (by omega)
        obtain ⟨a, B1, cb, b, rfl, hcell, hC, hcb, hbz, hby⟩ := rows_in HX.out.1 HX.out.2.1 HX.out.2.2 hlt
        obtain ⟨bl, hbl⟩ : ∃ k, k = b.length := ⟨_, rfl⟩
        have HB := Aside0.mk (And.intro hC (And.intro hcb (And.intro hby (And.intro hbl hcell))))
        rw [← hbl] at hbz hcell
        have e1 : wr.cell? (a.add i) = some (.slice B1 bl cb) := cell_below hcell hI.out.rs.sys.bl
        by_cases h300 : 300 < bl
        · have d5 : decide ((bl : Int) > 300) = true := decide_eq_true (by omega)
          clear hcell hC hcb hby hbl h300
          go_wp2
          go_ret
          exact ⟨rfl, hI.out.rs.sys.bl⟩
        · have d5 : decide ((bl : Int) > 300) = false := decide_eq_false (by omega)
          have HL4 := Aside0.mk (show b.length ≤ 300 by omega)
          clear hcell hC hcb hby hbl h300
          go_upto_if 62 with (fail)
          go_cut [] (fun wc => ∃ D', Aside0 (TnSt w wc g gx i (.slice A1 m c1) E D' L ms))
          case first =>
            by_cases hio : i < o
            · have d6 : decide ((i : Int) < (o : Int)) = true := decide_eq_true (by omega)
              have d6n : decide (i < o) = true := decide_eq_true (by omega)
              obtain ⟨ab, rfl, hb1⟩ := Kd.at_int HY.out.1 (i : Int) (by omega) (by rw [← HY.out.2.2.1]; omega)
              obtain ⟨ac, rfl, hc1⟩ := Kd.at_int HY.out.2.2.2.1 (i : Int) (by omega) (by rw [← HY.out.2.2.2.2.2]; omega)
              obtain ⟨sx, hsx⟩ : ∃ x, x = rd st (i : Int) := ⟨_, rfl⟩
              obtain ⟨tx, htx⟩ : ∃ x, x = rd tn (i : Int) := ⟨_, rfl⟩
              have hsb : 0 ≤ sx ∧ sx ≤ 255 := by
                have hi2 : i < st.length := by rw [← HY.out.2.2.1]; exact hio
                rw [hsx]; unfold rd; rw [Int.toNat_natCast, List.getD_eq_getElem?_getD, List.getElem?_eq_getElem hi2]; exact HY.out.2.1 _ (List.getElem_mem hi2)
              have htb : 0 ≤ tx ∧ tx ≤ 255 := by
                have hi2 : i < tn.length := by rw [← HY.out.2.2.2.2.2]; omega
                rw [htx]; unfold rd; rw [Int.toNat_natCast, List.getD_eq_getElem?_getD, List.getElem?_eq_getElem hi2]; exact HY.out.2.2.2.2.1 _ (List.getElem_mem hi2)
              rw [← hsx] at hb1
              rw [← htx] at hc1
              have hall : ∀ W, Below w.heap.size w W → W.cell? (ab.add i) = some (.int .u8 sx) ∧ W.cell? (ac.add i) = some (.int .u8 tx) := fun W hW => ⟨cell_below hb1 hW, cell_below hc1 hW⟩
              have HAL := Aside0.mk hall
              clear hall hb1 hc1 hsx htx
              go_upto_region 17 with (fail)
              obtain ⟨wd, hwd⟩ : ∃ wd, wd = wr.drew := ⟨_, rfl⟩
              have hbd : Below wr.heap.size wr wd := by rw [hwd]; exact below_drew1 (Below.refl _ _)
              have HD := Aside0.mk (hI.out.below hbd)
              clear hbd
              have hip : (i : Int) < (p : Int) := by omega
              refine start_ (n := 13) (S := fun w' => Below w.heap.size w w') (ds := []) #[false, false, false, false, false, false, false, false, false, false, false, false, false] (by kernel_rfl) rfl (by kernel_rfl) (by rw [← hwd]; exact HD.out.rs.sys.bl) (fun hHeld => ?_)
              rw [← hwd] at hHeld ⊢
              clear hwd
              refine pure_ (i := 0) (N := some 63) (v := ?_) (a' := ?_) #[true, false, false, false, false, false, false, false, false, false, false, false, false] rfl rfl (by kernel_rfl) (fun _ _ _ h => h) (Or.inl ⟨by rfl, ?_⟩) ?_ ?_
              rotate_left
              · intro w'
                go_simp
                with_reducible rfl
              rotate_left
              · simp only [Act.put, List.setIfInBounds_toArray, List.set_cons_zero, List.set_cons_succ, i64_w, i32_w]
                rfl
              refine pure_ (i := 1) (N := some 64) (v := ?_) (a' := ?_) #[true, true, false, false, false, false, false, false, false, false, false, false, false] rfl rfl (by kernel_rfl) (fun _ _ _ h => h) (Or.inl ⟨by rfl, ?_⟩) ?_ ?_
              rotate_left
              · intro w'
                go_simp
                with_reducible rfl
              rotate_left
              · simp only [Act.put, List.setIfInBounds_toArray, List.set_cons_zero, List.set_cons_succ, i64_w, i32_w]
                rfl
              refine pure_ (i := 2) (N := some 65) (v := ?_) (a' := ?_) #[true, true, true, false, false, false, false, false, false, false, false, false, false] rfl rfl (by kernel_rfl) (fun _ _ _ h => h) (Or.inl ⟨by rfl, ?_⟩) ?_ ?_
              rotate_left
              · intro w'
                go_simp
                with_reducible rfl
              rotate_left
              · simp only [Act.put, List.setIfInBounds_toArray, List.set_cons_zero, List.set_cons_succ, i64_w, i32_w]
                rfl
              refine pure_ (i := 3) (N := some 66) (v := ?_) (a' := ?_) #[true, true, true, true, false, false, false, false, false, false, false, false, false] rfl rfl (by kernel_rfl) (fun _ _ _ h => h) (Or.inl ⟨by rfl, ?_⟩) ?_ ?_
              rotate_left
              · intro w'
                go_simp
                with_reducible rfl
              rotate_left
              · simp only [Act.put, List.setIfInBounds_toArray, List.set_cons_zero, List.set_cons_succ, i64_w, i32_w]
                rfl
              refine take_ (i := 4) (N := some 67) (v := ?_) (a' := ?_) #[true, true, true, true, true, false, false, false, false, false, false, false, false] rfl rfl (by kernel_rfl) (fun _ _ _ h => h) (Or.inl ⟨by rfl, ?_⟩) hHeld ?_ ?_
              rotate_left
              · rintro w' s0
                obtain ⟨b0, b1⟩ := HAL.out w' s0
                go_simp
                with_reducible rfl
              rotate_left
              · simp only [Act.put, List.setIfInBounds_toArray, List.set_cons_zero, List.set_cons_succ, i64_w, i32_w]
                rfl
              refine pure_ (i := 5) (N := some 68) (v := ?_) (a' := ?_) #[true, true, true, true, true, true, false, false, false, false, false, false, false] rfl rfl (by kernel_rfl) (fun _ _ _ h => h) (Or.inl ⟨by rfl, ?_⟩) ?_ ?_
              rotate_left
              · intro w'
                go_simp
                with_reducible rfl
              rotate_left
              · simp only [Act.put, List.setIfInBounds_toArray, List.set_cons_zero, List.set_cons_succ, i64_w, i32_w]
                rfl
              refine pure_ (i := 6) (N := some 69) (v := ?_) (a' := ?_) #[true, true, true, true, true, true, true, false, false, false, false, false, false] rfl rfl (by kernel_rfl) (fun _ _ _ h => h) (Or.inl ⟨by rfl, ?_⟩) ?_ ?_
              rotate_left
              · intro w'
                go_simp
                with_reducible rfl
              rotate_left
              · simp only [Act.put, List.setIfInBounds_toArray, List.set_cons_zero, List.set_cons_succ, i64_w, i32_w]
                rfl
              refine pure_ (i := 7) (N := some 70) (v := ?_) (a' := ?_) #[true, true, true, true, true, true, true, true, false, false, false, false, false] rfl rfl (by kernel_rfl) (fun _ _ _ h => h) (Or.inl ⟨by rfl, ?_⟩) ?_ ?_
              rotate_left
              · intro w'
                go_simp
                with_reducible rfl
              rotate_left
              · simp only [Act.put, List.setIfInBounds_toArray, List.set_cons_zero, List.set_cons_succ, i64_w, i32_w]
                rfl
              refine pure_ (i := 8) (N := some 71) (v := ?_) (a' := ?_) #[true, true, true, true, true, true, true, true, true, false, false, false, false] rfl rfl (by kernel_rfl) (fun _ _ _ h => h) (Or.inl ⟨by rfl, ?_⟩) ?_ ?_
              rotate_left
              · intro w'
                go_simp
                with_reducible rfl
              rotate_left
              · simp only [Act.put, List.setIfInBounds_toArray, List.set_cons_zero, List.set_cons_succ, i64_w, i32_w]
                rfl
              refine pure_ (i := 9) (N := some 72) (v := ?_) (a' := ?_) #[true, true, true, true, true, true, true, true, true, true, false, false, false] rfl rfl (by kernel_rfl) (fun _ _ _ h => h) (Or.inl ⟨by rfl, ?_⟩) ?_ ?_
              rotate_left
              · intro w'
                go_simp
                with_reducible rfl
              rotate_left
              · simp only [Act.put, List.setIfInBounds_toArray, List.set_cons_zero, List.set_cons_succ, i64_w, i32_w]
                rfl
              refine take_ (i := 10) (N := some 73) (v := ?_) (a' := ?_) #[true, true, true, true, true, true, true, true, true, true, true, false, false] rfl rfl (by kernel_rfl) (fun _ _ _ h => h) (Or.inl ⟨by rfl, ?_⟩) hHeld ?_ ?_
              rotate_left
              · rintro w' s0
                obtain ⟨b0, b1⟩ := HAL.out w' s0
                go_simp
                with_reducible rfl
              rotate_left
              · simp only [Act.put, List.setIfInBounds_toArray, List.set_cons_zero, List.set_cons_succ, i64_w, i32_w]
                rfl
              refine pure_ (i := 11) (N := some 74) (v := ?_) (a' := ?_) #[true, true, true, true, true, true, true, true, true, true, true, true, false] rfl rfl (by kernel_rfl) (fun _ _ _ h => h) (Or.inl ⟨by rfl, ?_⟩) ?_ ?_
              rotate_left
              · intro w'
                go_simp
                with_reducible rfl
              rotate_left
              · simp only [Act.put, List.setIfInBounds_toArray, List.set_cons_zero, List.set_cons_succ, i64_w, i32_w]
                rfl
              refine one_ (i := 12) (N := some 75) #[true, true, true, true, true, true, true, true, true, true, true, true, true] rfl rfl (by kernel_rfl) (by decide) (fun K hK => ?_)
              refine goes_ Try.func19 (by kernel_rfl) rfl #[.pointer (some ⟨g, 0, none⟩), .int .i64 (wrap64 (bits BinOp.and IntKind.u8 sx 3)), .int .i64 (wrap64 tx)] (by rfl) rfl rfl (by (try simp only [List.map_toArray, List.map_cons, List.map_nil]); rfl) ?_
              refine (HD.out.stop (wrap64 (bits BinOp.and IntKind.u8 sx 3)) (wrap64 tx) (by unfold wrap64; omega)).mono ?_
              rintro e w4 ⟨rfl, h4⟩
              refine ⟨_, rfl, ?_⟩
              have H4 := Aside0.mk h4
              clear h4
              refine hK.out _ _ (H4.out.rs.sys.bl) (fun hHeld => ?_)
              clear hK K
              refine norm_ (a' := ?_) ?_ ?_
              rotate_left
              · show Act.put _ (some 75) _ = _
                simp only [Act.put, List.setIfInBounds_toArray, List.set_cons_zero, List.set_cons_succ, i64_w, i32_w]
                rfl
              refine done_ (by kernel_rfl) ?_
              go_wp2
              go_meet
              case rel => exact ⟨_, H4⟩
            · have d6 : decide ((i : Int) < (o : Int)) = false := decide_eq_false (by omega)
              have d6n : decide (i < o) = false := decide_eq_false (by omega)
              go_wp2
              go_meet
              case rel => exact ⟨D, hI⟩
          case rest =>
            obtain ⟨D1, H5⟩ := hcut
            clear hI
            have e2 : wc.cell? (a.add i) = some (.slice B1 bl cb) := by rw [HB.out.2.2.2.1]; exact cell_below HB.out.2.2.2.2 H5.out.rs.sys.bl
            obtain ⟨er, her, hadd⟩ := H5.out.add (by omega) HB.out.1 HB.out.2.1 HL4.out HB.out.2.2.1
            rw [← HB.out.2.2.2.1] at hadd
            have HAD := Aside0.mk hadd
            clear hadd
            by_cases he0 : er = 0
            · subst he0
              clear her
              go_wp2_with (first
                | (go_at_call 30; go_loud (refine HAD.out.mono ?_; rintro e w6 ⟨rfl, D6, L6, hs6, ht6, h60, _⟩; have H6 := Aside0.mk (And.intro hs6 (And.intro ht6 (h60 rfl))); have e3 : w6.cell? (a.add i) = some (.slice B1 bl cb) := (by rw [HB.out.2.2.2.1]; exact cell_below HB.out.2.2.2.2 hs6.bl); have hcv := conv_nums (wd := w6) (c := cb) (n := bl) HB.out.2.2.1 HB.out.2.2.2.1 HB.out.1 hs6.bl; clear hs6 ht6 h60))
                | ((with_reducible refine gate_builtin (b := .append) (xs := #[.tmp 84, .tmp 90]) rfl ?_); at_builtin; go_loud ( refine Kd.R_append Kd.string (w0 := w) (W := w6) w.heap.size ?q1 (.tmp 84) (.tmp 90) 28 9 (.string ByteArray.empty) 16 ?q2 Try.underlying28 ?q3 ?q4 (by decide) (by decide) (.slice A1 m c1) ms (strOfNums b) [.string (strOfNums b)] (fun k => ¬ Ext E wc w6 k) (fun _ => False) ?q5 ?q6 ?aM (fun _ hk => hk.elim) ?aF ?aH ?aB ?aS ?aL ?_; (case q1 => rfl); (case q2 => rfl); (case q3 => exact info_str); (case q4 => rfl); (case q5 => rfl); (case q6 => rfl); (case aH => exact H6.out.2.1); (case aM => exact (show Kd.M Kd.string _ _ _ (strOfNums b) [.string (strOfNums b)] from rfl)); (case aF => exact fun k hk he => by have := he.2; omega); (case aB => exact H6.out.1.bl); (case aS => exact below_size H6.out.1.bl); (case aL => have := H5.out.ml; omega); intro v7 w7 ho7 hb7 hg7 _; obtain ⟨A7, c7, rfl, _, _⟩ := Kd.R_reads ho7; have H7 := Aside0.mk (And.intro (H6.out.1.kept (S := fun k => (Value.slice A1 m c1).ownBlock = some k) (Kept.of_grown hg7 (Kept.refl _ _) (fun k e => .inl e)) (fun k hE e => H6.out.2.1.1 k e hE) hb7) ho7); clear ho7 hb7 hg7)))
              go_roundg (n - (i + 1))
              case measure => omega
              case rel =>
                have hml : (ms ++ [strOfNums b]).length = ms.length + 1 := by rw [List.length_append, List.length_singleton]
                refine ⟨i + 1, ms.length + 1, gx, A7, c7, Ext E wc w6, D6, L6, ms ++ [strOfNums b], rfl, rfl, by go_num, by omega, hml.symm, ⟨⟨H7.out.1, H6.out.2.2.1, H6.out.2.2.2.2.1, H6.out.2.2.2.2.2.1, H6.out.2.2.2.2.2.2.1⟩, H6.out.2.2.2.1, H6.out.2.2.2.2.2.2.2, ?_, by rw [hml]; have := H5.out.ml; omega⟩⟩
                have h7 := H7.out.2
                rw [hml] at h7
                exact h7
            · have d7 : (er == 0) = false := beq_eq_false_iff_ne.2 he0
              have HE0 := Aside0.mk he0
              have her2 : er = 30 ∨ er = 31 := her.resolve_left he0
              clear he0 her
              go_upto_region 21 with ((go_at_call 30; go_loud (refine HAD.out.mono ?_; rintro e w6 ⟨rfl, D6, L6, hs6, ht6, _, h6⟩; have H6 := Aside0.mk (And.intro hs6 (And.intro ht6 (h6 HE0.out))); clear hs6 ht6 h6)))
              go_cut [97] (fun u97 wq => u97 = .bool false ∧ w6 = wq)
              case first =>
                rcases her2 with rfl | rfl
                all_goals
                  go_wp2
                  go_meet
                  case rel => exact ⟨rfl, rfl⟩
              case rest =>
                obtain ⟨rfl, rfl⟩ := hcut
                clear her2
                have hal := live_all (fr := 0) (n := 40) H6.out.2.2.1 rfl rfl
                have HAL := Aside0.mk hal
                clear hal
                go_upto_region 28 with (first
                  | (go_at_call 23; go_loud (refine H6.out.1.dk.restart.mono ?_; rintro e w7 ⟨rfl, hs7, hk7⟩; have H7 := Aside0.mk (And.intro hs7 (H6.out.2.1.kept_same hk7)); clear hs7 hk7))
                  | (go_at_call 36; go_loud (have hx := H7.out.1.open_ 0 40; rw [HAL.out] at hx; refine hx.mono ?_; clear hx; rintro e w8 ⟨v, rfl, _, h2, hb8⟩; obtain ⟨gy, rfl, hs⟩ := h2 rfl; have H8 := Aside0.mk (And.intro hs (H7.out.2.extb hb8)); clear h2 hs hb8))
                  | (go_at_call 31; go_loud (refine H8.out.1.records.mono ?_; rintro e w9 ⟨v9, rfl, hr9, hb9⟩; obtain ⟨A9, c9, rfl, hc9, _⟩ := Kd.R_reads hr9; have H9 := Aside0.mk (And.intro hr9 (And.intro (H8.out.1.below hb9) (H8.out.2.below hb9))); clear hr9 hb9 hc9)))
                obtain ⟨E9, hE9⟩ : ∃ E9, E9 = Ext (Ext E wc w6) w7 w8 := ⟨_, rfl⟩
                obtain ⟨D9, hD9⟩ : ∃ D9, D9 = D6.restart := ⟨_, rfl⟩
                obtain ⟨L9, hL9⟩ : ∃ L9, L9 = openM D9 0 40 := ⟨_, rfl⟩
                have hfr9 : L9.fr = 0 ∧ L9.n = 40 := by rw [hL9]; exact ⟨rfl, rfl⟩
                have H6' := H6.out.2.2
                rw [← hD9, ← hL9] at H9 H6'
                rw [← hE9] at H9
                rw [← hD9, ← hL9]
                have HQ := Aside0.mk (And.intro H6'.1 (And.intro H6'.2.1 (And.intro hfr9 H6'.2.2.2)))
                have hcase := H6'.2.2.1
                have HT8 := Aside0.mk (show ∀ k, (Value.slice A1 m c1).ownBlock = some k → k < w8.heap.size from fun k e => ((Kd.R_bound H8.out.2).1 k e).2.2.1)
                clear hE9 hL9 hD9 hfr9 H6' H6 H8 HAL
                obtain ⟨wd, hwd⟩ : ∃ wd, wd = w9.drew := ⟨_, rfl⟩
                have hbd : Below w9.heap.size w9 wd := by rw [hwd]; exact below_drew1 (Below.refl _ _)
                have HD := Aside0.mk (And.intro hbd (And.intro (Kd.R_below H9.out.1 hbd) (And.intro (H9.out.2.1.below hbd) (H9.out.2.2.below hbd))))
                have e4 : wd.cell? (a.add i) = some (.slice B1 bl cb) := by rw [HB.out.2.2.2.1]; exact cell_below HB.out.2.2.2.2 HD.out.2.2.1.bl
                have hcv := conv_nums (wd := wd) (c := cb) (n := bl) HB.out.2.2.1 HB.out.2.2.2.1 HB.out.1 HD.out.2.2.1.bl
                have hm65 : ms.length ≤ 12 := by have := H5.out.ml; omega
                clear hbd
                rcases hcase with hsame | hmore
                · have hk9 : L9.l.length = m := by rw [hsame, List.length_map, HM.out]
                  have hdd : decide ((m : Int) > (m : Int)) = false := decide_eq_false (by omega)
                  have HSM := Aside0.mk hsame
                  rw [hk9]
                  clear hsame hk9
                  refine start_ (n := 19) (S := fun w' => Below w9.heap.size w9 w') (ds := []) #[false, false, false, false, false, false, false, false, false, false, false, false, false, false, false, false, false, false, false] (by kernel_rfl) rfl (by kernel_rfl) (by rw [← hwd]; exact HD.out.1) (fun hHeld => ?_)
                  rw [← hwd] at hHeld ⊢
                  clear hwd
                  refine pure_ (i := 0) (N := some 109) (v := ?_) (a' := ?_) #[true, false, false, false, false, false, false, false, false, false, false, false, false, false, false, false, false, false, false] rfl rfl (by kernel_rfl) (fun _ _ _ h => h) (Or.inl ⟨by rfl, ?_⟩) ?_ ?_
                  rotate_left
                  · intro w'
                    go_simp
                    with_reducible rfl
                  rotate_left
                  · simp only [Act.put, List.setIfInBounds_toArray, List.set_cons_zero, List.set_cons_succ, i64_w, i32_w]
                    rfl
                  refine pure_ (i := 1) (N := some 110) (v := ?_) (a' := ?_) #[true, true, false, false, false, false, false, false, false, false, false, false, false, false, false, false, false, false, false] rfl rfl (by kernel_rfl) (fun _ _ _ h => h) (Or.inl ⟨by rfl, ?_⟩) ?_ ?_
                  rotate_left
                  · intro w'
                    go_simp
                    with_reducible rfl
                  rotate_left
                  · simp only [Act.put, List.setIfInBounds_toArray, List.set_cons_zero, List.set_cons_succ, i64_w, i32_w]
                    rfl
                  refine pure_ (i := 2) (N := some 111) (v := ?_) (a' := ?_) #[true, true, true, false, false, false, false, false, false, false, false, false, false, false, false, false, false, false, false] rfl rfl (by kernel_rfl) (fun _ _ _ h => h) (Or.inl ⟨by rfl, ?_⟩) ?_ ?_
                  rotate_left
                  · intro w'
                    go_simp
                    with_reducible rfl
                  rotate_left
                  · simp only [Act.put, List.setIfInBounds_toArray, List.set_cons_zero, List.set_cons_succ, i64_w, i32_w]
                    rfl
                  refine pure_ (i := 3) (N := some 112) (v := ?_) (a' := ?_) #[true, true, true, true, false, false, false, false, false, false, false, false, false, false, false, false, false, false, false] rfl rfl (by kernel_rfl) (fun _ _ _ h => h) (Or.inl ⟨by rfl, ?_⟩) ?_ ?_
                  rotate_left
                  · intro w'
                    go_simp
                    with_reducible rfl
                  rotate_left
                  · simp only [Act.put, List.setIfInBounds_toArray, List.set_cons_zero, List.set_cons_succ, i64_w, i32_w]
                    rfl
                  refine pure_ (i := 4) (N := some 113) (v := ?_) (a' := ?_) #[true, true, true, true, true, false, false, false, false, false, false, false, false, false, false, false, false, false, false] rfl rfl (by kernel_rfl) (fun _ _ _ h => h) (Or.inl ⟨by rfl, ?_⟩) ?_ ?_
                  rotate_left
                  · intro w'
                    go_simp
                    with_reducible rfl
                  rotate_left
                  · simp only [Act.put, List.setIfInBounds_toArray, List.set_cons_zero, List.set_cons_succ, i64_w, i32_w]
                    rfl
                  refine pure_ (i := 5) (N := some 114) (v := ?_) (a' := ?_) #[true, true, true, true, true, true, false, false, false, false, false, false, false, false, false, false, false, false, false] rfl rfl (by kernel_rfl) (fun _ _ _ h => h) (Or.inl ⟨by rfl, ?_⟩) ?_ ?_
                  rotate_left
                  · intro w'
                    go_simp
                    with_reducible rfl
                  rotate_left
                  · simp only [Act.put, List.setIfInBounds_toArray, List.set_cons_zero, List.set_cons_succ, i64_w, i32_w]
                    rfl
                  refine pure_ (i := 6) (N := some 115) (v := undef) (a' := ?_) #[true, true, true, true, true, true, true, false, false, false, false, false, false, false, false, false, false, false, false] rfl rfl (by kernel_rfl) (fun _ _ _ h => h) (Or.inr ⟨by rfl, rfl⟩) ?_ ?_
                  rotate_left
                  · simp only [Act.put, List.setIfInBounds_toArray, List.set_cons_zero, List.set_cons_succ, i64_w, i32_w]
                    rfl
                  refine pure_ (i := 7) (N := some 116) (v := undef) (a' := ?_) #[true, true, true, true, true, true, true, true, false, false, false, false, false, false, false, false, false, false, false] rfl rfl (by kernel_rfl) (fun _ _ _ h => h) (Or.inr ⟨by rfl, rfl⟩) ?_ ?_
                  rotate_left
                  · simp only [Act.put, List.setIfInBounds_toArray, List.set_cons_zero, List.set_cons_succ, i64_w, i32_w]
                    rfl
                  refine pure_ (i := 8) (N := some 117) (v := undef) (a' := ?_) #[true, true, true, true, true, true, true, true, true, false, false, false, false, false, false, false, false, false, false] rfl rfl (by kernel_rfl) (fun _ _ _ h => h) (Or.inr ⟨by rfl, rfl⟩) ?_ ?_
                  rotate_left
                  · simp only [Act.put, List.setIfInBounds_toArray, List.set_cons_zero, List.set_cons_succ, i64_w, i32_w]
                    rfl
                  refine pure_ (i := 9) (N := some 118) (v := undef) (a' := ?_) #[true, true, true, true, true, true, true, true, true, true, false, false, false, false, false, false, false, false, false] rfl rfl (by kernel_rfl) (fun _ _ _ h => h) (Or.inr ⟨by rfl, rfl⟩) ?_ ?_
                  rotate_left
                  · simp only [Act.put, List.setIfInBounds_toArray, List.set_cons_zero, List.set_cons_succ, i64_w, i32_w]
                    rfl
                  refine pure_ (i := 10) (N := some 119) (v := undef) (a' := ?_) #[true, true, true, true, true, true, true, true, true, true, true, false, false, false, false, false, false, false, false] rfl rfl (by kernel_rfl) (fun _ _ _ h => h) (Or.inr ⟨by rfl, rfl⟩) ?_ ?_
                  rotate_left
                  · simp only [Act.put, List.setIfInBounds_toArray, List.set_cons_zero, List.set_cons_succ, i64_w, i32_w]
                    rfl
                  refine pure_ (i := 11) (N := some 120) (v := undef) (a' := ?_) #[true, true, true, true, true, true, true, true, true, true, true, true, false, false, false, false, false, false, false] rfl rfl (by kernel_rfl) (fun _ _ _ h => h) (Or.inr ⟨by rfl, rfl⟩) ?_ ?_
                  rotate_left
                  · simp only [Act.put, List.setIfInBounds_toArray, List.set_cons_zero, List.set_cons_succ, i64_w, i32_w]
                    rfl
                  refine pure_ (i := 12) (N := some 121) (v := undef) (a' := ?_) #[true, true, true, true, true, true, true, true, true, true, true, true, true, false, false, false, false, false, false] rfl rfl (by kernel_rfl) (fun _ _ _ h => h) (Or.inr ⟨by rfl, rfl⟩) ?_ ?_
                  rotate_left
                  · simp only [Act.put, List.setIfInBounds_toArray, List.set_cons_zero, List.set_cons_succ, i64_w, i32_w]
                    rfl
                  refine pure_ (i := 13) (N := some 122) (v := undef) (a' := ?_) #[true, true, true, true, true, true, true, true, true, true, true, true, true, true, false, false, false, false, false] rfl rfl (by kernel_rfl) (fun _ _ _ h => h) (Or.inr ⟨by rfl, rfl⟩) ?_ ?_
                  rotate_left
                  · simp only [Act.put, List.setIfInBounds_toArray, List.set_cons_zero, List.set_cons_succ, i64_w, i32_w]
                    rfl
                  refine pure_ (i := 14) (N := some 123) (v := undef) (a' := ?_) #[true, true, true, true, true, true, true, true, true, true, true, true, true, true, true, false, false, false, false] rfl rfl (by kernel_rfl) (fun _ _ _ h => h) (Or.inr ⟨by rfl, rfl⟩) ?_ ?_
                  rotate_left
                  · simp only [Act.put, List.setIfInBounds_toArray, List.set_cons_zero, List.set_cons_succ, i64_w, i32_w]
                    rfl
                  refine pure_ (i := 15) (N := some 124) (v := undef) (a' := ?_) #[true, true, true, true, true, true, true, true, true, true, true, true, true, true, true, true, false, false, false] rfl rfl (by kernel_rfl) (fun _ _ _ h => h) (Or.inr ⟨by rfl, rfl⟩) ?_ ?_
                  rotate_left
                  · simp only [Act.put, List.setIfInBounds_toArray, List.set_cons_zero, List.set_cons_succ, i64_w, i32_w]
                    rfl
                  refine pure_ (i := 16) (N := some 125) (v := undef) (a' := ?_) #[true, true, true, true, true, true, true, true, true, true, true, true, true, true, true, true, true, false, false] rfl rfl (by kernel_rfl) (fun _ _ _ h => h) (Or.inr ⟨by rfl, rfl⟩) ?_ ?_
                  rotate_left
                  · simp only [Act.put, List.setIfInBounds_toArray, List.set_cons_zero, List.set_cons_succ, i64_w, i32_w]
                    rfl
                  refine pure_ (i := 17) (N := some 126) (v := undef) (a' := ?_) #[true, true, true, true, true, true, true, true, true, true, true, true, true, true, true, true, true, true, false] rfl rfl (by kernel_rfl) (fun _ _ _ h => h) (Or.inr ⟨by rfl, rfl⟩) ?_ ?_
                  rotate_left
                  · simp only [Act.put, List.setIfInBounds_toArray, List.set_cons_zero, List.set_cons_succ, i64_w, i32_w]
                    rfl
                  refine pure_ (i := 18) (N := some 127) (v := ?_) (a' := ?_) #[true, true, true, true, true, true, true, true, true, true, true, true, true, true, true, true, true, true, true] rfl rfl (by kernel_rfl) (fun _ _ _ h => h) (Or.inl ⟨by rfl, ?_⟩) ?_ ?_
                  rotate_left
                  · intro w'
                    go_simp
                    with_reducible rfl
                  rotate_left
                  · simp only [Act.put, List.setIfInBounds_toArray, List.set_cons_zero, List.set_cons_succ, i64_w, i32_w]
                    rfl
                  refine done_ (by kernel_rfl) ?_
                  go_wp2_with (first
                    | (go_at_call 37; go_loud (have hz : L9.l.length = m := (by rw [HSM.out, List.length_map, HM.out]); have hx := same_calls HD.out.2.1 HD.out.2.2.2 HSM.out (by omega); rw [hz] at hx; refine hx.mono ?_; clear hx hz; rintro e w11 ⟨rfl, hb11⟩; have H11 := Aside0.mk (And.intro (HD.out.2.2.1.below hb11) (HD.out.2.2.2.below hb11)); clear hb11)))
                  go_roundg (n - (i + 1))
                  case measure => omega
                  case rel => exact ⟨i + 1, m, gy, A1, c1, E9, D9, L9, ms, rfl, rfl, by go_num, by omega, HM.out, ⟨⟨H11.out.1, HQ.out.1, HQ.out.2.2.1.1, HQ.out.2.2.1.2, HSM.out⟩, HQ.out.2.1, HQ.out.2.2.2, H11.out.2, by have := H5.out.ml; omega⟩⟩
                · obtain ⟨k, hk⟩ : ∃ k, k = L9.l.length := ⟨_, rfl⟩
                  have hkm : k = m + 1 := by rw [hk, hmore, List.length_append, List.length_map, List.length_singleton, HM.out]
                  have hdd : decide ((k : Int) > (m : Int)) = true := decide_eq_true (by omega)
                  have hddn : decide (m < k) = true := decide_eq_true (by omega)
                  obtain ⟨gr, cr, hve, hcr, hat⟩ := krow_at H9.out.1 (by rw [← hk]; omega)
                  injection hve with hv1 hv2 hv3
                  subst hv1 hv3
                  obtain ⟨A0, c0, hA0, hC0⟩ := hat m (by rw [← hk]; omega)
                  have hgd : L9.l.getD m [] = b := by rw [hmore, List.getD_eq_getElem?_getD, List.getElem?_append_right (by rw [List.length_map, HM.out]; exact Nat.le_refl _), List.length_map, HM.out, Nat.sub_self]; rfl
                  rw [hgd] at hA0 hC0
                  rw [← HB.out.2.2.2.1] at hA0
                  have hall : ∀ W, Below w9.heap.size w9 W → W.cell? ⟨gr, m, none⟩ = some (.slice A0 bl c0) ∧ (convert 35 9 (.slice A0 bl c0)).run Try.prog W = .ok (.string (strOfNums b)) W ∧ W.cell? (a.add i) = some (.slice B1 bl cb) ∧ (convert 35 9 (.slice B1 bl cb)).run Try.prog W = .ok (.string (strOfNums b)) W := by
                    intro W hW
                    have hWw := below_step H9.out.2.1.bl hW
                    exact ⟨cell_below hA0 hW, conv_nums HB.out.2.2.1 HB.out.2.2.2.1 hC0 hW, (by rw [HB.out.2.2.2.1]; exact cell_below HB.out.2.2.2.2 hWw), conv_nums HB.out.2.2.1 HB.out.2.2.2.1 HB.out.1 hWw⟩
                  have HALL := Aside0.mk hall
                  have HMO := Aside0.mk (And.intro hmore hk)
                  have hmk : (m : Int) < (k : Int) := by omega
                  have hss : ((strOfNums b).toList == (strOfNums b).toList) = true := by simp
                  have hkb : (k : Int) ≤ 9223372036854775807 := by omega
                  rw [← hk]
                  clear hall hmore hk hA0 hC0 hgd hat hcr hkm
                  refine start_ (n := 19) (S := fun w' => Below w9.heap.size w9 w') (ds := []) #[false, false, false, false, false, false, false, false, false, false, false, false, false, false, false, false, false, false, false] (by kernel_rfl) rfl (by kernel_rfl) (by rw [← hwd]; exact HD.out.1) (fun hHeld => ?_)
                  rw [← hwd] at hHeld ⊢
                  clear hwd
                  refine pure_ (i := 0) (N := some 109) (v := ?_) (a' := ?_) #[true, false, false, false, false, false, false, false, false, false, false, false, false, false, false, false, false, false, false] rfl rfl (by kernel_rfl) (fun _ _ _ h => h) (Or.inl ⟨by rfl, ?_⟩) ?_ ?_
                  rotate_left
                  · intro w'
                    go_simp
                    with_reducible rfl
                  rotate_left
                  · simp only [Act.put, List.setIfInBounds_toArray, List.set_cons_zero, List.set_cons_succ, i64_w, i32_w]
                    rfl
                  refine pure_ (i := 1) (N := some 110) (v := ?_) (a' := ?_) #[true, true, false, false, false, false, false, false, false, false, false, false, false, false, false, false, false, false, false] rfl rfl (by kernel_rfl) (fun _ _ _ h => h) (Or.inl ⟨by rfl, ?_⟩) ?_ ?_
                  rotate_left
                  · intro w'
                    go_simp
                    with_reducible rfl
                  rotate_left
                  · simp only [Act.put, List.setIfInBounds_toArray, List.set_cons_zero, List.set_cons_succ, i64_w, i32_w]
                    rfl
                  refine pure_ (i := 2) (N := some 111) (v := ?_) (a' := ?_) #[true, true, true, false, false, false, false, false, false, false, false, false, false, false, false, false, false, false, false] rfl rfl (by kernel_rfl) (fun _ _ _ h => h) (Or.inl ⟨by rfl, ?_⟩) ?_ ?_
                  rotate_left
                  · intro w'
                    go_simp
                    with_reducible rfl
                  rotate_left
                  · simp only [Act.put, List.setIfInBounds_toArray, List.set_cons_zero, List.set_cons_succ, i64_w, i32_w]
                    rfl
                  refine pure_ (i := 3) (N := some 112) (v := ?_) (a' := ?_) #[true, true, true, true, false, false, false, false, false, false, false, false, false, false, false, false, false, false, false] rfl rfl (by kernel_rfl) (fun _ _ _ h => h) (Or.inl ⟨by rfl, ?_⟩) ?_ ?_
                  rotate_left
                  · intro w'
                    go_simp
                    with_reducible rfl
                  rotate_left
                  · simp only [Act.put, List.setIfInBounds_toArray, List.set_cons_zero, List.set_cons_succ, i64_w, i32_w]
                    rfl
                  refine pure_ (i := 4) (N := some 113) (v := ?_) (a' := ?_) #[true, true, true, true, true, false, false, false, false, false, false, false, false, false, false, false, false, false, false] rfl rfl (by kernel_rfl) (fun _ _ _ h => h) (Or.inl ⟨by rfl, ?_⟩) ?_ ?_
                  rotate_left
                  · intro w'
                    go_simp
                    with_reducible rfl
                  rotate_left
                  · simp only [Act.put, List.setIfInBounds_toArray, List.set_cons_zero, List.set_cons_succ, i64_w, i32_w]
                    rfl
                  refine pure_ (i := 5) (N := some 114) (v := ?_) (a' := ?_) #[true, true, true, true, true, true, false, false, false, false, false, false, false, false, false, false, false, false, false] rfl rfl (by kernel_rfl) (fun _ _ _ h => h) (Or.inl ⟨by rfl, ?_⟩) ?_ ?_
                  rotate_left
                  · intro w'
                    go_simp
                    with_reducible rfl
                  rotate_left
                  · simp only [Act.put, List.setIfInBounds_toArray, List.set_cons_zero, List.set_cons_succ, i64_w, i32_w]
                    rfl
                  refine pure_ (i := 6) (N := some 115) (v := ?_) (a' := ?_) #[true, true, true, true, true, true, true, false, false, false, false, false, false, false, false, false, false, false, false] rfl rfl (by kernel_rfl) (fun _ _ _ h => h) (Or.inl ⟨by rfl, ?_⟩) ?_ ?_
                  rotate_left
                  · intro w'
                    go_simp
                    with_reducible rfl
                  rotate_left
                  · simp only [Act.put, List.setIfInBounds_toArray, List.set_cons_zero, List.set_cons_succ, i64_w, i32_w]
                    rfl
                  refine pure_ (i := 7) (N := some 116) (v := ?_) (a' := ?_) #[true, true, true, true, true, true, true, true, false, false, false, false, false, false, false, false, false, false, false] rfl rfl (by kernel_rfl) (fun _ _ _ h => h) (Or.inl ⟨by rfl, ?_⟩) ?_ ?_
                  rotate_left
                  · intro w'
                    go_simp
                    with_reducible rfl
                  rotate_left
                  · simp only [Act.put, List.setIfInBounds_toArray, List.set_cons_zero, List.set_cons_succ, i64_w, i32_w]
                    rfl
                  refine pure_ (i := 8) (N := some 117) (v := ?_) (a' := ?_) #[true, true, true, true, true, true, true, true, true, false, false, false, false, false, false, false, false, false, false] rfl rfl (by kernel_rfl) (fun _ _ _ h => h) (Or.inl ⟨by rfl, ?_⟩) ?_ ?_
                  rotate_left
                  · intro w'
                    go_simp
                    with_reducible rfl
                  rotate_left
                  · simp only [Act.put, List.setIfInBounds_toArray, List.set_cons_zero, List.set_cons_succ, i64_w, i32_w]
                    rfl
                  refine pure_ (i := 9) (N := some 118) (v := ?_) (a' := ?_) #[true, true, true, true, true, true, true, true, true, true, false, false, false, false, false, false, false, false, false] rfl rfl (by kernel_rfl) (fun _ _ _ h => h) (Or.inl ⟨by rfl, ?_⟩) ?_ ?_
                  rotate_left
                  · intro w'
                    go_simp
                    with_reducible rfl
                  rotate_left
                  · simp only [Act.put, List.setIfInBounds_toArray, List.set_cons_zero, List.set_cons_succ, i64_w, i32_w]
                    rfl
                  refine take_ (i := 10) (N := some 119) (v := ?_) (a' := ?_) #[true, true, true, true, true, true, true, true, true, true, true, false, false, false, false, false, false, false, false] rfl rfl (by kernel_rfl) (fun _ _ _ h => h) (Or.inl ⟨by rfl, ?_⟩) hHeld ?_ ?_
                  rotate_left
                  · rintro w' s0
                    obtain ⟨b0, b1, b2, b3⟩ := HALL.out w' s0
                    go_simp
                    with_reducible rfl
                  rotate_left
                  · simp only [Act.put, List.setIfInBounds_toArray, List.set_cons_zero, List.set_cons_succ, i64_w, i32_w]
                    rfl
                  refine take_ (i := 11) (N := some 120) (v := ?_) (a' := ?_) #[true, true, true, true, true, true, true, true, true, true, true, true, false, false, false, false, false, false, false] rfl rfl (by kernel_rfl) (fun _ _ _ h => h) (Or.inl ⟨by rfl, ?_⟩) hHeld ?_ ?_
                  rotate_left
                  · rintro w' s0
                    obtain ⟨b0, b1, b2, b3⟩ := HALL.out w' s0
                    go_simp
                    with_reducible rfl
                  rotate_left
                  · simp only [Act.put, List.setIfInBounds_toArray, List.set_cons_zero, List.set_cons_succ, i64_w, i32_w]
                    rfl
                  refine pure_ (i := 12) (N := some 121) (v := ?_) (a' := ?_) #[true, true, true, true, true, true, true, true, true, true, true, true, true, false, false, false, false, false, false] rfl rfl (by kernel_rfl) (fun _ _ _ h => h) (Or.inl ⟨by rfl, ?_⟩) ?_ ?_
                  rotate_left
                  · intro w'
                    go_simp
                    with_reducible rfl
                  rotate_left
                  · simp only [Act.put, List.setIfInBounds_toArray, List.set_cons_zero, List.set_cons_succ, i64_w, i32_w]
                    rfl
                  refine pure_ (i := 13) (N := some 122) (v := ?_) (a' := ?_) #[true, true, true, true, true, true, true, true, true, true, true, true, true, true, false, false, false, false, false] rfl rfl (by kernel_rfl) (fun _ _ _ h => h) (Or.inl ⟨by rfl, ?_⟩) ?_ ?_
                  rotate_left
                  · intro w'
                    go_simp
                    with_reducible rfl
                  rotate_left
                  · simp only [Act.put, List.setIfInBounds_toArray, List.set_cons_zero, List.set_cons_succ, i64_w, i32_w]
                    rfl
                  refine pure_ (i := 14) (N := some 123) (v := ?_) (a' := ?_) #[true, true, true, true, true, true, true, true, true, true, true, true, true, true, true, false, false, false, false] rfl rfl (by kernel_rfl) (fun _ _ _ h => h) (Or.inl ⟨by rfl, ?_⟩) ?_ ?_
                  rotate_left
                  · intro w'
                    go_simp
                    with_reducible rfl
                  rotate_left
                  · simp only [Act.put, List.setIfInBounds_toArray, List.set_cons_zero, List.set_cons_succ, i64_w, i32_w]
                    rfl
                  refine take_ (i := 15) (N := some 124) (v := ?_) (a' := ?_) #[true, true, true, true, true, true, true, true, true, true, true, true, true, true, true, true, false, false, false] rfl rfl (by kernel_rfl) (fun _ _ _ h => h) (Or.inl ⟨by rfl, ?_⟩) hHeld ?_ ?_
                  rotate_left
                  · rintro w' s0
                    obtain ⟨b0, b1, b2, b3⟩ := HALL.out w' s0
                    go_simp
                    with_reducible rfl
                  rotate_left
                  · simp only [Act.put, List.setIfInBounds_toArray, List.set_cons_zero, List.set_cons_succ, i64_w, i32_w]
                    rfl
                  refine take_ (i := 16) (N := some 125) (v := ?_) (a' := ?_) #[true, true, true, true, true, true, true, true, true, true, true, true, true, true, true, true, true, false, false] rfl rfl (by kernel_rfl) (fun _ _ _ h => h) (Or.inl ⟨by rfl, ?_⟩) hHeld ?_ ?_
                  rotate_left
                  · rintro w' s0
                    obtain ⟨b0, b1, b2, b3⟩ := HALL.out w' s0
                    go_simp
                    with_reducible rfl
                  rotate_left
                  · simp only [Act.put, List.setIfInBounds_toArray, List.set_cons_zero, List.set_cons_succ, i64_w, i32_w]
                    rfl
                  refine pure_ (i := 17) (N := some 126) (v := ?_) (a' := ?_) #[true, true, true, true, true, true, true, true, true, true, true, true, true, true, true, true, true, true, false] rfl rfl (by kernel_rfl) (fun _ _ _ h => h) (Or.inl ⟨by rfl, ?_⟩) ?_ ?_
                  rotate_left
                  · intro w'
                    go_simp
                    with_reducible rfl
                  rotate_left
                  · simp only [Act.put, List.setIfInBounds_toArray, List.set_cons_zero, List.set_cons_succ, i64_w, i32_w]
                    rfl
                  refine pure_ (i := 18) (N := some 127) (v := ?_) (a' := ?_) #[true, true, true, true, true, true, true, true, true, true, true, true, true, true, true, true, true, true, true] rfl rfl (by kernel_rfl) (fun _ _ _ h => h) (Or.inl ⟨by rfl, ?_⟩) ?_ ?_
                  rotate_left
                  · intro w'
                    go_simp
                    with_reducible rfl
                  rotate_left
                  · simp only [Act.put, List.setIfInBounds_toArray, List.set_cons_zero, List.set_cons_succ, i64_w, i32_w]
                    rfl
                  refine done_ (by kernel_rfl) ?_
                  clear hdd hddn hmk hss
                  have hlm : L9.l = (ms ++ [strOfNums b]).map bytesOf := by rw [HMO.out.1, List.map_append, List.map_singleton, str_bytes HB.out.2.2.1]
                  have HLM := Aside0.mk hlm
                  have hml : (ms ++ [strOfNums b]).length = ms.length + 1 := by rw [List.length_append, List.length_singleton]
                  have HML := Aside0.mk hml
                  clear hlm hml
                  go_wp2_with (first
                    | (go_at_call 37; go_loud (have hx := same_calls H12.out.2.1 H12.out.2.2 HLM.out (by rw [HML.out]; omega); rw [← HMO.out.2, HML.out] at hx; refine hx.mono ?_; clear hx; rintro e w13 ⟨rfl, hb13⟩; have H13 := Aside0.mk (And.intro (H12.out.1.below hb13) (Kd.R_below H12.out.2.2 hb13)); clear hb13))
                    | ((with_reducible refine gate_builtin (b := .append) (xs := #[.tmp 128, .tmp 134]) rfl ?_); at_builtin; go_loud ( refine Kd.R_append Kd.string (w0 := w) (W := wd) w.heap.size ?q1 (.tmp 128) (.tmp 134) 28 9 (.string ByteArray.empty) 16 ?q2 Try.underlying28 ?q3 ?q4 (by decide) (by decide) (.slice A1 m c1) ms (strOfNums b) [.string (strOfNums b)] (fun k => ¬ E9 k) (fun _ => False) ?q5 ?q6 ?aM (fun _ hk => hk.elim) ?aF ?aH ?aB ?aS ?aL ?_; (case q1 => rfl); (case q2 => rfl); (case q3 => exact info_str); (case q4 => rfl); (case q5 => rfl); (case q6 => rfl); (case aH => exact HD.out.2.2.2); (case aM => exact (show Kd.M Kd.string _ _ _ (strOfNums b) [.string (strOfNums b)] from rfl)); (case aF => exact fun k hk he => by have := (HD.out.2.2.1.ed k he).2; omega); (case aB => exact HD.out.2.2.1.bl); (case aS => exact below_size HD.out.2.2.1.bl); (case aL => omega); intro v12 w12 ho12 hb12 hg12 _; obtain ⟨A12, c12, rfl, _, _⟩ := Kd.R_reads ho12; have H12 := Aside0.mk (And.intro (HD.out.2.2.1.kept (S := fun k => (Value.slice A1 m c1).ownBlock = some k) (Kept.of_grown hg12 (Kept.refl _ _) (fun k e => .inl e)) (fun k hE e => HD.out.2.2.2.1 k e hE) hb12) (And.intro (show KR.R 35 w12 w8.heap.size (fun k => w8.heap.size ≤ k) _ _ from Kd.R_grown (Kd.R_mono (Kd.R_bound HD.out.2.1) (fun k hk => hk.2.1)) hg12 (fun k hk e => by have h1 := HT8.out k e.symm; omega)) ho12)); clear ho12 hb12 hg12)))
                  go_roundg (n - (i + 1))
                  case measure => omega
                  case rel =>
                    have h13 := H13.out.2
                    rw [HML.out] at h13
                    exact ⟨i + 1, ms.length + 1, gy, A12, c12, E9, D9, L9, ms ++ [strOfNums b], rfl, rfl, by go_num, by omega, HML.out.symm, ⟨⟨H13.out.1, HQ.out.1, HQ.out.2.2.1.1, HQ.out.2.2.1.2, HLM.out⟩, HQ.out.2.1, HQ.out.2.2.2, h13, by rw [HML.out]; have := H5.out.ml; omega⟩⟩
      · have d4 : decide ((i : Int) < (n : Int)) = false := decide_eq_false (by omega)
        have d4n : decide (i < n) = false := decide_eq_false (by omega)
        have hm65 : ms.length ≤ 65536 := by have := hI.out.ml; omega
        go_wp2_with (first
          | (go_at_call 31; go_loud (have hx := hI.out.rs.sys.records; rw [hI.out.rs.l] at hx; refine hx.mono ?_; clear hx; rintro e w8 ⟨v8, rfl, hr8, hb8⟩; have H8 := Aside0.mk (And.intro hr8 (And.intro (hI.out.rs.sys.below hb8) (hI.out.td.below hb8))); clear hr8 hb8))
          | (go_at_call 37; go_loud (rw [HM.out]; refine (same_calls H8.out.1 (by have h := H8.out.2.2; rw [HM.out] at h; exact h) rfl hm65).mono ?_; rintro e w9 ⟨rfl, hb9⟩; have H9 := Aside0.mk (H8.out.2.1.below hb9); clear hb9)))
        go_ret
        exact ⟨rfl, H9.out.bl⟩
def InR (w : World) (a : Option Addr) (len cap : Nat) (zs : List Int) : Prop :=
  (a = none ∧ len = 0 ∧ cap = 0 ∧ zs = []) ∨
  ∃ x, a = some x ∧ len ≤ cap ∧ cap ≤ maxLen ∧ zs.length = cap ∧ (∀ i, i < zs.length → w.cell? (x.add i) = some (.int .u8 (zs.getD i 0))) ∧ ∀ n ∈ zs, (Lit.int .u8 n).wf = true
theorem row_in {a : Option Addr} {len cap : Nat} {zs : List Int} (h : InR w a len cap zs) (hl : len * 1 ≤ 140737488351232) : ∃ xs, len = xs.length ∧ Kd.C (Kd.int .u8) w a xs.length xs ∧ len ≤ cap ∧ Byt xs := by
  obtain ⟨l0, rfl, hr0, hm0, hw0, hc0⟩ := ReadsInt.ofRowC h
  exact ⟨l0, rfl, Kd.C_of_reads (d := (0 : Int)) (h1 := fun _ => rfl) hr0, hc0, byt_of_wf hw0⟩
theorem torn_row {H : Type} {enc : TypeId × Value → H} {base : Nat} {held : Bool} {A B C : Option Addr} {len cap len1 cap1 len2 cap2 : Nat} {z1 z2 : List Int} {d : DataW H} {p : List MemPlace} (h : DataW.Trod enc Try.prog w base (fun _ => true) held 56 (.slice A len cap) d p) (h1 : InR w B len1 cap1 z1) (y1 : len1 * 1 ≤ 140737488351232) (h2 : InR w C len2 cap2 z2) (y2 : len2 * 1 ≤ 140737488351232) :
    Calls Try.prog 11 #[.slice A len cap, .slice B len1 cap1, .slice C len2 cap2] w fun e w' => e = .returned (.bool true) ∧ Below w.heap.size w w' := by
  obtain ⟨l, rfl, hl, _, hy⟩ := open_rows Try.underlying56 Try.underlying35 Try.underlying5 (by kernel_rfl) (by kernel_rfl) h
  obtain ⟨st, rfl, hs, _, hsy⟩ := row_in h1 y1
  obtain ⟨tn, rfl, ht, _, hty⟩ := row_in h2 y2
  exact torn_law hl hy hs hsy ht hty
end
end Go.Proofs.Ytnajdnhgoakgaaa.Wal
