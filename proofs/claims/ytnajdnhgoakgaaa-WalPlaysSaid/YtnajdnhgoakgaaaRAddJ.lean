/- The document's log: Add, whole, beside the program's. -/
import Derived.Test.YtnajdnhgoakgaaaRAddG
namespace Go.Proofs.Ytnajdnhgoakgaaa.Blk
open Go.RowKit Go.Proofs.YtnajdnhgoakgaaaW.PrintWords Go.Proofs.YtnajdnhgoakgaaaW.PrintLast Go.Proofs.YtnajdnhgoakgaaaW.PrintMore Go.Proofs.Ytnajdnhgoakgaaa.Mem Go.Proofs.Ytnajdnhgoakgaaa.Open Go.Proofs.Ytnajdnhgoakgaaa.Wal
set_option linter.unusedVariables false
def Nz (L : LM) : Prop := L.hv ≠ 0 → L.l ≠ []
theorem nz_added {D : DM} {L : LM} {b : List Int} (h : Nz L) : Nz (addM D L b).2.1 := by
  unfold addM
  split
  · exact h
  · split
    · exact h
    · split
      · exact h
      · split
        · intro _ h2
          have : (L.l ++ [b]).length = 0 := by rw [show L.l ++ [b] = [] from h2]; rfl
          rw [List.length_append] at this
          simp at this
        · exact h
theorem raddG_refl {D : DM} {L : LM} {b : List Int} (hz : Nz L) (he : L.e = 0) (hf : ¬ L.n - L.hv < npc b) (hx : ¬ (L.next = 0 ∨ 18446744073709551615 < L.next + npc b)) :
    raddG D L.fr L.n L.First L.next L.hv (L.l.map strOfNums) b = ((addM D L b).1, refl_ (addM D L b).2.1, (addM D L b).2.2) := by
  by_cases h1 : (wrs (L.fr + L.hv) L.next b 0 (npc b) D).2 = 0
  · have ha : addM D L b = ((wrs (L.fr + L.hv) L.next b 0 (npc b) D).1, L.added b, 0) := by unfold addM; rw [if_neg (by rw [he]; simp), if_neg hf, if_neg hx, if_pos h1]
    have hl : (L.added b).First = if L.hv = 0 then L.next else L.First := by
      show (if (L.l ++ [b]).length = 0 then 0 else if L.hv = 0 then L.next else L.first) = _
      rw [if_neg (by rw [List.length_append]; simp)]
      by_cases h0 : L.hv = 0
      · rw [if_pos h0, if_pos h0]
      · rw [if_neg h0, if_neg h0]
        unfold LM.First
        rw [if_neg (fun h => hz h0 (List.eq_nil_of_length_eq_zero h))]
    have hr : refl_ (L.added b) = ⟨L.fr, L.n, if L.hv = 0 then L.next else L.First, L.next + npc b, L.hv + npc b, L.l.map strOfNums ++ [strOfNums b], 0⟩ := by
      unfold refl_
      rw [hl]
      show (⟨L.fr, L.n, _, L.next + npc b, L.hv + npc b, (L.l ++ [b]).map strOfNums, L.e⟩ : RL) = _
      rw [he, List.map_append]
      rfl
    rw [ha]
    show _ = (_, refl_ (L.added b), _)
    rw [hr]
    exact if_pos h1
  · have ha : addM D L b = ((wrs (L.fr + L.hv) L.next b 0 (npc b) D).1, { L with e := (wrs (L.fr + L.hv) L.next b 0 (npc b) D).2 }, (wrs (L.fr + L.hv) L.next b 0 (npc b) D).2) := by unfold addM; rw [if_neg (by rw [he]; simp), if_neg hf, if_neg hx, if_neg h1]
    rw [ha]
    exact if_neg h1
section
variable {w0 w : World} {A B : Option Addr} {m c q d : Nat} {D : DM} {L : LM} {b : List Int}
theorem radd_calls (hp : RPre w0 w (.slice A m c) (.slice B q d) D (refl_ L)) (hok : D.Ok) (hL : L.Ok) (hz : Nz L) (hy : Byt b) (hX : b.length ≤ 100000) :
    Calls Try.prog 43 #[dv (.slice A m c) D, lv (.slice B q d) (refl_ L), .string (strOfNums b)] w fun e w' => ∃ v u, e = .returned (.tuple #[dv v (addM D L b).1, lv u (refl_ (addM D L b).2.1), .int .i64 (addM D L b).2.2]) ∧ APost w0 w w' (.slice A m c) (.slice B q d) v u (addM D L b).1 (refl_ (addM D L b).2.1) := by
  have hs : blocksM (strOfNums b).size = (npc b : Int) := by rw [str_size]; exact (npc_blocks b).symm
  have hb3 : 0 ≤ L.hv ∧ L.hv ≤ L.n ∧ L.n ≤ 65536 ∧ 0 ≤ L.fr ∧ L.fr + L.n ≤ 65536 := by
    have h1 := hL.h0; have h2 := hL.h1; have h3 := hL.fn; have h4 := hL.f0
    omega
  by_cases he : L.e = 0
  · by_cases hf : L.n - L.hv < npc b
    · have ha : addM D L b = (D, L, 31) := by unfold addM; rw [if_neg (by rw [he]; simp), if_pos hf]
      rw [ha]
      exact radd_full (er := L.e) hp he (by rw [str_size]; exact hX) hs ⟨hb3.1, hb3.2.1, hb3.2.2.1⟩ hf
    · by_cases hx : L.next = 0 ∨ 18446744073709551615 < L.next + npc b
      · have ha : addM D L b = (D, L, 38) := by unfold addM; rw [if_neg (by rw [he]; simp), if_neg hf, if_pos hx]
        rw [ha]
        exact radd_worn (er := L.e) hp he (by rw [str_size]; exact hX) hs ⟨hb3.1, hb3.2.1, hb3.2.2.1⟩ hf hL.x0 hL.x1 hx
      · have h := raddG_refl (D := D) (b := b) hz he hf hx
        have e1 : (addM D L b).1 = (raddG D L.fr L.n L.First L.next L.hv (L.l.map strOfNums) b).1 := by rw [h]
        have e2 : refl_ (addM D L b).2.1 = (raddG D L.fr L.n L.First L.next L.hv (L.l.map strOfNums) b).2.1 := by rw [h]
        have e3 : (addM D L b).2.2 = (raddG D L.fr L.n L.First L.next L.hv (L.l.map strOfNums) b).2.2 := by rw [h]
        rw [e1, e2, e3]
        have hl : (L.l.map strOfNums).length ≤ 65536 := by rw [List.length_map]; have := hL.lh; omega
        have hr : refl_ L = ⟨L.fr, L.n, L.First, L.next, L.hv, L.l.map strOfNums, 0⟩ := by unfold refl_; rw [he]
        rw [hr] at hp ⊢
        exact radd_go hp hok hy hX rfl hb3 hf (by have := hL.x0; omega) (by omega) hl
  · have ha : addM D L b = (D, L, L.e) := by unfold addM; rw [if_pos he]
    rw [ha]
    exact radd_err hp he
end
end Go.Proofs.Ytnajdnhgoakgaaa.Blk
