/- Add: what it does, by values; its parts. -/
import Derived.Test.YtnajdnhgoakgaaaBeg
namespace Go.Proofs.Ytnajdnhgoakgaaa.Wal
open Go.RowKit Go.Proofs.YtnajdnhgoakgaaaW.PrintWords Go.Proofs.YtnajdnhgoakgaaaW.PrintLast Go.Proofs.YtnajdnhgoakgaaaW.PrintMore Go.Proofs.Ytnajdnhgoakgaaa.Mem Go.Proofs.Ytnajdnhgoakgaaa.PWal Go.Proofs.Ytnajdnhgoakgaaa.Blk
set_option linter.unusedVariables false
set_option linter.unusedSimpArgs false
set_option maxRecDepth 8000
set_option maxHeartbeats 4000000
/-- How many pieces; piece j. -/
def npc (b : List Int) : Nat := if b.length = 0 then 1 else pieces b.length
def partAt (b : List Int) (j : Nat) : List Int := (b.drop (110 * j)).take 110
theorem npc_pos (b : List Int) : 1 ≤ npc b := by unfold npc pieces; split <;> omega
theorem partAt_le (b : List Int) (j : Nat) : (partAt b j).length ≤ 110 := by unfold partAt; rw [List.length_take]; omega
theorem partAt_len (b : List Int) (j : Nat) : (partAt b j).length = pieceLen b.length j := by unfold partAt pieceLen; rw [List.length_take, List.length_drop]
theorem partAt_byt {b : List Int} (h : Byt b) (j : Nat) : Byt (partAt b j) := fun x hx => h x (List.mem_of_mem_drop (List.mem_of_mem_take hx))
def blkS (nx : Int) (b : List Int) (i : Nat) : ByteArray := strOfNums (laidM (nx + i) (partAt b i) (decide (i = npc b - 1)))
theorem ebit_byt (e : Bool) : 0 ≤ ebit e ∧ ebit e ≤ 255 := by cases e <;> decide
theorem laidM_byt {n : Int} {p : List Int} (e : Bool) (hp : Byt p) (hl : p.length ≤ 110) : Byt (laidM n p e) := by
  unfold laidM
  intro x hx
  simp only [List.mem_append, List.mem_cons, List.not_mem_nil, or_false] at hx
  rcases hx with ((hx | hx | hx) | hx | hx) | hx
  · exact num8_byt n x hx
  · rw [hx]; omega
  · rw [hx]; exact ebit_byt e
  · exact hp x hx
  · rw [List.eq_of_mem_replicate hx]; omega
  · exact num8_byt n x hx
theorem str_size (l : List Int) : (strOfNums l).size = l.length := by
  show (strOfNums l).data.size = _
  rw [← Array.length_toList, strOfNums_data, List.length_map]
theorem blkS_size (nx : Int) (b : List Int) (i : Nat) : (blkS nx b i).size = 128 := by
  unfold blkS
  rw [str_size, laidM_len _ _ (partAt_le b i)]
theorem blkS_bytes (nx : Int) {b : List Int} (hb : Byt b) (i : Nat) : bytesOf (blkS nx b i) = laidM (nx + i) (partAt b i) (decide (i = npc b - 1)) := bytesOf_str (laidM_byt _ (partAt_byt hb i) (partAt_le b i))
/-- The writes from piece i on. -/
def wrs (at_ nx : Int) (b : List Int) : Nat → Nat → DM → DM × Int
  | _, 0, D => (D, 0)
  | i, r + 1, D => if (D.write (at_ + i) (blkS nx b i)).2 = 0 then wrs at_ nx b (i + 1) r (D.write (at_ + i) (blkS nx b i)).1 else D.write (at_ + i) (blkS nx b i)
def LM.added (L : LM) (b : List Int) : LM := { L with first := if L.hv = 0 then L.next else L.first, l := L.l ++ [b], hv := L.hv + npc b, next := L.next + npc b }
def addM (D : DM) (L : LM) (b : List Int) : DM × LM × Int :=
  if L.e ≠ 0 then (D, L, L.e) else if L.n - L.hv < npc b then (D, L, 31) else if L.next = 0 ∨ 18446744073709551615 < L.next + npc b then (D, L, 38)
  else if (wrs (L.fr + L.hv) L.next b 0 (npc b) D).2 = 0 then ((wrs (L.fr + L.hv) L.next b 0 (npc b) D).1, L.added b, 0)
  else ((wrs (L.fr + L.hv) L.next b 0 (npc b) D).1, { L with e := (wrs (L.fr + L.hv) L.next b 0 (npc b) D).2 }, (wrs (L.fr + L.hv) L.next b 0 (npc b) D).2)
theorem added_ok {L : LM} (h : L.Ok) {b : List Int} (h1 : ¬ L.n - L.hv < npc b) (h2 : ¬ (L.next = 0 ∨ 18446744073709551615 < L.next + npc b)) (hl : b.length ≤ 100000000) (hb : Byt b) : (L.added b).Ok := by
  have hp := npc_pos b
  refine ⟨h.f0, h.n1, h.fn, ?_, ?_, ?_, ?_, ?_, ?_, ?_, ?_, ?_⟩
  · show 0 ≤ (if L.hv = 0 then L.next else L.first); split; exact h.x0; exact h.i0
  · show (if L.hv = 0 then L.next else L.first) ≤ _; split; exact h.x1; exact h.i1
  · have := h.x0; show 0 ≤ L.next + npc b; omega
  · show L.next + npc b ≤ _; omega
  · have := h.h0; show 0 ≤ L.hv + npc b; omega
  · show L.hv + npc b ≤ L.n; omega
  · have := h.lh; show ((L.l ++ [b]).length : Int) ≤ L.hv + npc b; rw [List.length_append, List.length_singleton]; omega
  · intro r hr
    rcases List.mem_append.1 hr with hr | hr
    · exact h.rl r hr
    · rw [List.mem_singleton.1 hr]; exact hl
  · intro r hr
    rcases List.mem_append.1 hr with hr | hr
    · exact h.rb r hr
    · rw [List.mem_singleton.1 hr]; exact hb
section
variable {w : World}
theorem parts_any (b : List Int) (A : Option Addr) (cap : Nat) (hC : Kd.C (Kd.int .u8) w A b.length b) (hc : b.length ≤ cap) (hl : b.length < 140737488355328) :
    Calls Try.prog 48 #[.slice A b.length cap] w fun e w' => ∃ (Ap : Option Addr) (cp : Nat) (pA : Nat → Option Addr) (pc : Nat → Nat), e = .returned (.slice Ap (npc b) cp) ∧ w'.ownsRow w.heap.size 35 1 (.slice Ap (npc b) cp) (npc b) ((List.range (npc b)).map fun j => .slice (pA j) (partAt b j).length (pc j)) ∧ (∀ j W, j < npc b → Kd.C (Kd.int .u8) W A b.length b → Kd.C (Kd.int .u8) W (pA j) (partAt b j).length (partAt b j)) ∧ Below w.heap.size w w' := by
  have sl : ∀ {w' : World} {v : Value} {n : Nat} {xs : List Value}, w'.ownsRow w.heap.size 35 1 v n xs → ∃ Ap cp, v = .slice Ap n cp := fun h => by
    rcases h.2 with ⟨rfl, rfl⟩ | ⟨g, cap, cur, rfl, _⟩
    · exact ⟨none, 0, rfl⟩
    · exact ⟨_, cap, rfl⟩
  by_cases h0 : b.length = 0
  · have hnp : npc b = 1 := if_pos h0
    rw [hnp, h0]
    refine (parts_none A cap).mono ?_
    rintro e w' ⟨v, rfl, ho, hb⟩
    obtain ⟨Ap, cp, rfl⟩ := sl ho
    have hz : partAt b 0 = [] := List.eq_nil_of_length_eq_zero (by rw [partAt_len, h0]; rfl)
    refine ⟨Ap, cp, fun _ => none, fun _ => 0, rfl, ?_, ?_, hb⟩
    · rw [show (List.range 1).map (fun j => Value.slice none (partAt b j).length 0) = [.slice none 0 0] by rw [show List.range 1 = [0] from rfl, List.map_cons, hz]; rfl]
      exact ho
    · intro j W hj _
      obtain rfl : j = 0 := by omega
      rw [hz]
      exact ⟨rfl, by simp, fun h => absurd h (by simp)⟩
  · have hnp : npc b = pieces b.length := if_neg h0
    obtain ⟨ad, rfl, _⟩ := cells_C hC (by omega)
    rw [hnp]
    refine (parts_calls ad b.length cap hc (by omega) hl).mono ?_
    rintro e w' ⟨v, rfl, ho, hb⟩
    obtain ⟨Ap, cp, rfl⟩ := sl ho
    refine ⟨Ap, cp, fun j => some (ad.add (110 * j)), fun j => pieceLen b.length j, rfl, ?_, ?_, hb⟩
    · have e : (List.range (pieces b.length)).map (fun j => Value.slice (some (ad.add (110 * j))) (partAt b j).length (pieceLen b.length j)) = (upto (pieceAt ad b.length) (pieces b.length)).map pieceV := by
        unfold upto
        rw [List.map_map]
        apply List.map_congr_left
        intro j _
        simp only [Function.comp, pieceAt, pieceV, partAt_len]
      rw [e]
      exact ho
    · intro j W hj hW
      have hjl : 110 * j + pieceLen b.length j ≤ b.length := by unfold pieces at hj; unfold pieceLen; omega
      have h := C_part hW (110 * j) (pieceLen b.length j) hjl
      have e : (b.drop (110 * j)).take (pieceLen b.length j) = partAt b j := by
        unfold partAt pieceLen
        rw [← List.length_drop, ← List.take_eq_take_min]
      rw [e] at h
      rw [partAt_len]
      exact h
end
end Go.Proofs.Ytnajdnhgoakgaaa.Wal
