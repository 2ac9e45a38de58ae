/- parts: a record's pieces, one for each block. -/
import Derived.Test.YtnajdnhgoakgaaaChunk
import Derived.Test.YtnajdnhgoakgaaaBlk
namespace Go.Proofs.Ytnajdnhgoakgaaa.Wal
open Go.RowKit Go.Proofs.YtnajdnhgoakgaaaW.PrintWords Go.Proofs.YtnajdnhgoakgaaaW.PrintLast Go.Proofs.YtnajdnhgoakgaaaW.PrintMore Go.Proofs.Ytnajdnhgoakgaaa.Mem
set_option linter.unusedVariables false
set_option linter.unusedSimpArgs false
section
variable {w : World}
theorem appendSeq_calls (Bs Bn : Nat) (ad : Addr) (len cap : Nat) (hc : len ≤ cap) (hreach : pieces len * 24 ≤ 140737488355328) (hl : len < 140737488355328) (hBs : Bs < w.heap.size) (hBn : Bn < w.heap.size)
    (hs : w.cell? ⟨Bs, 0, none⟩ = some (.slice (some ad) len cap)) (hm : w.cell? ⟨Bn, 0, none⟩ = some (.int .i64 110)) :
    Calls Try.prog 60 #[.slice none 0 0, .func (.func 61) #[] #[.pointer (some ⟨Bs, 0, none⟩), .pointer (some ⟨Bn, 0, none⟩)]] w fun e W' => ∃ v, e = .returned v ∧ W'.ownsRow w.heap.size 35 1 v (pieces len) ((upto (pieceAt ad len) (pieces len)).map pieceV) ∧ Below w.heap.size w W' :=
  (callsIn_wide (n := 3)).1 (appendSeq_in Fence.wide 3 trivial trivial rfl (Nat.le_refl _) Bs Bn ad len cap hc hreach hl w hBs hBn hs hm)
theorem collect_calls (Bs Bn : Nat) (ad : Addr) (len cap : Nat) (hc : len ≤ cap) (hreach : pieces len * 24 ≤ 140737488355328) (hl : len < 140737488355328) (hBs : Bs < w.heap.size) (hBn : Bn < w.heap.size)
    (hs : w.cell? ⟨Bs, 0, none⟩ = some (.slice (some ad) len cap)) (hm : w.cell? ⟨Bn, 0, none⟩ = some (.int .i64 110)) :
    Calls Try.prog 56 #[.func (.func 61) #[] #[.pointer (some ⟨Bs, 0, none⟩), .pointer (some ⟨Bn, 0, none⟩)]] w fun e W' => ∃ v, e = .returned v ∧ W'.ownsRow w.heap.size 35 1 v (pieces len) ((upto (pieceAt ad len) (pieces len)).map pieceV) ∧ Below w.heap.size w W' := by
  have hx := Aside0.mk (appendSeq_calls Bs Bn ad len cap hc hreach hl hBs hBn hs hm)
  clear hc hreach hl hBs hBn hs hm
  go_enter Try.func56, Try.ntmps56
  go_wp2_with (go_at_call 60; go_loud (refine hx.out.mono ?_; rintro e w1 ⟨v, rfl, h1, h2⟩; have H1 := Aside0.mk (And.intro h1 h2); clear h1 h2))
  go_ret
  exact ⟨_, rfl, H1.out⟩
theorem chunk_calls (ad : Addr) (len cap : Nat) : Calls Try.prog 57 #[.slice (some ad) len cap, .int .i64 110] w fun e W' => ∃ Bs Bn, e = .returned (.func (.func 61) #[] #[.pointer (some ⟨Bs, 0, none⟩), .pointer (some ⟨Bn, 0, none⟩)]) ∧ Bs < W'.heap.size ∧ Bn < W'.heap.size ∧ W'.cell? ⟨Bs, 0, none⟩ = some (.slice (some ad) len cap) ∧ W'.cell? ⟨Bn, 0, none⟩ = some (.int .i64 110) ∧ Below w.heap.size w W' := by
  go_enter Try.func57, Try.ntmps57
  go_wp2
  go_ret
  have hb1 : Below w.heap.size w (w.alloc (.cells #[.slice (some ad) len cap] 35)) := below_alloc (Below.refl _ _) _
  have c1 := blk_new w (.cells #[.slice (some ad) len cap] 35)
  have hb2 : Below (w.alloc (.cells #[.slice (some ad) len cap] 35)).heap.size (w.alloc (.cells #[.slice (some ad) len cap] 35)) ((w.alloc (.cells #[.slice (some ad) len cap] 35)).alloc (.cells #[.int .i64 110] 3)) := below_alloc (Below.refl _ _) _
  have c2 := blk_new (w.alloc (.cells #[.slice (some ad) len cap] 35)) (.cells #[.int .i64 110] 3)
  have c1' := (hb2.block _ (blk_lt c1)).trans c1
  exact ⟨w.heap.size, w.heap.size + 1, by simp, blk_lt c1', by simp, (blk_cell c1' 0).trans rfl, by rw [← World.size_alloc w (.cells #[.slice (some ad) len cap] 35)]; exact (blk_cell c2 0).trans rfl, below_step hb1 hb2⟩
/-- parts. -/
theorem parts_calls (ad : Addr) (len cap : Nat) (hc : len ≤ cap) (h0 : 0 < len) (hl : len < 140737488355328) : Calls Try.prog 48 #[.slice (some ad) len cap] w fun e W' => ∃ v, e = .returned v ∧ W'.ownsRow w.heap.size 35 1 v (pieces len) ((upto (pieceAt ad len) (pieces len)).map pieceV) ∧ Below w.heap.size w W' := by
  have hre : pieces len * 24 ≤ 140737488355328 := by unfold pieces; omega
  have HX := Aside0.mk (And.intro hc (And.intro hl hre))
  have b0 : ((len : Int) == 0) = false := beq_eq_false_iff_ne.2 (by omega)
  clear hc hl hre
  go_enter Try.func48, Try.ntmps48
  go_wp2_with (first
    | (go_at_call 57; go_loud (refine (chunk_calls (w := w) ad len cap).mono ?_; rintro e w1 ⟨Bs, Bn, rfl, h1, h2, h3, h4, h5⟩; have H1 := Aside0.mk (And.intro h1 (And.intro h2 (And.intro h3 (And.intro h4 h5)))); clear h1 h2 h3 h4 h5))
    | (go_at_call 56; go_loud (refine (collect_calls (w := w1) Bs Bn ad len cap HX.out.1 HX.out.2.2 HX.out.2.1 H1.out.1 H1.out.2.1 H1.out.2.2.1 H1.out.2.2.2.1).mono ?_; rintro e w2 ⟨v, rfl, h1, h2⟩; have H2 := Aside0.mk (And.intro (own_weaken h1 H1.out.2.2.2.2.size) (below_step H1.out.2.2.2.2 h2)); clear h1 h2)))
  go_ret
  exact ⟨_, rfl, H2.out⟩
/-- .. of no bytes: one piece, that has none. -/
theorem parts_none (A : Option Addr) (cap : Nat) : Calls Try.prog 48 #[.slice A 0 cap] w fun e W' => ∃ v, e = .returned v ∧ W'.ownsRow w.heap.size 35 1 v 1 [.slice none 0 0] ∧ Below w.heap.size w W' := by
  go_enter Try.func48, Try.ntmps48
  go_wp2
  go_ret
  refine ⟨_, rfl, ⟨rfl, .inr ⟨w.heap.size, 1, #[.slice none 0 0], rfl, Nat.le_refl _, blk_new w _, Nat.le_refl _, by unfold maxLen; omega, rfl, rfl⟩⟩, below_alloc (Below.refl _ _) _⟩
end
end Go.Proofs.Ytnajdnhgoakgaaa.Wal
