/- '[]byte("..")' of a constant as an event of a walk: the row that was laid bears a mark behind it; it is read from then on. -/
import Derived.Test.YtnajdnhgoakgaaaWWa
import Derived.Lib.SlBytesConst
namespace Go.Proofs.Ytnajdnhgoakgaaa.Conv
open Go.RowKit Go.Proofs.YtnajdnhgoakgaaaW.PrintWords Go.Proofs.YtnajdnhgoakgaaaW.PrintLast Go.Proofs.YtnajdnhgoakgaaaW.PrintMore
set_option linter.unusedVariables false
set_option linter.unusedSimpArgs false

theorem mark_run {P : Program} {W : World} {t e : TypeId} {g n c : Nat} {cur : Array Value} (ht : P.underlying t = some (.slice e)) (he : P.underlying e = some (.int .u8)) (hb : W.heap[g]? = some (.cells cur e (0, 0))) :
    ∃ W', (convert t t (.slice (some ⟨g, 0, none⟩) n c)).run P W = .ok (.slice (some ⟨g, 0, none⟩) n c) W' ∧ W.grownBy W' (some g) ∧ W'.heap[g]? = some (.cells cur e (cur.size, cur.size + 1)) := by
  have hsh : W.shape? g = some (e, cur.size) := by
    unfold World.shape?
    rw [hb]
  refine ⟨W.freeze ⟨g, cur.size, none⟩ 1, ?_, ?_, ?_⟩
  · simp [convert, run_underlying ht, run_underlying he, markStringish, hsh]
  · unfold World.freeze
    rw [if_neg (by decide)]
    refine ⟨rfl, rfl, rfl, by simp, fun k hk hne => ?_⟩
    simp only [Array.getElem?_modify]
    rw [if_neg (fun h => hne (by rw [h]))]
  · unfold World.freeze
    rw [if_neg (by decide)]
    simp [Array.getElem?_modify, hb]

section
variable {P : Program} {ops : Array Oper} {rest : List Oper} {o : Oper} {a : Act} {Q : Exit → Act → World → Prop}
theorem conv_event {w0 W : World} {base : Nat} {t e : TypeId} {x : Operand} (hgd : o.guard = none) (ho : o.op = .convert t t x) (ht : P.underlying t = some (.slice e)) (he : P.underlying e = some (.int .u8))
    {ok : Nat → Prop} {A : Option Addr} {n c : Nat} {xs : List Int} (hx : a.eval x = .slice A n c) (HO : Kd.R (Kd.int .u8) e W base ok (.slice A n c) xs) (hpos : 0 < xs.length) (HB : Below base w0 W) (hbase : base ≤ W.heap.size)
    (h : ∀ W', n = xs.length → xs.length ≤ c → Kd.C (Kd.int .u8) W' A xs.length xs → W.grownBy W' (Value.slice A n c).ownBlock → Below base w0 W' → wpList P ops Q rest (a.put o.dst (.slice A n c)) W') :
    wpList P ops Q (o :: rest) a W := by
  have hR := Kd.R_reads' HO
  obtain ⟨h0, inner, hown, hr⟩ := HO
  have hn : n = xs.length := hR.1
  rcases hown.2 with ⟨hv, hz⟩ | ⟨g, cap, cur, hv, hb, hh, h1, h2, h3, h4⟩
  · omega
  · injection hv with hA _ hc
    subst hA
    obtain ⟨W', hrun, hg, hh'⟩ := mark_run (P := P) (n := n) (c := c) ht he hh
    refine Kd.event_run hgd (v := .slice (some ⟨g, 0, none⟩) n c) (w1 := W') ?_ (h W' hn (by omega) ?_ hg (HB.grown hg hbase (fun k hk => by injection hk with hk; omega)))
    · unfold execOp
      simp [ho, hx, hrun]
    · obtain ⟨q1, q2, q3⟩ := hR.2.2
      refine ⟨q1, q2, fun hp => ?_⟩
      obtain ⟨ad, e1, hc0⟩ := q3 hp
      refine ⟨ad, e1, fun j p hj => ?_⟩
      obtain ⟨cc, hl, hk, hcell⟩ := hc0 j p hj
      refine ⟨cc, hl, hk, fun i u hu => ?_⟩
      have hq := hcell i u hu
      injection e1 with e1
      subst e1
      rw [← hq]
      have e2 : ((⟨g, 0, none⟩ : Addr).add (j * (Kd.int IntKind.u8).sz + i)) = ⟨g, j * (Kd.int IntKind.u8).sz + i, none⟩ := add_plain _ _
      rw [e2]
      simp [World.cell?, hh, hh']
end
end Go.Proofs.Ytnajdnhgoakgaaa.Conv
