/- The state of WalPlays: the program's disk and log in E, the document's in two variables. -/
import Derived.Test.YtnajdnhgoakgaaaRAddJ
import Derived.Test.YtnajdnhgoakgaaaRBeg
import Derived.Test.YtnajdnhgoakgaaaSys
namespace Go.Proofs.Ytnajdnhgoakgaaa.Blk
open Go.RowKit Go.Proofs.YtnajdnhgoakgaaaW.PrintWords Go.Proofs.YtnajdnhgoakgaaaW.PrintLast Go.Proofs.YtnajdnhgoakgaaaW.PrintMore Go.Proofs.Ytnajdnhgoakgaaa.Mem Go.Proofs.Ytnajdnhgoakgaaa.Open Go.Proofs.Ytnajdnhgoakgaaa.Wal
set_option linter.unusedVariables false
/-- The document's two variables, apart from E. -/
structure P9 (w0 W : World) (E : Nat → Prop) (ga gb : Nat) (v u : Value) (D : DM) (R : RL) : Prop where
  bl : Below w0.heap.size w0 W
  ed : ∀ k, E k → k < W.heap.size
  a : BoxAt W ga v D
  b : LBox W gb u R
  vr : Kd.R Kd.string 9 W w0.heap.size (Own v) v D.L
  ur : Kd.R Kd.string 9 W w0.heap.size (Own u) u R.l
  g : w0.heap.size ≤ ga ∧ ga < gb
  ea : ¬ E ga
  eb : ¬ E gb
  vo : ∀ k, Own v k → k ≠ ga ∧ k ≠ gb ∧ ¬ E k ∧ ¬ Own u k
  uo : ∀ k, Own u k → k ≠ ga ∧ k ≠ gb ∧ ¬ E k
section
variable {w0 W W1 W2 W3 : World} {E S : Nat → Prop} {ga gb gd gl : Nat} {v u v1 u1 : Value} {D D1 : DM} {R R1 : RL} {L : LM}
theorem P9.below (h : P9 w0 W E ga gb v u D R) (hb : Below W.heap.size W W1) : P9 w0 W1 E ga gb v u D R :=
  ⟨below_step h.bl hb, fun k hk => Nat.lt_of_lt_of_le (h.ed k hk) hb.size, h.a.below hb, h.b.below hb, Kd.R_below h.vr hb, Kd.R_below h.ur hb, h.g, h.ea, h.eb, h.vo, h.uo⟩
theorem P9.lt (h : P9 w0 W E ga gb v u D R) : ga < W.heap.size ∧ gb < W.heap.size ∧ (∀ k, Own v k → w0.heap.size ≤ k ∧ k < W.heap.size) ∧ ∀ k, Own u k → w0.heap.size ≤ k ∧ k < W.heap.size := ⟨blk_lt h.a, blk_lt h.b, own_lt_ h.vr, own_lt_ h.ur⟩
/-- The program's own side moves. -/
theorem P9.prog (h : P9 w0 W E ga gb v u D R) (hk : Kept W W1 E) (hb : Below w0.heap.size w0 W1) : P9 w0 W1 (Ext E W W1) ga gb v u D R := by
  obtain ⟨h1, h2, h3, h4⟩ := h.lt
  have hx : ∀ k, k < W.heap.size → ¬ E k → ¬ Ext E W W1 k := fun k hl he hx => hx.1.elim he (fun h => by omega)
  refine ⟨hb, fun k hk => hk.2, h.a.kept hk h.ea, h.b.kept hk h.eb, Kd.R_kept h.vr hk (fun k hv => (h.vo k hv).2.2.1), Kd.R_kept h.ur hk (fun k hu => (h.uo k hu).2.2), h.g, hx _ h1 h.ea, hx _ h2 h.eb, fun k hv => ?_, fun k hu => ?_⟩
  · have := h.vo k hv
    exact ⟨this.1, this.2.1, hx k (h3 k hv).2 this.2.2.1, this.2.2.2⟩
  · have := h.uo k hu
    exact ⟨this.1, this.2.1, hx k (h4 k hu).2 this.2.2⟩
/-- The same, and no new block. -/
theorem P9.prog0 (h : P9 w0 W E ga gb v u D R) (hk : Kept W W1 E) (hb : Below w0.heap.size w0 W1) : P9 w0 W1 E ga gb v u D R :=
  ⟨hb, fun k he => Nat.lt_of_lt_of_le (h.ed k he) hk.1, h.a.kept hk h.ea, h.b.kept hk h.eb, Kd.R_kept h.vr hk (fun k hv => (h.vo k hv).2.2.1), Kd.R_kept h.ur hk (fun k hu => (h.uo k hu).2.2), h.g, h.ea, h.eb, h.vo, h.uo⟩
/-- The document's disk is written. -/
theorem P9.wr (h : P9 w0 W E ga gb v u D R) (hk : Kept W W1 (Own v)) (hr : Kd.R Kd.string 9 W1 w0.heap.size (fun k => Own v k ∨ W.heap.size ≤ k) v1 D1.L) (hk2 : Kept W1 W2 (fun k => k = ga)) (ha : BoxAt W2 ga v1 D1) (hb : Below w0.heap.size w0 W2) : P9 w0 W2 E ga gb v1 u D1 R := by
  obtain ⟨h1, h2, h3, h4⟩ := h.lt
  have hg := h.g
  have hz := hk.1
  have hb1 := (h.b.kept hk (fun hv => (h.vo gb hv).2.1 rfl)).kept hk2 (show ¬ gb = ga by omega)
  have hu1 := Kd.R_kept (Kd.R_kept h.ur hk (fun k hu hv => (h.vo k hv).2.2.2 hu)) hk2 (fun k hu e => (h.uo k hu).1 e)
  have ho : ∀ k, Own v1 k → Own v k ∨ W.heap.size ≤ k := fun k hv => hr.1 k hv
  have hv1 : ∀ k, Own v1 k → k ≠ ga ∧ k ≠ gb ∧ ¬ E k ∧ ¬ Own u k := fun k hv => by
    rcases ho k hv with h' | h'
    · exact h.vo k h'
    · exact ⟨by omega, by omega, fun he => by have := h.ed k he; omega, fun hu => by have := (h4 k hu).2; omega⟩
  exact ⟨hb, fun k he => by have := h.ed k he; have := hk2.1; omega, ha, hb1, Kd.R_kept (R_tight hr) hk2 (fun k hv e => (hv1 k hv).1 e), hu1, h.g, h.ea, h.eb, hv1, h.uo⟩
/-- The document's log is another. -/
theorem P9.opn (h : P9 w0 W E ga gb v u D R) (hb1 : Below W.heap.size W W1) (hr : Kd.R Kd.string 9 W1 W.heap.size (fun _ => True) u1 R1.l) (hk2 : Kept W1 W2 (fun k => k = gb)) (ha : LBox W2 gb u1 R1) (hb : Below w0.heap.size w0 W2) : P9 w0 W2 E ga gb v u1 D R1 := by
  obtain ⟨h1, h2, h3, h4⟩ := h.lt
  have hg := h.g
  have hz := hb1.size
  have hlu := own_lt_ hr
  have hz0 := h.bl.size
  have ha1 := (h.a.below hb1).kept hk2 (show ¬ ga = gb by omega)
  refine ⟨hb, fun k he => by have := h.ed k he; have := hk2.1; omega, ha1, ha, Kd.R_kept (Kd.R_below h.vr hb1) hk2 (fun k hv e => (h.vo k hv).2.1 e), ?_, h.g, h.ea, h.eb, fun k hv => ?_, fun k hu => ?_⟩
  · exact Kd.R_kept (Kd.R_lower (R_tight hr) hz0) hk2 (fun k hu e => by have := (hlu k hu).1; omega)
  · have := h.vo k hv
    exact ⟨this.1, this.2.1, this.2.2.1, fun hu => by have := (hlu k hu).1; have := (h3 k hv).2; omega⟩
  · have := (hlu k hu).1
    exact ⟨by omega, by omega, fun he => by have := h.ed k he; omega⟩
/-- The document's Add stands in both variables. -/
theorem P9.add (h : P9 w0 W E ga gb v u D R) (hp : APost w0 W W1 v u v1 u1 D1 R1) (hk2 : Kept W1 W2 (fun k => k = ga)) (ha : BoxAt W2 ga v1 D1) (hk3 : Kept W2 W3 (fun k => k = gb)) (hb3 : LBox W3 gb u1 R1) (hb : Below w0.heap.size w0 W3) : P9 w0 W3 E ga gb v1 u1 D1 R1 := by
  obtain ⟨h1, h2, h3, h4⟩ := h.lt
  have hg := h.g
  have hz := hp.kp.1
  have hv1 : ∀ k, Own v1 k → k ≠ ga ∧ k ≠ gb ∧ ¬ E k ∧ ¬ Own u1 k := fun k hv => by
    rcases hp.vo k hv with h' | h'
    · exact ⟨(h.vo k h').1, (h.vo k h').2.1, (h.vo k h').2.2.1, hp.ap k hv⟩
    · exact ⟨by omega, by omega, fun he => by have := h.ed k he; omega, hp.ap k hv⟩
  have hu1 : ∀ k, Own u1 k → k ≠ ga ∧ k ≠ gb ∧ ¬ E k := fun k hu => by
    rcases hp.uo k hu with h' | h'
    · exact h.uo k h'
    · exact ⟨by omega, by omega, fun he => by have := h.ed k he; omega⟩
  exact ⟨hb, fun k he => by have := h.ed k he; have := hk2.1; have := hk3.1; omega, ha.kept hk3 (show ¬ ga = gb by omega), hb3, Kd.R_kept (Kd.R_kept hp.vr hk2 (fun k hv e => (hv1 k hv).1 e)) hk3 (fun k hv e => (hv1 k hv).2.1 e), Kd.R_kept (Kd.R_kept hp.ur hk2 (fun k hu e => (hu1 k hu).1 e)) hk3 (fun k hu e => (hu1 k hu).2.1 e), h.g, h.ea, h.eb, hv1, hu1⟩
theorem P9.pre (h : P9 w0 W E ga gb v u D R) : RPre w0 W v u D R := ⟨h.bl, h.vr, h.ur, fun k hv => (h.vo k hv).2.2.2⟩
/-! ### the program's side, when the document's moves -/
/-- What stands at the loop's head: the log, or none. -/
def LogV (w0 W : World) (E : Nat → Prop) (gd : Nat) (pl : Value) (D : DM) (R : RL) : Prop :=
  (pl = .pointer none ∧ Dk w0 W E gd D) ∨ ∃ gl L, pl = .pointer (some ⟨gl, 0, none⟩) ∧ Wal.Sys w0 W E gd gl D L ∧ R = refl_ L ∧ Nz L
theorem LogV.kept (h : LogV w0 W E gd u1 D R) (hk : Kept W W1 S) (hs : ∀ k, S k → ¬ E k) (hb : Below w0.heap.size w0 W1) : LogV w0 W1 E gd u1 D R := by
  rcases h with ⟨h1, h2⟩ | ⟨gl, L, h1, h2, h3⟩
  · exact .inl ⟨h1, h2.kept hk (fun k he hs' => hs k hs' he) hb⟩
  · exact .inr ⟨gl, L, h1, h2.kept hk (fun k he hs' => hs k hs' he) hb, h3⟩
theorem LogV.dk (h : LogV w0 W E gd u1 D R) : Dk w0 W E gd D := by
  rcases h with ⟨h1, h2⟩ | ⟨gl, L, h1, h2, h3⟩
  · exact h2
  · exact h2.dk
theorem dk_ext (h : Dk w0 W E gd D) (hb : Below W.heap.size W W1) : Dk w0 W1 (Ext E W W1) gd D :=
  ⟨below_step h.bl hb, fun k hk => ⟨hk.1.elim (fun h' => (h.ed k h').1) (fun h' => by have := h.bl.size; omega), hk.2⟩, (h.dk.below hb).mono (fun k hk => ⟨.inl hk, Nat.lt_of_lt_of_le (h.ed k hk).2 hb.size⟩)⟩
theorem LogV.below (h : LogV w0 W E gd u1 D R) (hb : Below W.heap.size W W1) : LogV w0 W1 E gd u1 D R := by
  rcases h with ⟨h1, h2⟩ | ⟨gl, L, h1, h2, h3⟩
  · exact .inl ⟨h1, h2.below hb⟩
  · exact .inr ⟨gl, L, h1, h2.below hb, h3⟩
/-! ### how it begins -/
/-- The document's disk alone. -/
structure Q9 (w0 W : World) (E : Nat → Prop) (ga : Nat) (v : Value) (D : DM) : Prop where
  bl : Below w0.heap.size w0 W
  ed : ∀ k, E k → k < W.heap.size
  a : BoxAt W ga v D
  vr : Kd.R Kd.string 9 W w0.heap.size (Own v) v D.L
  g : w0.heap.size ≤ ga
  ea : ¬ E ga
  vo : ∀ k, Own v k → k ≠ ga ∧ ¬ E k
theorem q9_start (hd : Dk w0 W E gd D) (hr : Kd.R Kd.string 9 W1 W.heap.size (fun _ => True) v D.L) (hb : Below W.heap.size W W1) (hb2 : Below W1.heap.size W1 W2) (ha : BoxAt W2 W1.heap.size v D) : Q9 w0 W2 E W1.heap.size v D := by
  have hz := hd.bl.size
  have hz1 := hb.size
  have hz2 := hb2.size
  have hlv := own_lt_ hr
  refine ⟨below_step (below_step hd.bl hb) hb2, fun k he => by have := (hd.ed k he).2; omega, ha, Kd.R_below (Kd.R_lower (R_tight hr) hz) hb2, by omega, fun he => by have := (hd.ed _ he).2; omega, fun k hv => ?_⟩
  have := hlv k hv
  exact ⟨by omega, fun he => by have := (hd.ed k he).2; omega⟩
theorem Q9.prog (h : Q9 w0 W E ga v D) (hb : Below W.heap.size W W1) : Q9 w0 W1 (Ext E W W1) ga v D := by
  have h1 := blk_lt h.a
  have h3 := own_lt_ h.vr
  exact ⟨below_step h.bl hb, fun k hk => hk.2, h.a.below hb, Kd.R_below h.vr hb, h.g, fun hx => hx.1.elim h.ea (fun h => by omega), fun k hv => ⟨(h.vo k hv).1, fun hx => hx.1.elim (h.vo k hv).2 (fun h' => by have := (h3 k hv).2; omega)⟩⟩
theorem Q9.p9 (h : Q9 w0 W E ga v D) (hb : Below W.heap.size W W1) (hr : Kd.R Kd.string 9 W1 W.heap.size (fun _ => True) u1 R1.l) (hb2 : Below W1.heap.size W1 W2) (ha : LBox W2 W1.heap.size u1 R1) : P9 w0 W2 E ga W1.heap.size v u1 D R1 := by
  have h1 := blk_lt h.a
  have h3 := own_lt_ h.vr
  have hz := h.bl.size
  have hz1 := hb.size
  have hz2 := hb2.size
  have hlu := own_lt_ hr
  refine ⟨below_step (below_step h.bl hb) hb2, fun k he => by have := h.ed k he; omega, (h.a.below hb).below hb2, ha, Kd.R_below (Kd.R_below h.vr hb) hb2, Kd.R_below (Kd.R_lower (R_tight hr) hz) hb2, ⟨h.g, by omega⟩, h.ea, fun he => by have := h.ed _ he; omega, fun k hv => ?_, fun k hu => ?_⟩
  · have h4 := h3 k hv
    exact ⟨(h.vo k hv).1, by omega, (h.vo k hv).2, fun hu => by have := (hlu k hu).1; omega⟩
  · have h4 := hlu k hu
    exact ⟨by omega, by omega, fun he => by have := h.ed k he; omega⟩
end
theorem nz_take : ∀ (bs : List (List Int)) (i : Nat) (s : TS), (s.hv ≠ 0 → s.l ≠ []) → ((takeM bs i s).hv ≠ 0 → (takeM bs i s).l ≠ [])
  | [], _, _, h => h
  | b :: bs, i, s, h => by
    unfold takeM
    split
    · exact h
    · refine nz_take bs (i + 1) _ ?_
      unfold TS.go
      show (if (readM b).2.2 = true then ((i : Int) + 1) else s.hv) ≠ 0 → (if (readM b).2.2 = true then s.l ++ [s.now ++ (readM b).2.1] else s.l) ≠ []
      split
      · intro _ h2
        have : (s.l ++ [s.now ++ (readM b).2.1]).length = 0 := by rw [h2]; rfl
        rw [List.length_append] at this
        simp at this
      · exact h
theorem nz_open (D : DM) (fr n : Int) : Nz (openM D fr n) := by
  unfold Nz
  exact nz_take (rowsD D fr n) 0 t0 (fun h => absurd rfl h)
theorem nz_begin (D : DM) (fr n l : Int) : Nz (beginM D fr n l) := fun h => absurd rfl h
end Go.Proofs.Ytnajdnhgoakgaaa.Blk
