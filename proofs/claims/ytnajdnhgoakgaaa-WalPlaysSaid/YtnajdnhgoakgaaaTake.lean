/- take: the records that blocks begin with. -/
import Derived.Test.YtnajdnhgoakgaaaLog
namespace Go.Proofs.Ytnajdnhgoakgaaa.Wal
open Go.RowKit Go.Proofs.YtnajdnhgoakgaaaW.PrintWords Go.Proofs.YtnajdnhgoakgaaaW.PrintLast Go.Proofs.YtnajdnhgoakgaaaW.PrintMore Go.Proofs.Ytnajdnhgoakgaaa.Mem Go.Proofs.Ytnajdnhgoakgaaa.PWal
set_option linter.unusedVariables false
set_option linter.unusedSimpArgs false
set_option maxRecDepth 8000
set_option maxHeartbeats 4000000
structure TS where
  l : List (List Int)
  hv : Int
  first : Int
  now : List Int
  ahead : Int
  begun : Bool
def TS.stops (s : TS) (r : Int × List Int × Bool) : Bool := decide (r.1 = 0 ∨ (s.begun = true ∧ r.1 ≠ s.ahead + 1) ∨ r.1 ≤ s.ahead)
def TS.go (s : TS) (i : Nat) (r : Int × List Int × Bool) : TS :=
  ⟨if r.2.2 then s.l ++ [s.now ++ r.2.1] else s.l, if r.2.2 then (i : Int) + 1 else s.hv, if i = 0 then r.1 else s.first, if r.2.2 then [] else s.now ++ r.2.1, r.1, !r.2.2⟩
def takeM : List (List Int) → Nat → TS → TS
  | [], _, s => s
  | b :: bs, i, s => if s.stops (readM b) then s else takeM bs (i + 1) (s.go i (readM b))
structure TS.Ok (s : TS) (i : Nat) : Prop where
  a0 : 0 ≤ s.ahead
  a1 : s.ahead ≤ 18446744073709551615
  f0 : 0 ≤ s.first
  f1 : s.first ≤ 18446744073709551615
  h0 : 0 ≤ s.hv
  h1 : s.hv ≤ i
  ll : (s.l.length : Int) ≤ s.hv
  nl : s.now.length ≤ 110 * i
  nb : Byt s.now
  rl : ∀ r ∈ s.l, r.length ≤ 110 * i
  rb : ∀ r ∈ s.l, Byt r
theorem byt_part {b : List Int} (h : Byt b) : Byt (partOf b) := fun x hx => h x (List.mem_of_mem_drop (List.mem_of_mem_take hx))
theorem readM_ok {b : List Int} (h : Byt b) : 0 ≤ (readM b).1 ∧ (readM b).1 ≤ 18446744073709551615 ∧ (readM b).2.1.length ≤ 110 ∧ Byt (readM b).2.1 := by
  by_cases ho : okB b
  · rw [read_yes ho]
    have h1 := num8_val (xs := b.take 8) (by rw [List.length_take, ho.1]; rfl) (fun x hx => h x (List.mem_of_mem_take hx))
    have h2 := part_len h ho.1 ho.2.1
    have h3 := ho.2.1
    exact ⟨h1.2.1, h1.2.2, by show (partOf b).length ≤ 110; omega, byt_part h⟩
  · rw [read_no ho]
    exact ⟨Int.le_refl _, by decide, by decide, by intro x hx; cases hx⟩
theorem TS.Ok.go {s : TS} {i : Nat} (h : s.Ok i) {r : Int × List Int × Bool} (hr : 0 ≤ r.1 ∧ r.1 ≤ 18446744073709551615 ∧ r.2.1.length ≤ 110 ∧ Byt r.2.1) : (s.go i r).Ok (i + 1) := by
  obtain ⟨r0, r1, r2, r3⟩ := hr
  have hb : Byt (s.now ++ r.2.1) := fun x hx => (List.mem_append.1 hx).elim (h.nb x) (r3 x)
  have hn := h.nl
  have hl : (s.now ++ r.2.1).length ≤ 110 * (i + 1) := by rw [List.length_append]; omega
  have h1 := h.h1; have h0 := h.h0; have ll := h.ll
  refine ⟨r0, r1, ?_, ?_, ?_, ?_, ?_, ?_, ?_, ?_, ?_⟩
  · show 0 ≤ (if i = 0 then r.1 else s.first); split; exact r0; exact h.f0
  · show (if i = 0 then r.1 else s.first) ≤ _; split; exact r1; exact h.f1
  · show 0 ≤ (if r.2.2 = true then (i : Int) + 1 else s.hv); split <;> omega
  · show (if r.2.2 = true then (i : Int) + 1 else s.hv) ≤ _; split <;> omega
  · show ((if r.2.2 = true then s.l ++ [s.now ++ r.2.1] else s.l).length : Int) ≤ (if r.2.2 = true then (i : Int) + 1 else s.hv)
    split
    · rw [List.length_append, List.length_singleton]; omega
    · exact ll
  · show (if r.2.2 = true then [] else s.now ++ r.2.1).length ≤ _
    split
    · exact Nat.zero_le _
    · exact hl
  · show Byt (if r.2.2 = true then [] else s.now ++ r.2.1)
    split
    · intro x hx; cases hx
    · exact hb
  · show ∀ q ∈ (if r.2.2 = true then s.l ++ [s.now ++ r.2.1] else s.l), q.length ≤ _
    intro q hq
    split at hq
    · rcases List.mem_append.1 hq with hq | hq
      · have := h.rl q hq; omega
      · rw [List.mem_singleton.1 hq]; exact hl
    · have := h.rl q hq; omega
  · show ∀ q ∈ (if r.2.2 = true then s.l ++ [s.now ++ r.2.1] else s.l), Byt q
    intro q hq
    split at hq
    · rcases List.mem_append.1 hq with hq | hq
      · exact h.rb q hq
      · rw [List.mem_singleton.1 hq]; exact hb
    · exact h.rb q hq
def LM.with_ (L : LM) (s : TS) : LM := { L with l := s.l, hv := s.hv, first := s.first }
/-- A row that is owned, and what was written since is apart. -/
theorem row_at {w : World} {gl b0 : Nat} {A : Option Addr} {n c : Nat} {bs : List (List Int)} (h : KR.R 35 w b0 (fun k => k < gl) (.slice A n c) bs) {wr : World} (hr : Below gl w wr) (i : Nat) (hi : i < n) :
    ∃ ad A0 c0, A = some ad ∧ wr.cell? (ad.add i) = some (.slice A0 (bs.getD i []).length c0) ∧ (bs.getD i []).length ≤ c0 ∧ ∀ W, Below gl w W → Kd.C (Kd.int .u8) W A0 (bs.getD i []).length (bs.getD i []) := by
  have step : ∀ W, Below gl w W → KR.R 35 W b0 (fun k => k < gl) (.slice A n c) bs := fun W hW => Kd.R_step h (fun k hk _ => hW.block k hk)
  have hC : ∀ W, Below gl w W → KR.C W A n bs := fun W hW => by
    have h2 := Kd.R_reads' (step W hW)
    rw [h2.1]
    exact h2.2.2
  obtain ⟨ad, A0, c0, rfl, hcell, hc0, hC0⟩ := at_L1 (hC wr hr) (i : Int) (by omega) (by omega)
  have hb := h.1 ad.block rfl
  refine ⟨ad, A0, c0, rfl, hcell, hc0, fun W hW => ?_⟩
  obtain ⟨ad', A1, c1, e, hcell', _, hC1⟩ := at_L1 (hC W hW) (i : Int) (by omega) (by omega)
  cases e
  have hz : ∀ V, Below gl w V → V.cell? (ad.add i) = w.cell? (ad.add i) := fun V hV => hV.cell (by unfold Addr.add; split <;> exact hb)
  have e1 : W.cell? (ad.add i) = wr.cell? (ad.add i) := (hz W hW).trans (hz wr hr).symm
  rw [show ((i : Int).toNat) = i from rfl] at hcell hcell'
  rw [e1, hcell] at hcell'
  injection hcell' with h1
  injection h1 with h1 _ _
  subst h1
  exact hC1
structure TkAt (w wr : World) (gl gd : Nat) (L : LM) (s : TS) (v6 v4 : Value) : Prop where
  bl : Below gl w wr
  hp : wr.heap[gl]? = some (.cells (lcells gd (L.with_ s) v6) 91 (0, 0))
  ex : ∃ E : Nat → Prop, (∀ k, E k → k < wr.heap.size) ∧ KR.R 35 wr gl (fun k => E k ∧ k ≠ gl) v6 s.l ∧ (Kd.int .u8).R 5 wr gl (fun k => ¬ E k ∧ k ≠ gl) v4 s.now
section
variable {w wr w' : World} {gl gd : Nat} {L : LM} {s : TS} {v6 v4 : Value}
theorem TkAt.below (h : TkAt w wr gl gd L s v6 v4) (hb : Below wr.heap.size wr w') : TkAt w w' gl gd L s v6 v4 := by
  obtain ⟨E, h1, h2, h3⟩ := h.ex
  exact ⟨h.bl.trans (hb.mono (Nat.le_of_lt (blk_lt h.hp))), (hb.block _ (blk_lt h.hp)).trans h.hp, E, fun k hk => Nat.lt_of_lt_of_le (h1 k hk) hb.size, Kd.R_below h2 hb, Kd.R_below h3 hb⟩
theorem TkAt.as_ {s' : TS} (h : TkAt w wr gl gd L s v6 v4) (h1 : s'.l = s.l) (h2 : s'.hv = s.hv) (h3 : s'.first = s.first) (h4 : s'.now = s.now) : TkAt w wr gl gd L s' v6 v4 := by
  refine ⟨h.bl, ?_, ?_⟩
  · rw [show L.with_ s' = L.with_ s by unfold LM.with_; rw [h1, h2, h3]]; exact h.hp
  · rw [h1, h4]; exact h.ex
theorem TkAt.setFirst (h : TkAt w wr gl gd L s v6 v4) (k : Int) : TkAt w (wr.setCell ⟨gl, 3, none⟩ (.int .u64 k)) gl gd L { s with first := k } v6 v4 := by
  obtain ⟨E, h1, h2, h3⟩ := h.ex
  refine ⟨h.bl.setCell (Nat.le_refl _) _, ?_, E, fun k hk => by have := h1 k hk; simpa [World.setCell] using this, Kd.R_far (p := ⟨gl, 3, none⟩) h2 (fun k hk => hk.2) _, Kd.R_far (p := ⟨gl, 3, none⟩) h3 (fun k hk => hk.2) _⟩
  have := blk_set h.hp 3 (.int .u64 k)
  exact this
theorem TkAt.grow (h : TkAt w wr gl gd L s v6 v4) {v5 : Value} {p : List Int} {E : Nat → Prop} (h1 : ∀ k, E k → k < wr.heap.size) (h2 : KR.R 35 wr gl (fun k => E k ∧ k ≠ gl) v6 s.l) (h3 : (Kd.int .u8).R 5 wr gl (fun k => ¬ E k ∧ k ≠ gl) v4 s.now)
    (h5 : (Kd.int .u8).R 5 w' gl (fun k => ¬ E k ∧ k ≠ gl) v5 (s.now ++ p)) (hb : Below gl w w') (hg : wr.grownBy w' v4.ownBlock) : TkAt w w' gl gd L { s with now := s.now ++ p } v6 v5 := by
  refine ⟨hb, ?_, E, fun k hk => Nat.lt_of_lt_of_le (h1 k hk) hg.size, Kd.R_grown h2 hg (fun k hk e => (h3.1 k e.symm).1 hk.1), h5⟩
  exact (hg.block gl (blk_lt h.hp) (fun e => (h3.1 gl e.symm).2 rfl)).trans h.hp
theorem TkAt.push (h : TkAt w wr gl gd L s v6 v4) {v7 : Value} {E : Nat → Prop} (h2 : KR.R 35 wr gl (fun k => E k ∧ k ≠ gl) v6 s.l)
    (h7 : KR.R 35 w' gl (fun k => k ≠ gl) v7 (s.l ++ [s.now])) (hb : Below gl w w') (hg : wr.grownBy w' v6.ownBlock) (hv : Int) :
    TkAt w ((w'.setCell ⟨gl, 6, none⟩ v7).setCell ⟨gl, 5, none⟩ (.int .i64 hv)) gl gd L { s with l := s.l ++ [s.now], hv := hv, now := [] } v7 (.slice none 0 0) := by
  have hp := (hg.block gl (blk_lt h.hp) (fun e => (h2.1 gl e.symm).2 rfl)).trans h.hp
  refine ⟨(hb.setCell (p := ⟨gl, 6, none⟩) (Nat.le_refl _) _).setCell (p := ⟨gl, 5, none⟩) (Nat.le_refl _) _, ?_, fun k => k < w'.heap.size, fun k hk => by simpa [World.setCell] using hk, ?_, Kd.R_nil _ _ _ _ _⟩
  · have := blk_set (blk_set hp 6 v7) 5 (.int .i64 hv)
    exact this
  · exact Kd.R_far (p := ⟨gl, 5, none⟩) (Kd.R_far (p := ⟨gl, 6, none⟩) (Kd.R_mono (Kd.R_bound h7) (fun k hk => ⟨hk.2.2.1, hk.1⟩)) (fun k hk => hk.2) _) (fun k hk => hk.2) _
end
section
variable {w : World} {gl gd : Nat} {L : LM}
theorem takeM_at (bs : List (List Int)) (i : Nat) (hi : i < bs.length) (s : TS) : takeM (bs.drop i) i s = if s.stops (readM (bs.getD i [])) then s else takeM (bs.drop (i + 1)) (i + 1) (s.go i (readM (bs.getD i []))) := by
  rw [List.drop_eq_getElem_cons hi, List.getD_eq_getElem?_getD, List.getElem?_eq_getElem hi]
  rfl
def t0 : TS := ⟨[], 0, 0, [], 0, false⟩
theorem wread_calls' {w : World} {b : List Int} {k : Int} {p : List Int} {en : Bool} {mb mp : Nat} (hr : readM b = (k, p, en)) (hmb : mb = b.length) (hmp : mp = p.length) (A : Option Addr) (c : Nat) (hC : Kd.C (Kd.int .u8) w A b.length b) (hc : b.length ≤ c) (hb : Byt b) :
    Calls Try.prog 54 #[.slice A mb c] w fun e w' => ∃ A' c', e = .returned (.tuple #[.int .u64 k, .slice A' mp c', .bool en]) ∧ mp ≤ c' ∧ (∀ W, Kd.C (Kd.int .u8) W A b.length b → Kd.C (Kd.int .u8) W A' mp p) ∧ Below w.heap.size w w' := by
  have h := wread_calls (w := w) A c hC hc hb
  rw [hr] at h
  subst hmb
  subst hmp
  exact h
theorem TkAt.done {w wr : World} {s : TS} {v6 v4 : Value} {i : Nat} (h : TkAt w wr gl gd L s v6 v4) (hs : s.Ok i) (hi : (i : Int) ≤ L.n) (hL : L.Ok) : LogAt wr gl (fun k => gl ≤ k) gl gd (L.with_ s) := by
  obtain ⟨E, h1, h2, h3⟩ := h.ex
  have a1 := hL.fn; have a2 := hL.f0; have a3 := hs.h1
  refine ⟨v6, Nat.le_refl _, Nat.le_refl _, h.hp, Kd.R_mono (Kd.R_bound h2) (fun k hk => ⟨hk.2.1, hk.1.2⟩), hL.f0, hL.n1, hL.fn, hs.f0, hs.f1, hL.x0, hL.x1, hs.h0, by show s.hv ≤ L.n; omega, hs.ll, fun r hr => ?_, hs.rb⟩
  have := hs.rl r hr
  omega
theorem stops_0 {s : TS} {k : Int} {p : List Int} {en : Bool} (h : k = 0) : s.stops (k, p, en) = true := decide_eq_true (.inl h)
theorem stops_1 {s : TS} {k : Int} {p : List Int} {en : Bool} (h : k ≤ s.ahead) : s.stops (k, p, en) = true := decide_eq_true (.inr (.inr h))
theorem stops_2 {s : TS} {k : Int} {p : List Int} {en : Bool} (hb : s.begun = true) (h0 : 0 ≤ s.ahead) (h1 : s.ahead ≤ 18446744073709551615) (hk : k ≤ 18446744073709551615) (h : k ≠ IntKind.u64.wrap (s.ahead + 1)) : s.stops (k, p, en) = true := by
  by_cases ha : s.ahead = 18446744073709551615
  · exact stops_1 (by rw [ha]; exact hk)
  · rw [wraps_u64 _ (by omega) (by omega)] at h
    exact decide_eq_true (.inr (.inl ⟨hb, h⟩))
theorem goes_0 {s : TS} {k : Int} {p : List Int} {en : Bool} (h : ¬ k = 0) (hb : s.begun = false) (h2 : ¬ k ≤ s.ahead) : s.stops (k, p, en) = false := decide_eq_false (by
  rintro (h3 | ⟨h3, _⟩ | h3)
  · exact h h3
  · rw [hb] at h3; cases h3
  · exact h2 h3)
theorem goes_1 {s : TS} {k : Int} {p : List Int} {en : Bool} (h : ¬ k = 0) (h0 : 0 ≤ s.ahead) (hk : k ≤ 18446744073709551615) (hw : k = IntKind.u64.wrap (s.ahead + 1)) (h2 : ¬ k ≤ s.ahead) : s.stops (k, p, en) = false := decide_eq_false (by
  rintro (h3 | ⟨_, h3⟩ | h3)
  · exact h h3
  · rw [wraps_u64 _ (by omega) (by omega)] at hw
    exact h3 hw
  · exact h2 h3)
def LM.taken (L : LM) (bs : List (List Int)) : LM := L.with_ (takeM bs 0 t0)
theorem take_calls {b0 : Nat} (h : LogAt w gl (fun k => gl ≤ k) gl gd L) (hz : L.l = [] ∧ L.hv = 0 ∧ L.first = 0) {bs : List (List Int)} (A : Option Addr) (n c : Nat) (hbs : KR.R 35 w b0 (fun k => k < gl) (.slice A n c) bs) (hn : bs.length ≤ L.n) (hby : ∀ b ∈ bs, Byt b) :
    Calls Try.prog 52 #[.pointer (some ⟨gl, 0, none⟩), .slice A n c] w fun e w' => e = .returned (.tuple #[]) ∧ LogAt w' gl (fun k => gl ≤ k) gl gd (L.taken bs) ∧ Below gl w w' := by
  obtain ⟨v, h1, h2, h3, h4, h5⟩ := h
  have hnl := (Kd.R_reads' hbs).1
  have hn0 : (n : Int) ≤ 65536 := by have a1 := h5.f0; have a2 := h5.fn; omega
  have hT0 : TkAt w w gl gd L t0 v (.slice none 0 0) := by
    refine ⟨Below.refl _ _, ?_, fun k => k < w.heap.size, fun k hk => hk, ?_, Kd.R_nil _ _ _ _ _⟩
    · rw [h3]
      unfold lcells LM.with_ t0
      rw [hz.2.1, hz.2.2]
    · have := Kd.R_mono (Kd.R_bound h4) (fun k hk => (⟨hk.2.2.1, hk.1.2⟩ : k < w.heap.size ∧ k ≠ gl))
      rw [hz.1] at this
      exact this
  have HX := Aside0.mk (And.intro hbs (And.intro h5 (And.intro hby (And.intro hnl hn))))
  have HT := Aside0.mk hT0
  clear h1 h2 h3 h4 h5 hbs hn hby hz hnl hT0
  go_enter Try.func52, Try.ntmps52
  go_wp2
  go_loopg [4, 5, 6, 14] n (fun q v4 v5 v6 v14 wr => ∃ (i : Nat) (s : TS) (A4 : Option Addr) (c4 m4 : Nat) (ah : Int) (bg : Bool) (vl : Value), v4 = .slice A4 m4 c4 ∧ v5 = .int .u64 ah ∧ v6 = .bool bg ∧ v14 = .int .i64 i ∧ q + i = n ∧ Aside0 (TkAt w wr gl gd L s vl (.slice A4 m4 c4) ∧ s.Ok i ∧ takeM (bs.drop i) i s = takeM bs 0 t0 ∧ m4 = s.now.length ∧ ah = s.ahead ∧ bg = s.begun))
  case atStart => exact ⟨0, t0, none, 0, 0, 0, false, v, rfl, rfl, rfl, rfl, by omega, ⟨HT.out, ⟨by decide, by decide, by decide, by decide, by decide, by decide, by decide, by decide, (fun x hx => by cases hx), (fun x hx => by cases hx), (fun x hx => by cases hx)⟩, rfl, rfl, rfl, rfl⟩⟩
  case round =>
    clear HT
    obtain ⟨i, s, A4, c4, m4, ah, bg, vl, rfl, rfl, rfl, rfl, hq, hI⟩ := hrel
    by_cases hlt : i < n
    · obtain ⟨ad, A0, c0, rfl, hcell, hc0, hC0⟩ := row_at HX.out.1 hI.out.1.bl i hlt
      have hil : i < bs.length := by rw [← HX.out.2.2.2.1]; exact hlt
      have htk := takeM_at bs i hil s
      rw [hI.out.2.2.1] at htk
      obtain ⟨b, hb⟩ : ∃ b, b = bs.getD i [] := ⟨_, rfl⟩
      have hmem : b ∈ bs := by rw [hb, List.getD_eq_getElem?_getD, List.getElem?_eq_getElem hil]; exact List.getElem_mem hil
      rw [← hb] at hcell hc0 hC0 htk
      obtain ⟨k, p, en, hr⟩ : ∃ k p en, readM b = (k, p, en) := ⟨_, _, _, rfl⟩
      obtain ⟨mb, hmb⟩ : ∃ m, m = b.length := ⟨_, rfl⟩
      obtain ⟨mp, hmp⟩ : ∃ m, m = p.length := ⟨_, rfl⟩
      have hrok := readM_ok (HX.out.2.2.1 b hmem)
      rw [hr] at htk hrok
      have HW := Aside0.mk (And.intro (wread_calls' (w := wr) hr hmb hmp A0 c0 (hC0 wr hI.out.1.bl) hc0 (HX.out.2.2.1 b hmem)) (And.intro hC0 (And.intro htk (And.intro hrok hmp))))
      rw [← hmb] at hcell
      clear hmem hc0 hC0 htk hr hmb hmp hb hrok hil
      go_upto_region 6 with (go_at_call 54; go_loud (refine HW.out.1.mono ?_; rintro e w5 ⟨A', c', rfl, hp1, hp2, hb5⟩; have H5 := Aside0.mk (And.intro (hI.out.1.below hb5) (And.intro hp1 hp2)); clear hp1 hp2 hb5))
      obtain ⟨st, hst⟩ : ∃ st, st = s.stops (k, p, en) := ⟨_, rfl⟩
      have HST := Aside0.mk hst
      clear hst
      go_cut [40] (fun v40 wc => v40 = .bool st ∧ wc = w5)
      case first =>
        have hahi := hI.out.2.2.2.2.1
        have hbgi := hI.out.2.2.2.2.2
        have HS := Aside0.mk (And.intro HST.out (And.intro hahi hbgi))
        clear hahi hbgi
        have hL : (i : Int) < 65536 := by omega
        by_cases k0 : k = 0
        · have d1 : (k == 0) = true := beq_iff_eq.2 k0
          have K0 := Aside0.mk k0
          clear k0
          go_wp2
          go_meet
          case rel => exact ⟨by rw [HST.out, stops_0 K0.out], rfl⟩
        · have d1 : (k == 0) = false := beq_eq_false_iff_ne.2 k0
          have K0 := Aside0.mk k0
          clear k0
          cases bg
          · by_cases k2 : k ≤ ah
            · have d2 : decide (k ≤ ah) = true := decide_eq_true k2
              have K2 := Aside0.mk k2
              clear k2
              go_wp2
              go_meet
              case rel => exact ⟨by rw [HST.out, stops_1 (by rw [← HS.out.2.1]; have := K2.out; omega)], rfl⟩
            · have d2 : decide (k ≤ ah) = false := decide_eq_false k2
              have K2 := Aside0.mk k2
              clear k2
              go_wp2
              go_meet
              case rel => exact ⟨by rw [HST.out, goes_0 K0.out HS.out.2.2.symm (by rw [← HS.out.2.1]; have := K2.out; omega)], rfl⟩
          · by_cases k1 : k = IntKind.u64.wrap (ah + 1)
            · have d3 : (k != IntKind.u64.wrap (ah + 1)) = false := bne_eq_false_iff_eq.2 k1
              have K1 := Aside0.mk k1
              clear k1
              by_cases k2 : k ≤ ah
              · have d2 : decide (k ≤ ah) = true := decide_eq_true k2
                have K2 := Aside0.mk k2
                clear k2
                go_wp2
                go_meet
                case rel => exact ⟨by rw [HST.out, stops_1 (by rw [← HS.out.2.1]; have := K2.out; omega)], rfl⟩
              · have d2 : decide (k ≤ ah) = false := decide_eq_false k2
                have K2 := Aside0.mk k2
                clear k2
                go_wp2
                go_meet
                case rel => exact ⟨by rw [HST.out, goes_1 K0.out hI.out.2.1.a0 HW.out.2.2.2.1.2.1 (by rw [← HS.out.2.1]; exact K1.out) (by rw [← HS.out.2.1]; have := K2.out; omega)], rfl⟩
            · have d3 : (k != IntKind.u64.wrap (ah + 1)) = true := bne_iff_ne.2 k1
              have K1 := Aside0.mk k1
              clear k1
              go_wp2
              go_meet
              case rel => exact ⟨by rw [HST.out, stops_2 HS.out.2.2.symm hI.out.2.1.a0 hI.out.2.1.a1 HW.out.2.2.2.1.2.1 (by rw [← HS.out.2.1]; exact K1.out)], rfl⟩
      case rest =>
        obtain ⟨rfl, rfl⟩ := hcut
        cases st
        · have H5' := Aside0.mk H5.out.1
          have c3 : wc.cell? ⟨gl, 3, none⟩ = some (.int .u64 s.first) := (blk_cell H5.out.1.hp 3).trans rfl
          have f3 : wc.frozen? ⟨gl, 3, none⟩ = false := blk_frozen H5.out.1.hp 3
          have HM := Aside0.mk (show (i : Int) < n ∧ (n : Int) ≤ 65536 from ⟨by omega, hn0⟩)
          go_upto_if 42 with (fail)
          go_cut [] (fun wq => Aside0 (TkAt w wq gl gd L { s with first := if i = 0 then k else s.first } vl (.slice A4 m4 c4)))
          case first =>
            by_cases hi0 : i = 0
            · have d0 : ((i : Int) == 0) = true := beq_iff_eq.2 (by omega)
              have HI0 := Aside0.mk hi0
              clear hi0
              go_wp2
              go_meet
              case rel => exact ⟨by rw [if_pos HI0.out]; exact H5'.out.setFirst k⟩
            · have d0 : ((i : Int) == 0) = false := beq_eq_false_iff_ne.2 (by omega)
              have HI0 := Aside0.mk hi0
              clear hi0
              go_wp2
              go_meet
              case rel => exact ⟨by rw [if_neg HI0.out]; exact H5'.out⟩
          case rest =>
            have H7 := hcut
            clear hcut c3 f3 H5'
            have hgo := HW.out.2.2.1
            rw [if_neg (by rw [← HST.out]; simp)] at hgo
            have HG := Aside0.mk hgo
            clear hgo
            have HOK := Aside0.mk (hI.out.2.1.go (r := (k, p, en)) HW.out.2.2.2.1)
            cases en
            · go_wp2_with (first
                | ((with_reducible refine gate_builtin (b := .append) (xs := #[.tmp 47, .tmp 48]) rfl ?_); at_builtin; go_loud (obtain ⟨E, e1, e2, e3⟩ := H7.out.ex; have hC := H5.out.2.2 _ (HW.out.2.1 wc H7.out.bl); refine Kd.R_append_row (Value.int .u8) 0 (w0 := w) gl rfl (.tmp 47) (.tmp 48) 35 5 (.int .u8 0) 1 rfl Try.underlying35 info_u8 rfl (by decide) (.slice A4 m4 c4) s.now p A' mp c' (fun k => ¬ E k ∧ k ≠ gl) rfl rfl (fun k hk => ⟨fun h => by have := e1 k h; omega, by have := blk_lt H7.out.hp; omega⟩) e3 hC H7.out.bl (Nat.le_of_lt (blk_lt H7.out.hp)) ?aL ?_; (case aL => have h1 := hI.out.2.1.nl; have h2 := HW.out.2.2.2.1.2.2.1; have h3 := HW.out.2.2.2.2; have h4 := HM.out; omega); intro v8 w8 ho8 hb8 hg8 hat8; obtain ⟨A8, c8, rfl, _, _⟩ := Kd.R_reads ho8; have H8 := Aside0.mk (And.intro (TkAt.grow (p := p) H7.out e1 e2 e3 ho8 hb8 hg8) trivial); obtain ⟨m8, hm8⟩ : ∃ m, m = (s.now ++ p).length := ⟨_, rfl⟩; rw [← hm8] at H8 ⊢; have HM8 := Aside0.mk hm8; clear hC e1 e2 e3 ho8 hb8 hg8 hat8 hm8)))
              go_roundg (n - (i + 1))
              case measure => omega
              case rel =>
                exact ⟨i + 1, s.go i (k, p, false), A8, c8, m8, k, true, vl, rfl, rfl, rfl, by go_num, by omega, ⟨H8.out.1.as_ rfl rfl rfl rfl, HOK.out, HG.out.symm, HM8.out, rfl, rfl⟩⟩
            · have hvl : ∃ Al ml cl, vl = .slice Al ml cl := by
                obtain ⟨E, e1, e2, e3⟩ := H7.out.ex
                obtain ⟨A, c, h, _⟩ := Kd.R_reads e2
                exact ⟨A, _, c, h⟩
              obtain ⟨Al, ml, cl, rfl⟩ := hvl
              have hwi : wrap64 ((i : Int) + 1) = (i : Int) + 1 := IntWalk.wrap64_in _ ⟨by omega, by have := HM.out; omega⟩
              go_wp2_with (first
                | ((with_reducible refine gate_builtin (b := .append) (xs := #[.tmp 47, .tmp 48]) rfl ?_); at_builtin; go_loud (obtain ⟨E, e1, e2, e3⟩ := H7.out.ex; have hC := H5.out.2.2 _ (HW.out.2.1 wc H7.out.bl); refine Kd.R_append_row (Value.int .u8) 0 (w0 := w) gl rfl (.tmp 47) (.tmp 48) 35 5 (.int .u8 0) 1 rfl Try.underlying35 info_u8 rfl (by decide) (.slice A4 m4 c4) s.now p A' mp c' (fun k => ¬ E k ∧ k ≠ gl) rfl rfl (fun k hk => ⟨fun h => by have := e1 k h; omega, by have := blk_lt H7.out.hp; omega⟩) e3 hC H7.out.bl (Nat.le_of_lt (blk_lt H7.out.hp)) ?aL ?_; (case aL => have h1 := hI.out.2.1.nl; have h2 := HW.out.2.2.2.1.2.2.1; have h3 := HW.out.2.2.2.2; have h4 := HM.out; omega); intro v8 w8 ho8 hb8 hg8 hat8; obtain ⟨A8, c8, rfl, _, _⟩ := Kd.R_reads ho8; have H8 := Aside0.mk (And.intro (TkAt.grow (p := p) H7.out e1 e2 e3 ho8 hb8 hg8) trivial); obtain ⟨m8, hm8⟩ : ∃ m, m = (s.now ++ p).length := ⟨_, rfl⟩; rw [← hm8] at H8 ⊢; have HM8 := Aside0.mk hm8; have x6 : w8.cell? ⟨gl, 6, none⟩ = some (.slice Al ml cl) := (blk_cell H8.out.1.hp 6).trans rfl; clear hC e1 e2 e3 ho8 hb8 hg8 hat8 hm8))
                | ((with_reducible refine gate_builtin (b := .append) (xs := #[.tmp 59, .tmp 61]) rfl ?_); at_builtin; go_loud (obtain ⟨E, e1, e2, e3⟩ := H8.out.1.ex; have hLL := hI.out.2.1.ll; refine Kd.R_append KR (w0 := w) (W := w8) gl rfl (.tmp 59) (.tmp 61) 56 35 (.slice none 0 0) 24 rfl Try.underlying56 info_bytes rfl (by decide) (by decide) (.slice Al ml cl) s.l (s.now ++ p) [.slice A8 m8 c8] (fun k => k ≠ gl) (fun k => ¬ E k ∧ k ≠ gl) rfl rfl ?aM ?aK (fun k hk => (by have := blk_lt H8.out.1.hp; omega)) (Kd.R_mono e2 (fun k hk => hk.2)) H8.out.1.bl (Nat.le_of_lt (blk_lt H8.out.1.hp)) ?aL ?_; (case aM => exact ⟨_, rfl, e3⟩); (case aK => exact fun k hk => ⟨hk.2, fun he => hk.1 (e2.1 k he.symm).1⟩); (case aL => have h1 := hI.out.2.1.ll; have h2 := hI.out.2.1.h1; have h4 := HM.out; omega); intro v9 w9 ho9 hb9 hg9 hat9; obtain ⟨A9, c9, rfl, _, _⟩ := Kd.R_reads ho9; have hp9 := (hg9.block gl (blk_lt H8.out.1.hp) (fun e => (e2.1 gl e.symm).2 rfl)).trans H8.out.1.hp; have x6 : w9.cell? ⟨gl, 6, none⟩ = some (.slice Al ml cl) := (blk_cell hp9 6).trans rfl; have y6 : w9.frozen? ⟨gl, 6, none⟩ = false := blk_frozen hp9 6; have x5 : w9.cell? ⟨gl, 5, none⟩ = some (.int .i64 s.hv) := (blk_cell hp9 5).trans rfl; have y5 : w9.frozen? ⟨gl, 5, none⟩ = false := blk_frozen hp9 5; have hP := TkAt.push H8.out.1 e2 ho9 hb9 hg9 ((i : Int) + 1); have H9 := Aside0.mk hP; obtain ⟨m9, hm9⟩ : ∃ m, m = (s.l ++ [s.now ++ p]).length := ⟨_, rfl⟩; rw [← hm9] at H9 ⊢; clear e1 e2 e3 ho9 hb9 hg9 hat9 hp9 hm9 hP hLL)))
              go_roundg (n - (i + 1))
              case measure => omega
              case rel =>
                exact ⟨i + 1, s.go i (k, p, true), none, 0, 0, k, false, _, rfl, rfl, rfl, by go_num, by omega, ⟨H9.out.as_ rfl rfl rfl rfl, HOK.out, HG.out.symm, rfl, rfl, rfl⟩⟩
        · have hfin : LogAt wc gl (fun k => gl ≤ k) gl gd (L.taken bs) ∧ Below gl w wc := by
            have h1 := HW.out.2.2.1
            rw [if_pos HST.out.symm] at h1
            unfold LM.taken
            rw [h1]
            exact ⟨H5.out.1.done hI.out.2.1 (by have h1 := HX.out.2.2.2.1; have h2 := HX.out.2.2.2.2; omega) HX.out.2.1, H5.out.1.bl⟩
          have HF := Aside0.mk hfin
          clear hfin
          go_wp2
          ((try simp only [Exit.inBlock, Exit.then]); refine bodyPost_ret (results_none rfl _ _ _) rfl ?_)
          exact ⟨rfl, HF.out⟩
    · have hin : i = n := by omega
      have hfin : LogAt wr gl (fun k => gl ≤ k) gl gd (L.taken bs) ∧ Below gl w wr := by
        have h1 := hI.out.2.2.1
        rw [List.drop_of_length_le (by rw [hin, HX.out.2.2.2.1]; exact Nat.le_refl _)] at h1
        unfold LM.taken
        rw [← h1]
        exact ⟨hI.out.1.done hI.out.2.1 (by have h1 := HX.out.2.2.2.1; have h2 := HX.out.2.2.2.2; omega) HX.out.2.1, hI.out.1.bl⟩
      have HF := Aside0.mk hfin
      clear hfin
      go_wp2
      go_end0
      exact ⟨rfl, HF.out⟩
end
end Go.Proofs.Ytnajdnhgoakgaaa.Wal
