/- The law CodecBack. -/
import Derived.Test.YtlcanfniphdelaaCodL2
import Derived.Test.YtlcanfniphdelaaCodP
import Derived.Test.YtlcanfniphdelaaOpen2
namespace Go.Proofs.Ytlcanfniphdelaa.Cod
open Go.RowKit Go.Proofs.YtlcanfniphdelaaW.PrintWords Go.Proofs.YtlcanfniphdelaaW.PrintLast Go.Proofs.YtlcanfniphdelaaW.PrintMore Go.Proofs.Ytlcanfniphdelaa.Mem Go.Proofs.Ytlcanfniphdelaa.PCod Go.Proofs.Ytlcanfniphdelaa.Conv Go.Proofs.Ytlcanfniphdelaa.Open
set_option linter.unusedVariables false
set_option linter.unusedSimpArgs false
section
variable {w : World} {R : RM} {b r xs : List Int}
/-! ### plain -/
def qk (p : Part) : Int := bits .and .i64 p.k 3
def partPut (p : Part) : List Int := if qk p = 0 ∨ qk p = 1 then putNum p.x else if qk p = 2 then putNum p.b.length ++ p.b else [p.x % 2] ++ p.b
def allPut (l : List Part) : List Int := (l.map partPut).flatten
theorem and_1 {x : Int} (h : U64 x) : bits .and .u64 x 1 = x % 2 := bits_mask .u64 64 (by decide) wraps_u64 1 (by decide) x h.1 (by have := h.2; omega)
theorem bit_mod (x : Int) : bit (x % 2 == 1) = x % 2 := by
  unfold bit
  by_cases h : x % 2 = 1
  · rw [h]; rfl
  · rw [if_neg (by simpa using h)]; omega
theorem partPut_len (p : Part) (h : p.b.length ≤ 200) : (partPut p).length ≤ 210 := by
  unfold partPut
  have h1 := (putNum_len p.x).1
  have h2 := (putNum_len (p.b.length : Int)).1
  split
  · omega
  · split
    · rw [List.length_append]; omega
    · rw [List.length_append]; simp only [List.length_cons, List.length_nil]; omega
theorem partPut_byt {p : Part} (h : p.Ok) (hb : p.b.length ≤ 200) : Byt (partPut p) := by
  obtain ⟨_, hx, hy⟩ := h
  intro y hm
  unfold partPut at hm
  split at hm
  · exact putNum_byt hx.1 (by have := hx.2; omega) y hm
  · split at hm
    · rcases List.mem_append.1 hm with h | h
      · exact putNum_byt (by omega) (by omega) y h
      · exact hy y h
    · rcases List.mem_append.1 hm with h | h
      · simp at h; omega
      · exact hy y h
theorem allPut_snoc (l : List Part) (p : Part) : allPut (l ++ [p]) = allPut l ++ partPut p := by simp [allPut]
theorem allPut_cons (l : List Part) (p : Part) : allPut (p :: l) = partPut p ++ allPut l := by simp [allPut]
theorem takeP_snoc {l : List Part} {i : Nat} (hi : i < l.length) : l.take (i + 1) = l.take i ++ [l.getD i Part.none] := by
  rw [List.take_add_one, List.getD_eq_getElem?_getD, List.getElem?_eq_getElem hi]
  rfl
theorem dropP_cons {l : List Part} {i : Nat} (hi : i < l.length) : l.drop i = l.getD i Part.none :: l.drop (i + 1) := by
  rw [List.drop_eq_getElem_cons hi, List.getD_eq_getElem?_getD, List.getElem?_eq_getElem hi]
  rfl
theorem allPut_len (l : List Part) : ∀ i, i ≤ l.length → (∀ j, j < i → (l.getD j Part.none).b.length ≤ 200) → (allPut (l.take i)).length ≤ i * 210 := by
  intro i
  induction i with
  | zero => intro _ _; simp [allPut]
  | succ i ih =>
    intro hi h
    rw [takeP_snoc (by omega), allPut_snoc, List.length_append]
    have h1 := ih (by omega) (fun j hj => h j (by omega))
    have h2 := partPut_len _ (h i (by omega))
    omega
theorem allPut_byt (l : List Part) (h : ∀ p ∈ l, p.Ok ∧ p.b.length ≤ 200) : Byt (allPut l) := by
  intro x hx
  unfold allPut at hx
  rw [List.mem_flatten] at hx
  obtain ⟨s, hs, hx⟩ := hx
  obtain ⟨p, hp, rfl⟩ := List.mem_map.1 hs
  exact partPut_byt (h p hp).1 (h p hp).2 x hx
/-- What the reader does with a part that was put. -/
theorem back_uint {p : Part} (h : p.Ok) (hq : qk p = 0 ∨ qk p = 1) (r : List Int) : (⟨partPut p ++ r, 0⟩ : RM).uint = (⟨r, 0⟩, p.x) := by
  unfold partPut
  rw [if_pos hq]
  exact uint_put h.2.1.1 (by have := h.2.1.2; omega) r
theorem fixed_put (b r : List Int) : (⟨b ++ r, 0⟩ : RM).fixed b.length = (⟨r, 0⟩, b) := by
  rw [RM.fixed_ok rfl (by omega) (by show ¬ ((b ++ r).length : Int) < _; rw [List.length_append]; omega), Int.toNat_natCast]
  show ((⟨(b ++ r).drop b.length, 0⟩ : RM), (b ++ r).take b.length) = _
  rw [List.drop_left, List.take_left]
theorem back_bytes {p : Part} (hb : p.b.length ≤ 200) (hq : qk p = 2) (r : List Int) : (⟨partPut p ++ r, 0⟩ : RM).bytes 200 = (⟨r, 0⟩, p.b) := by
  unfold partPut
  rw [if_neg (by omega), if_pos hq, List.append_assoc]
  have hu := uint_put (y := (p.b.length : Int)) (by omega) (by omega) (p.b ++ r)
  rw [RM.bytes_ok (by rw [hu]) (by rw [hu]; show ¬ ((200 : Int) < 0 ∨ (200 : Int) < (p.b.length : Int)); omega), hu]
  exact fixed_put p.b r
theorem back_bool {p : Part} (hq : qk p ≠ 0 ∧ qk p ≠ 1 ∧ qk p ≠ 2) (r : List Int) : (⟨partPut p ++ r, 0⟩ : RM).bool = (⟨p.b ++ r, 0⟩, p.x % 2 == 1) := by
  unfold partPut
  rw [if_neg (by omega), if_neg hq.2.2]
  show (⟨p.x % 2 :: (p.b ++ r), 0⟩ : RM).bool = _
  rw [bool_cons, if_neg (by omega)]
/-! ### the row's cells, in every later world -/
theorem part_at {A : Option Addr} {l : List Part} (h : PartsAt w A l) {i : Nat} (hi : i < l.length) : ∃ (ad : Addr) (B : Option Addr) (c : Nat), A = some ad ∧ ∀ W, Below w.heap.size w W →
    (W.cell? (ad.add (i * 3)) = some (.int .i64 (l.getD i Part.none).k) ∧
     W.cell? ((ad.add (i * 3)).add 1) = some (.int .u64 (l.getD i Part.none).x) ∧ W.cell? ⟨(ad.add (i * 3)).block, (ad.add (i * 3)).off + 1, none⟩ = some (.int .u64 (l.getD i Part.none).x) ∧
     W.cell? ((ad.add (i * 3)).add 2) = some (.slice B (l.getD i Part.none).b.length c) ∧ W.cell? ⟨(ad.add (i * 3)).block, (ad.add (i * 3)).off + 2, none⟩ = some (.slice B (l.getD i Part.none).b.length c)) ∧
    Kd.C (Kd.int .u8) W B (l.getD i Part.none).b.length (l.getD i Part.none).b ∧ (l.getD i Part.none).b.length ≤ c := by
  obtain ⟨ad, B, c, e, h1, h2, h3, h4, h5, h6⟩ := h.2 i hi
  refine ⟨ad, B, c, e, fun W hb => ?_⟩
  have e1 : W.cell? ((ad.add (i * 3)).add 1) = some (.int .u64 (l.getD i Part.none).x) := by rw [Go.Deep.add_add]; exact (hb.cell (World.block_lt_of_cell? w _ h2)).trans h2
  have e2 : W.cell? ((ad.add (i * 3)).add 2) = some (.slice B (l.getD i Part.none).b.length c) := by rw [Go.Deep.add_add]; exact (hb.cell (World.block_lt_of_cell? w _ h3)).trans h3
  exact ⟨⟨(hb.cell (World.block_lt_of_cell? w _ h1)).trans h1, e1, e1, e2, e2⟩, Kd.C_below h4 hb, h5⟩
/-- The same of the writer's Bytes, where nothing may be asked of an empty row's place. -/
theorem wbytes_calls0 {base g : Nat} {F : Nat → Prop} {xs ys : List Int} {w0 : World} (hB : Below w0.heap.size w0 w) (hb0 : w0.heap.size ≤ base) (hd : WrAt w base F g xs) (A : Option Addr) (n c : Nat) (hn : n = ys.length) (hr : ∀ W, Kept w W F → Kd.C (Kd.int .u8) W A ys.length ys) (hl : xs.length + ys.length + 10 < 140737488355328) (hy : Byt ys) :
    Calls Try.prog 13 #[.pointer (some ⟨g, 0, none⟩), .slice A n c] w (Wrote w0 w base F g (xs ++ putNum ys.length ++ ys)) := by
  have hw : IntKind.u64.wrap (n : Int) = n := wraps_u64 _ (by omega) (by omega)
  have h1 := Aside0.mk (wuint_calls hB hb0 hd (n : Int) (by omega) (by omega) (by omega))
  have HX := Aside0.mk (And.intro hn (And.intro hr (And.intro hl (And.intro hy hb0))))
  clear hB hb0 hd hn hr hl hy
  go_enter Try.func13, Try.ntmps13
  go_wp2_with (first | (go_at_call 11; go_loud (refine h1.out.mono ?_; rintro e w1 ⟨rfl, hd1, hb1, hk1⟩; have HX1 := Aside0.mk (And.intro hd1 (And.intro hb1 hk1)); clear hd1 hb1 hk1)) | (go_at_call 16; go_loud (obtain ⟨hn, hr, hl, hy, hb0⟩ := HX.out; refine (wfixed_calls HX1.out.2.1 hb0 HX1.out.1 A n c hn (hr _ HX1.out.2.2) (by rw [List.length_append]; have := (putNum_len (n : Int)).1; omega) hy).mono ?_; rintro e w2 ⟨rfl, hd2, hb2, hk2⟩; have HX2 := Aside0.mk (And.intro hd2 (And.intro hb2 hk2)); clear hd2 hb2 hk2 hn hr hl hy hb0)))
  go_end0
  obtain ⟨h2, h3, h4⟩ := HX2.out
  have hs := HX1.out.2.2.1
  rw [show (n : Int) = (ys.length : Int) by rw [HX.out.1]] at h2
  exact ⟨rfl, h2.mono (Or.twice hs), h3, HX1.out.2.2.then_ h4 (fun k hk => by rcases hk with h | h; exact .inl h; exact .inr h)⟩
end
end Go.Proofs.Ytlcanfniphdelaa.Cod
