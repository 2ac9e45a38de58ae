/- The order of paths, and what stands in front of a path. -/
import Derived.Test.YtgjdcdhfijkoiaaDoorFiC
import Derived.Test.YtgjdcdhfijkoiaaDoorCoB
section
namespace Go.Proofs.YtgjdcdhfijkoiaaDoor.Str
open Go.RowKit Go.Proofs.YtgjdcdhfijkoiaaDoorW.PrintWords Go.Proofs.YtgjdcdhfijkoiaaDoorW.PrintLast Go.Proofs.YtgjdcdhfijkoiaaDoorW.PrintMore Go.Proofs.YtgjdcdhfijkoiaaDoor.Mem Go.Proofs.YtgjdcdhfijkoiaaDoor.PCod Go.Proofs.YtgjdcdhfijkoiaaDoor.Cod
set_option linter.unusedVariables false
set_option linter.unusedSimpArgs false
theorem less_cons (a b : UInt8) (x y : List UInt8) : Op.bytesLess (a :: x) (b :: y) = true ↔ a < b ∨ (a = b ∧ Op.bytesLess x y = true) := by
  rw [Op.bytesLess, Bool.or_eq_true, Bool.and_eq_true, decide_eq_true_eq, beq_iff_eq]
theorem less_irr : ∀ (x : List UInt8), Op.bytesLess x x = false
  | [] => rfl
  | a :: x => by
    rw [Bool.eq_false_iff]
    intro h
    rcases (less_cons a a x x).1 h with h | ⟨_, h⟩
    · exact absurd h (UInt8.lt_irrefl a)
    · rw [less_irr x] at h; cases h
theorem less_trans : ∀ (x y z : List UInt8), Op.bytesLess x y = true → Op.bytesLess y z = true → Op.bytesLess x z = true
  | _, [], _, h, _ => by rw [Op.bytesLess] at h; cases h
  | _, _ :: _, [], _, h => by cases h
  | [], _ :: _, _ :: _, _, _ => rfl
  | a :: x, b :: y, c :: z, h1, h2 => by
    rw [less_cons] at h1 h2 ⊢
    rcases h1 with h1 | ⟨rfl, h1⟩
    · rcases h2 with h2 | ⟨rfl, h2⟩
      · exact .inl (UInt8.lt_trans h1 h2)
      · exact .inl h1
    · rcases h2 with h2 | ⟨rfl, h2⟩
      · exact .inl h2
      · exact .inr ⟨rfl, less_trans x y z h1 h2⟩
theorem less_front : ∀ (a b : List UInt8), b ≠ [] → Op.bytesLess a (a ++ b) = true
  | [], [], h => absurd rfl h
  | [], _ :: _, _ => rfl
  | a :: x, b, h => (less_cons a a x (x ++ b)).2 (.inr ⟨rfl, less_front x b h⟩)
theorem lessS_tl (a b : ByteArray) : lessS a b = Op.bytesLess (tl a) (tl b) := by unfold lessS; rw [toList_tl, toList_tl]
theorem bt_tl (s : ByteArray) (k : Nat) : bt s k = 47 ↔ (tl s)[k]? = some 47 := by
  have hz := tl_size s
  by_cases h : k < s.size
  · have h1 := bt_at s (k : Int) (by simpa using h)
    rw [← h1]
    have e : (tl s)[k]? = some (s[k]'h) := by
      unfold tl
      rw [Array.getElem?_toList]
      exact Array.getElem?_eq_getElem (xs := s.data) (by exact h)
    rw [e]
    have e2 : (s[(k : Int).toNat]'(by simpa using h)) = s[k]'h := rfl
    rw [e2]
    constructor
    · intro h2
      refine congrArg some (UInt8.toNat_inj.1 ?_)
      show (s[k]'h).toNat = 47
      omega
    · intro h2
      rw [Option.some.inj h2]
      rfl
  · rw [List.getElem?_eq_none (by omega)]
    constructor
    · intro h2
      unfold bt at h2
      rw [dif_neg (by simpa using h)] at h2
      omega
    · intro h2; cases h2
/-- Is the first text, with a slash behind it, the front of the second? -/
def Fro (a b : List UInt8) : Prop := ∃ r, b = a ++ 47 :: r
theorem fro_iff (a b : List UInt8) : Fro a b ↔ b[a.length]? = some 47 ∧ b.take a.length = a := by
  constructor
  · rintro ⟨r, rfl⟩
    exact ⟨by rw [List.getElem?_append_right (Nat.le_refl _), Nat.sub_self]; rfl, List.take_left⟩
  · rintro ⟨h1, h2⟩
    obtain ⟨h3, h4⟩ := List.getElem?_eq_some_iff.1 h1
    refine ⟨b.drop (a.length + 1), ?_⟩
    conv => lhs; rw [← List.take_append_drop a.length b, h2, List.drop_eq_getElem_cons h3, h4]
theorem frontIn_iff (seen : List (List UInt8)) (s : ByteArray) : frontIn seen s = true ↔ ∃ a ∈ seen, Fro a (tl s) := by
  unfold frontIn
  rw [List.any_eq_true]
  constructor
  · rintro ⟨k, hk, h⟩
    rw [Bool.and_eq_true, beq_iff_eq, bt_tl, decide_eq_true_eq] at h
    have e : (s.extract 0 k).data.toList = (tl s).take k := (tl_extract s 0 k)
    rw [e] at h
    have hl : k < (tl s).length := (List.getElem?_eq_some_iff.1 h.1).1
    have hl2 : ((tl s).take k).length = k := by rw [List.length_take]; omega
    exact ⟨_, h.2, (fro_iff _ _).2 (by rw [hl2]; exact ⟨h.1, rfl⟩)⟩
  · rintro ⟨a, ha, h⟩
    obtain ⟨h1, h2⟩ := (fro_iff _ _).1 h
    have hl : a.length < (tl s).length := (List.getElem?_eq_some_iff.1 h1).1
    refine ⟨a.length, List.mem_range.2 (by rw [tl_size] at hl; exact hl), ?_⟩
    rw [Bool.and_eq_true, beq_iff_eq, bt_tl, decide_eq_true_eq]
    refine ⟨h1, ?_⟩
    have e : (s.extract 0 a.length).data.toList = (tl s).take a.length := (tl_extract s 0 a.length)
    rw [e, h2]
    exact ha
theorem fro_less {a b : List UInt8} (h : Fro a b) : Op.bytesLess a b = true := by
  obtain ⟨r, rfl⟩ := h
  exact less_front a _ (by simp)
end Go.Proofs.YtgjdcdhfijkoiaaDoor.Str
end
section
namespace Go.Proofs.YtgjdcdhfijkoiaaDoor.Str
open Go.RowKit Go.Proofs.YtgjdcdhfijkoiaaDoorW.PrintWords Go.Proofs.YtgjdcdhfijkoiaaDoorW.PrintLast Go.Proofs.YtgjdcdhfijkoiaaDoorW.PrintMore Go.Proofs.YtgjdcdhfijkoiaaDoor.Mem Go.Proofs.YtgjdcdhfijkoiaaDoor.PCod Go.Proofs.YtgjdcdhfijkoiaaDoor.Cod
set_option linter.unusedVariables false
set_option linter.unusedSimpArgs false
section
variable {w : World}
end
end Go.Proofs.YtgjdcdhfijkoiaaDoor.Str
end
section
namespace Go.Proofs.YtgjdcdhfijkoiaaDoor.Str
open Go.RowKit Go.Proofs.YtgjdcdhfijkoiaaDoorW.PrintWords Go.Proofs.YtgjdcdhfijkoiaaDoorW.PrintLast Go.Proofs.YtgjdcdhfijkoiaaDoorW.PrintMore Go.Proofs.YtgjdcdhfijkoiaaDoor.Mem Go.Proofs.YtgjdcdhfijkoiaaDoor.PCod Go.Proofs.YtgjdcdhfijkoiaaDoor.Cod
set_option linter.unusedVariables false
set_option linter.unusedSimpArgs false
section
variable {w : World}
end
end Go.Proofs.YtgjdcdhfijkoiaaDoor.Str
end
section
namespace Go.Proofs.YtgjdcdhfijkoiaaDoor.Str
open Go.RowKit Go.Proofs.YtgjdcdhfijkoiaaDoorW.PrintWords Go.Proofs.YtgjdcdhfijkoiaaDoorW.PrintLast Go.Proofs.YtgjdcdhfijkoiaaDoorW.PrintMore Go.Proofs.YtgjdcdhfijkoiaaDoor.Mem Go.Proofs.YtgjdcdhfijkoiaaDoor.PCod Go.Proofs.YtgjdcdhfijkoiaaDoor.Cod
set_option linter.unusedVariables false
set_option linter.unusedSimpArgs false
theorem putNum_cut {y z : Int} {r t : List Int} (hy : 0 ≤ y ∧ y < 18446744073709551616) (hz : 0 ≤ z ∧ z < 18446744073709551616) (h : putNum y ++ r = putNum z ++ t) : y = z ∧ r = t := by
  have h1 := uint_put hy.1 hy.2 r
  have h2 := uint_put hz.1 hz.2 t
  rw [h, h2] at h1
  injection h1 with h3 h4
  injection h3 with h5 _
  exact ⟨h4.symm, h5.symm⟩
/-- Files as Check lets them pass. -/
def Small (f : FS) : Prop := f.f0.size ≤ 255 ∧ f.f1.length ≤ 1048576 ∧ Byt f.f1
theorem small_of {l : List FS} (h : checkM l = 0) (hy : ∀ f ∈ l, Byt f.f1) : ∀ f ∈ l, Small f := by
  obtain ⟨h1, h2, h3, h4⟩ := check_0 h
  intro f hf
  refine ⟨(pathM_size (pathsGo_ok l none [] h1 f hf)).2, ?_, hy f hf⟩
  have h5 := List.any_eq_false.1 h2 f hf
  unfold bigF at h5
  have h6 : ¬ 1048576 < f.f1.length := fun h => h5 (decide_eq_true h)
  omega
theorem bytesOf_inj {a b : ByteArray} (h : bytesOf a = bytesOf b) : a = b := by
  rw [← str_bytesOf a, ← str_bytesOf b, h]
theorem filB_cut {f g : FS} {r t : List Int} (hf : Small f) (hg : Small g) (h : filB f ++ r = filB g ++ t) : f = g ∧ r = t := by
  unfold filB at h
  obtain ⟨f1, f2, f3⟩ := hf
  obtain ⟨g1, g2, g3⟩ := hg
  simp only [List.append_assoc] at h
  obtain ⟨h1, h2⟩ := putNum_cut (by omega) (by omega) h
  obtain ⟨h3, h4⟩ := List.append_inj h2 (by rw [bytesOf_length, bytesOf_length]; omega)
  obtain ⟨h5, h6⟩ := putNum_cut (by omega) (by omega) h4
  obtain ⟨h7, h8⟩ := List.append_inj h6 (by omega)
  refine ⟨?_, h8⟩
  cases f
  cases g
  dsimp only at h3 h7
  rw [bytesOf_inj h3, h7]
theorem fils_cut (l : List FS) : ∀ (m : List FS), (∀ f ∈ l, Small f) → (∀ f ∈ m, Small f) → l.length = m.length → (l.map filB).flatten = (m.map filB).flatten → l = m := by
  induction l with
  | nil =>
    intro m _ _ hn _
    cases m with
    | nil => rfl
    | cons g m => simp at hn
  | cons f l ih =>
    intro m hl hm hn h
    cases m with
    | nil => simp at hn
    | cons g m =>
      rw [List.map_cons, List.map_cons, List.flatten_cons, List.flatten_cons] at h
      obtain ⟨h1, h2⟩ := filB_cut (hl f List.mem_cons_self) (hm g List.mem_cons_self) h
      rw [h1, ih m (fun x hx => hl x (List.mem_cons_of_mem _ hx)) (fun x hx => hm x (List.mem_cons_of_mem _ hx)) (by simpa using hn) h2]
theorem putM_inj {l m : List FS} (hl : checkM l = 0) (hm : checkM m = 0) (yl : ∀ f ∈ l, Byt f.f1) (ym : ∀ f ∈ m, Byt f.f1) (h : putM l = putM m) : l = m := by
  have h1 := (check_0 hl).2.2.2
  have h2 := (check_0 hm).2.2.2
  unfold putM at h
  obtain ⟨h3, h4⟩ := putNum_cut (by omega) (by omega) h
  exact fils_cut l m (small_of hl yl) (small_of hm ym) (by omega) h4
theorem S_inj {a b : List Int} (ha : Byt a) (hb : Byt b) (h : (S a).toList = (S b).toList) : a = b := by
  have h1 : S a = S b := tl_inj (by rw [← toList_tl, ← toList_tl, h])
  rw [← bytesOf_str ha, ← bytesOf_str hb]
  exact congrArg bytesOf h1
theorem byt_app {a b : List Int} (ha : Byt a) (hb : Byt b) : Byt (a ++ b) := fun x hx => (List.mem_append.1 hx).elim (ha x) (hb x)
theorem filB_byt {f : FS} (h : Small f) : Byt (filB f) := by
  unfold filB
  exact byt_app (byt_app (putNum_byt (by omega) (by have := h.1; omega)) (bytesOf_byt _)) (byt_app (putNum_byt (by omega) (by have := h.2.1; omega)) h.2.2)
theorem putM_byt {l : List FS} (h : checkM l = 0) (hy : ∀ f ∈ l, Byt f.f1) : Byt (putM l) := by
  have h1 := small_of h hy
  unfold putM
  refine byt_app (putNum_byt (by omega) (by have := (check_0 h).2.2.2; omega)) (fun x hx => ?_)
  obtain ⟨y, h2, h3⟩ := List.mem_flatten.1 hx
  obtain ⟨f, hf, rfl⟩ := List.mem_map.1 h2
  exact filB_byt (h1 f hf) x h3
theorem kf_inj {f g : FS} (hf : Byt f.f1) (hg : Byt g.f1) (h : kf f = kf g) : f = g := by
  unfold kf at h
  injection h with h1 h2
  have h3 := S_inj hf hg h2
  have h4 : f.f0 = g.f0 := tl_inj (by rw [← toList_tl, ← toList_tl, h1])
  cases f
  cases g
  dsimp only at h3 h4
  rw [h3, h4]
theorem kfs_inj : ∀ {l m : List FS}, (∀ f ∈ l, Byt f.f1) → (∀ f ∈ m, Byt f.f1) → l.map kf = m.map kf → l = m
  | [], [], _, _, _ => rfl
  | [], _ :: _, _, _, h => by cases h
  | _ :: _, [], _, _, h => by cases h
  | f :: l, g :: m, hl, hm, h => by
    rw [List.map_cons, List.map_cons] at h
    injection h with h1 h2
    rw [kf_inj (hl f List.mem_cons_self) (hm g List.mem_cons_self) h1, kfs_inj (fun x hx => hl x (List.mem_cons_of_mem _ hx)) (fun x hx => hm x (List.mem_cons_of_mem _ hx)) h2]
theorem same_put {l m : List FS} (hl : checkM l = 0) (hm : checkM m = 0) (yl : ∀ f ∈ l, Byt f.f1) (ym : ∀ f ∈ m, Byt f.f1) : sameM l m = ((S (putM l)).toList == (S (putM m)).toList) := by
  unfold sameM
  rw [Bool.eq_iff_iff, decide_eq_true_eq, beq_iff_eq]
  constructor
  · intro h; rw [kfs_inj yl ym h]
  · intro h; rw [putM_inj hl hm yl ym (S_inj (putM_byt hl yl) (putM_byt hm ym) h)]
end Go.Proofs.YtgjdcdhfijkoiaaDoor.Str
end
section
namespace Go.Proofs.YtgjdcdhfijkoiaaDoor.Str
open Go.RowKit Go.Proofs.YtgjdcdhfijkoiaaDoorW.PrintWords Go.Proofs.YtgjdcdhfijkoiaaDoorW.PrintLast Go.Proofs.YtgjdcdhfijkoiaaDoorW.PrintMore Go.Proofs.YtgjdcdhfijkoiaaDoor.Mem Go.Proofs.YtgjdcdhfijkoiaaDoor.PCod Go.Proofs.YtgjdcdhfijkoiaaDoor.Cod
set_option linter.unusedVariables false
set_option linter.unusedSimpArgs false
/-- Two trees and what is told of them. -/
structure Tw (w : World) (A : Option Addr) (n c : Nat) (B : Option Addr) (m d : Nat) (ca cb : Int) (xa xb : List Int) (r : Bool) : Prop where
  pa : ∀ W, Below w.heap.size w W → Calls Tryd.prog 16 #[.slice A n c] W fun e w' => ∃ v, e = .returned (.tuple #[v, .int .i64 ca]) ∧ Kd.R (Kd.int .u8) 5 w' W.heap.size (fun _ => True) v xa ∧ Below W.heap.size W w'
  pb : ∀ W, Below w.heap.size w W → Calls Tryd.prog 16 #[.slice B m d] W fun e w' => ∃ v, e = .returned (.tuple #[v, .int .i64 cb]) ∧ Kd.R (Kd.int .u8) 5 w' W.heap.size (fun _ => True) v xb ∧ Below W.heap.size W w'
  saa : ∀ W, Below w.heap.size w W → Calls Tryd.prog 23 #[.slice A n c, .slice A n c] W fun e w' => e = .returned (.bool true) ∧ Below W.heap.size W w'
  sbb : ∀ W, Below w.heap.size w W → Calls Tryd.prog 23 #[.slice B m d, .slice B m d] W fun e w' => e = .returned (.bool true) ∧ Below W.heap.size W w'
  sab : ∀ W, Below w.heap.size w W → Calls Tryd.prog 23 #[.slice A n c, .slice B m d] W fun e w' => e = .returned (.bool r) ∧ Below W.heap.size W w'
  sba : ∀ W, Below w.heap.size w W → Calls Tryd.prog 23 #[.slice B m d, .slice A n c] W fun e w' => e = .returned (.bool r) ∧ Below W.heap.size W w'
  eq : ca = 0 → cb = 0 → r = ((S xa).toList == (S xb).toList)
section
variable {w : World} {A B : Option Addr} {c d : Nat} {a b : List FS}
theorem tw_of (hr : Kd.C k50 w A a.length a) (hc : a.length ≤ c) (hl : a.length ≤ 100000) (hy : ∀ f ∈ a, Byt f.f1) (hr2 : Kd.C k50 w B b.length b) (hc2 : b.length ≤ d) (hl2 : b.length ≤ 100000) (hy2 : ∀ f ∈ b, Byt f.f1) :
    ∃ ca cb xa xb r, Tw w A a.length c B b.length d ca cb xa xb r := by
  refine ⟨checkM a, checkM b, _, _, sameM a b, fun W hb => put_calls (Kd.C_below hr hb) hl hy, fun W hb => put_calls (Kd.C_below hr2 hb) hl2 hy2, fun W hb => ?_, fun W hb => ?_, fun W hb => ?_, fun W hb => ?_, fun h1 h2 => ?_⟩
  · have h := same_calls (Kd.C_below hr hb) hc (Kd.C_below hr hb) hc (by omega)
    rw [sameM_refl] at h
    exact h.mono (fun _ _ h => ⟨h.1, h.2.below⟩)
  · have h := same_calls (Kd.C_below hr2 hb) hc2 (Kd.C_below hr2 hb) hc2 (by omega)
    rw [sameM_refl] at h
    exact h.mono (fun _ _ h => ⟨h.1, h.2.below⟩)
  · exact (same_calls (Kd.C_below hr hb) hc (Kd.C_below hr2 hb) hc2 (by omega)).mono (fun _ _ h => ⟨h.1, h.2.below⟩)
  · have h := same_calls (Kd.C_below hr2 hb) hc2 (Kd.C_below hr hb) hc (by omega)
    rw [sameM_comm] at h
    exact h.mono (fun _ _ h => ⟨h.1, h.2.below⟩)
  · rw [if_pos h1, if_pos h2]
    exact same_put h1 h2 hy hy2
set_option maxRecDepth 100000 in
set_option maxHeartbeats 8000000 in
theorem same_law (hr : Kd.C k50 w A a.length a) (hc : a.length ≤ c) (hl : a.length ≤ 9223372036854775807) (hy : ∀ f ∈ a, Byt f.f1) (hr2 : Kd.C k50 w B b.length b) (hc2 : b.length ≤ d) (hl2 : b.length ≤ 9223372036854775807) (hy2 : ∀ f ∈ b, Byt f.f1) (s : Bool) :
    Calls Tryd.prog 6 #[.slice A a.length c, .slice B b.length d, .bool s] w fun e w' => e = .returned (.bool true) ∧ Below w.heap.size w w' := by
  have hF : ∃ p q, (p = true → a.length ≤ 20) ∧ (q = true → b.length ≤ 20) ∧ (∀ W, Below w.heap.size w W → Calls Tryd.prog 14 #[.slice A a.length c] W fun e w' => e = .returned (.bool p) ∧ Below W.heap.size W w') ∧ (∀ W, Below w.heap.size w W → Calls Tryd.prog 14 #[.slice B b.length d] W fun e w' => e = .returned (.bool q) ∧ Below W.heap.size W w') := by
    obtain ⟨p, hp1, hp2⟩ := few_go a hl a.length 0 0 (by omega)
    obtain ⟨q, hq1, hq2⟩ := few_go b hl2 b.length 0 0 (by omega)
    exact ⟨p, q, hp2, hq2, fun W hb => (baileelaw11_few.calls (a.length + 1) A c a p W (Kd.C_below hr hb) hc hp1).mono (fun _ _ h => ⟨h.1, h.2.below⟩), fun W hb => (baileelaw11_few.calls (b.length + 1) B d b q W (Kd.C_below hr2 hb) hc2 hq1).mono (fun _ _ h => ⟨h.1, h.2.below⟩)⟩
  obtain ⟨p, q, hp, hq, hfa, hfb⟩ := hF
  have HF := Aside0.mk (And.intro hfa hfb)
  clear hfa hfb
  by_cases hpq : p = true ∧ q = true
  · have T : (s = false → ∃ ca cb xa xb r, Tw w A a.length c B b.length d ca cb xa xb r) ∧ (s = true → ∃ ca cb xa xb r, Tw w A a.length c A a.length c ca cb xa xb r) :=
      ⟨fun _ => tw_of hr hc (by have := hp hpq.1; omega) hy hr2 hc2 (by have := hq hpq.2; omega) hy2, fun _ => tw_of hr hc (by have := hp hpq.1; omega) hy hr hc (by have := hp hpq.1; omega) hy⟩
    obtain ⟨n, hn⟩ : ∃ n, n = a.length := ⟨_, rfl⟩
    obtain ⟨m, hm⟩ : ∃ n, n = b.length := ⟨_, rfl⟩
    rw [← hn, ← hm] at T HF ⊢
    clear hr hc hl hy hr2 hc2 hl2 hy2 hp hq hn hm
    obtain ⟨rfl, rfl⟩ := hpq
    cases s
    case' false => obtain ⟨ca, cb, xa, xb, r, T1⟩ := T.1 rfl
    case' true => obtain ⟨ca, cb, xa, xb, r, T1⟩ := T.2 rfl
    all_goals
      clear T
      have T := Aside0.mk T1
      clear T1
      have hcase : ((ca != 0) = true) ∨ (ca = 0 ∧ (cb != 0) = true) ∨ (ca = 0 ∧ cb = 0) := by
        by_cases h1 : ca = 0
        · by_cases h2 : cb = 0
          · exact .inr (.inr ⟨h1, h2⟩)
          · exact .inr (.inl ⟨h1, bne_iff_ne.2 h2⟩)
        · exact .inl (bne_iff_ne.2 h1)
      rcases hcase with k1 | ⟨k0, k1⟩ | ⟨k0, k1⟩
      case' inr.inl => subst k0
      case' inr.inr => subst k0; subst k1
      all_goals
        go_enter Tryd.func6, Tryd.ntmps6
        go_upto_region 14 with (first
          | (go_at_call 13; go_loud (refine (awake_calls w).mono ?_; rintro e w1 ⟨rfl, hb⟩; have H1 := Aside0.mk hb; clear hb))
          | (go_at_call 14; (with_reducible refine (HF.out.1 w1 H1.out).mono ?_); rintro e w2 ⟨rfl, hb⟩; have H2 := Aside0.mk (below_step H1.out hb); clear hb)
          | (go_at_call 14; (with_reducible refine (HF.out.2 w2 H2.out).mono ?_); rintro e w3 ⟨rfl, hb⟩; have H3 := Aside0.mk (below_step H2.out hb); clear hb)
          | (go_at_call 16; (with_reducible refine (T.out.pa w3 H3.out).mono ?_); rintro e w4 ⟨v4, rfl, hv4, hb⟩; obtain ⟨A4, c4, rfl, _, hC4⟩ := Kd.R_reads hv4; have H4 := Aside0.mk (And.intro hC4 (below_step H3.out hb)); clear hb hv4 hC4)
          | (go_at_call 16; (with_reducible refine (T.out.pb w4 H4.out.2).mono ?_); rintro e w5 ⟨v5, rfl, hv5, hb⟩; obtain ⟨A5, c5, rfl, _, hC5⟩ := Kd.R_reads hv5; have H5 := Aside0.mk (And.intro (Kd.C_below H4.out.1 hb) (And.intro hC5 (below_step H4.out.2 hb))); clear hb hv5 hC5)
          | (go_at_call 23; (with_reducible refine (T.out.saa w5 H5.out.2.2).mono ?_); rintro e w6 ⟨rfl, hb⟩; have H6 := Aside0.mk (below_step H5.out.2.2 hb); clear hb)
          | (go_at_call 23; (with_reducible refine (T.out.sbb w6 H6.out).mono ?_); rintro e w7 ⟨rfl, hb⟩; have H7 := Aside0.mk (below_step H6.out hb); clear hb))
      all_goals first
        | (go_ret; exact ⟨rfl, H7.out⟩)
        | skip
    · obtain ⟨wd, hwd⟩ : ∃ x, x = w5.drew := ⟨_, rfl⟩
      have HD := Aside0.mk (show Kd.C (Kd.int .u8) wd A4 xa.length xa ∧ Kd.C (Kd.int .u8) wd A5 xb.length xb ∧ Below w.heap.size w wd from by
        rw [hwd]
        exact ⟨Kd.C_below H5.out.1 (below_drew1 (Below.refl _ _)), Kd.C_below H5.out.2.1 (below_drew1 (Below.refl _ _)), below_step H5.out.2.2 (below_drew1 (Below.refl _ _))⟩)
      refine start_ (n := 19) (S := fun W => Kd.C (Kd.int .u8) W A4 xa.length xa ∧ Kd.C (Kd.int .u8) W A5 xb.length xb) (ds := []) #[false, false, false, false, false, false, false, false, false, false, false, false, false, false, false, false, false, false, false] (by kernel_rfl) rfl (by kernel_rfl) (by rw [← hwd]; exact ⟨HD.out.1, HD.out.2.1⟩) (fun hHeld => ?_)
      rw [← hwd] at hHeld ⊢
      clear hwd
      refine pure_ (i := 0) (N := some 53) (v := ?_) (a' := ?_) #[true, false, false, false, false, false, false, false, false, false, false, false, false, false, false, false, false, false, false] rfl rfl (by kernel_rfl) (fun _ _ _ h => h) (Or.inl ⟨by rfl, ?_⟩) ?_ ?_
      rotate_left
      · intro w'
        go_simp
        with_reducible rfl
      rotate_left
      · simp only [Act.put, List.setIfInBounds_toArray, List.set_cons_zero, List.set_cons_succ, i64_w, i32_w]
        rfl
      refine pure_ (i := 1) (N := some 54) (v := ?_) (a' := ?_) #[true, true, false, false, false, false, false, false, false, false, false, false, false, false, false, false, false, false, false] rfl rfl (by kernel_rfl) (fun _ _ _ h => h) (Or.inl ⟨by rfl, ?_⟩) ?_ ?_
      rotate_left
      · intro w'
        go_simp
        with_reducible rfl
      rotate_left
      · simp only [Act.put, List.setIfInBounds_toArray, List.set_cons_zero, List.set_cons_succ, i64_w, i32_w]
        rfl
      refine pure_ (i := 3) (N := some 56) (v := ?_) (a' := ?_) #[true, true, false, true, false, false, false, false, false, false, false, false, false, false, false, false, false, false, false] rfl rfl (by kernel_rfl) (fun _ _ _ h => h) (Or.inl ⟨by rfl, ?_⟩) ?_ ?_
      rotate_left
      · intro w'
        go_simp
        with_reducible rfl
      rotate_left
      · simp only [Act.put, List.setIfInBounds_toArray, List.set_cons_zero, List.set_cons_succ, i64_w, i32_w]
        rfl
      refine pure_ (i := 5) (N := some 58) (v := ?_) (a' := ?_) #[true, true, false, true, false, true, false, false, false, false, false, false, false, false, false, false, false, false, false] rfl rfl (by kernel_rfl) (fun _ _ _ h => h) (Or.inl ⟨by rfl, ?_⟩) ?_ ?_
      rotate_left
      · intro w'
        go_simp
        with_reducible rfl
      rotate_left
      · simp only [Act.put, List.setIfInBounds_toArray, List.set_cons_zero, List.set_cons_succ, i64_w, i32_w]
        rfl
      refine take_ (i := 4) (N := some 57) (v := ?_) (a' := ?_) #[true, true, false, true, true, true, false, false, false, false, false, false, false, false, false, false, false, false, false] rfl rfl (by kernel_rfl) (fun _ _ _ h => h) (Or.inl ⟨by rfl, ?_⟩) hHeld ?_ ?_
      rotate_left
      · rintro w' s0
        have hcv := Kd.C_string Tryd.underlying27 Tryd.underlying5 Tryd.underlying9 s0.1 (P := Tryd.prog) (c := c4)
        go_simp
        with_reducible rfl
      rotate_left
      · simp only [Act.put, List.setIfInBounds_toArray, List.set_cons_zero, List.set_cons_succ, i64_w, i32_w]
        rfl
      refine take_ (i := 6) (N := some 59) (v := ?_) (a' := ?_) #[true, true, false, true, true, true, true, false, false, false, false, false, false, false, false, false, false, false, false] rfl rfl (by kernel_rfl) (fun _ _ _ h => h) (Or.inl ⟨by rfl, ?_⟩) hHeld ?_ ?_
      rotate_left
      · rintro w' s0
        have hcv := Kd.C_string Tryd.underlying27 Tryd.underlying5 Tryd.underlying9 s0.2 (P := Tryd.prog) (c := c5)
        go_simp
        with_reducible rfl
      rotate_left
      · simp only [Act.put, List.setIfInBounds_toArray, List.set_cons_zero, List.set_cons_succ, i64_w, i32_w]
        rfl
      refine pure_ (i := 7) (N := some 60) (v := ?_) (a' := ?_) #[true, true, false, true, true, true, true, true, false, false, false, false, false, false, false, false, false, false, false] rfl rfl (by kernel_rfl) (fun _ _ _ h => h) (Or.inl ⟨by rfl, ?_⟩) ?_ ?_
      rotate_left
      · intro w'
        go_simp
        with_reducible rfl
      rotate_left
      · simp only [Act.put, List.setIfInBounds_toArray, List.set_cons_zero, List.set_cons_succ, i64_w, i32_w]
        rfl
      refine one_ (i := 2) (N := some 55) #[true, true, true, true, true, true, true, true, false, false, false, false, false, false, false, false, false, false, false] rfl rfl (by kernel_rfl) (by decide) (fun K hK => ?_)
      refine goes_ Tryd.func23 (by kernel_rfl) rfl #[.slice A n c, .slice A n c] (by rfl) rfl rfl (by (try simp only [List.map_toArray, List.map_cons, List.map_nil]); first | rfl | (go_simp; done)) ?_
      refine (T.out.sab wd HD.out.2.2).mono ?_
      rintro e w8 ⟨rfl, hb⟩
      refine ⟨_, rfl, ?_⟩
      have H8 := Aside0.mk (And.intro (Kd.C_below HD.out.1 hb) (And.intro (Kd.C_below HD.out.2.1 hb) (below_step HD.out.2.2 hb)))
      clear hb
      refine hK.out _ _ (⟨H8.out.1, H8.out.2.1⟩) (fun hHeld => ?_)
      clear hK K
      refine norm_ (a' := ?_) ?_ ?_
      rotate_left
      · show Act.put _ (some 55) _ = _
        simp only [Act.put, List.setIfInBounds_toArray, List.set_cons_zero, List.set_cons_succ, i64_w, i32_w]
        rfl
      have heq := Aside0.mk (T.out.eq rfl rfl)
      refine pure_ (i := 8) (N := some 61) (v := ?_) (a' := ?_) #[true, true, true, true, true, true, true, true, true, false, false, false, false, false, false, false, false, false, false] rfl rfl (by kernel_rfl) (fun _ _ _ h => h) (Or.inl ⟨by rfl, ?_⟩) ?_ ?_
      rotate_left
      · intro w'
        go_simp
        with_reducible rfl
      rotate_left
      · simp only [Act.put, List.setIfInBounds_toArray, List.set_cons_zero, List.set_cons_succ, i64_w, i32_w]
        rfl
      rw [← heq.out, show (r == r) = true from beq_self_eq_true r]
      clear heq
      refine pure_ (i := 9) (N := some 62) (v := ?_) (a' := ?_) #[true, true, true, true, true, true, true, true, true, true, false, false, false, false, false, false, false, false, false] rfl rfl (by kernel_rfl) (fun _ _ _ h => h) (Or.inl ⟨by rfl, ?_⟩) ?_ ?_
      rotate_left
      · intro w'
        go_simp
        with_reducible rfl
      rotate_left
      · simp only [Act.put, List.setIfInBounds_toArray, List.set_cons_zero, List.set_cons_succ, i64_w, i32_w]
        rfl
      refine pure_ (i := 10) (N := some 63) (v := ?_) (a' := ?_) #[true, true, true, true, true, true, true, true, true, true, true, false, false, false, false, false, false, false, false] rfl rfl (by kernel_rfl) (fun _ _ _ h => h) (Or.inl ⟨by rfl, ?_⟩) ?_ ?_
      rotate_left
      · intro w'
        go_simp
        with_reducible rfl
      rotate_left
      · simp only [Act.put, List.setIfInBounds_toArray, List.set_cons_zero, List.set_cons_succ, i64_w, i32_w]
        rfl
      refine pure_ (i := 11) (N := some 64) (v := ?_) (a' := ?_) #[true, true, true, true, true, true, true, true, true, true, true, true, false, false, false, false, false, false, false] rfl rfl (by kernel_rfl) (fun _ _ _ h => h) (Or.inl ⟨by rfl, ?_⟩) ?_ ?_
      rotate_left
      · intro w'
        go_simp
        with_reducible rfl
      rotate_left
      · simp only [Act.put, List.setIfInBounds_toArray, List.set_cons_zero, List.set_cons_succ, i64_w, i32_w]
        rfl
      refine pure_ (i := 13) (N := some 66) (v := ?_) (a' := ?_) #[true, true, true, true, true, true, true, true, true, true, true, true, false, true, false, false, false, false, false] rfl rfl (by kernel_rfl) (fun _ _ _ h => h) (Or.inl ⟨by rfl, ?_⟩) ?_ ?_
      rotate_left
      · intro w'
        go_simp
        with_reducible rfl
      rotate_left
      · simp only [Act.put, List.setIfInBounds_toArray, List.set_cons_zero, List.set_cons_succ, i64_w, i32_w]
        rfl
      refine pure_ (i := 14) (N := some 67) (v := ?_) (a' := ?_) #[true, true, true, true, true, true, true, true, true, true, true, true, false, true, true, false, false, false, false] rfl rfl (by kernel_rfl) (fun _ _ _ h => h) (Or.inl ⟨by rfl, ?_⟩) ?_ ?_
      rotate_left
      · intro w'
        go_simp
        with_reducible rfl
      rotate_left
      · simp only [Act.put, List.setIfInBounds_toArray, List.set_cons_zero, List.set_cons_succ, i64_w, i32_w]
        rfl
      refine one_ (i := 12) (N := some 65) #[true, true, true, true, true, true, true, true, true, true, true, true, true, true, true, false, false, false, false] rfl rfl (by kernel_rfl) (by decide) (fun K hK => ?_)
      refine goes_ Tryd.func23 (by kernel_rfl) rfl #[.slice A n c, .slice A n c] (by rfl) rfl rfl (by (try simp only [List.map_toArray, List.map_cons, List.map_nil]); first | rfl | (go_simp; done)) ?_
      refine (T.out.sab w8 H8.out.2.2).mono ?_
      rintro e w9 ⟨rfl, hb⟩
      refine ⟨_, rfl, ?_⟩
      have H9 := Aside0.mk (And.intro (Kd.C_below H8.out.1 hb) (And.intro (Kd.C_below H8.out.2.1 hb) (below_step H8.out.2.2 hb)))
      clear hb
      refine hK.out _ _ (⟨H9.out.1, H9.out.2.1⟩) (fun hHeld => ?_)
      clear hK K
      refine norm_ (a' := ?_) ?_ ?_
      rotate_left
      · show Act.put _ (some 65) _ = _
        simp only [Act.put, List.setIfInBounds_toArray, List.set_cons_zero, List.set_cons_succ, i64_w, i32_w]
        rfl
      refine one_ (i := 15) (N := some 68) #[true, true, true, true, true, true, true, true, true, true, true, true, true, true, true, true, false, false, false] rfl rfl (by kernel_rfl) (by decide) (fun K hK => ?_)
      refine goes_ Tryd.func23 (by kernel_rfl) rfl #[.slice A n c, .slice A n c] (by rfl) rfl rfl (by (try simp only [List.map_toArray, List.map_cons, List.map_nil]); first | rfl | (go_simp; done)) ?_
      refine (T.out.sba w9 H9.out.2.2).mono ?_
      rintro e w10 ⟨rfl, hb⟩
      refine ⟨_, rfl, ?_⟩
      have H10 := Aside0.mk (And.intro (Kd.C_below H9.out.1 hb) (And.intro (Kd.C_below H9.out.2.1 hb) (below_step H9.out.2.2 hb)))
      clear hb
      refine hK.out _ _ (⟨H10.out.1, H10.out.2.1⟩) (fun hHeld => ?_)
      clear hK K
      refine norm_ (a' := ?_) ?_ ?_
      rotate_left
      · show Act.put _ (some 68) _ = _
        simp only [Act.put, List.setIfInBounds_toArray, List.set_cons_zero, List.set_cons_succ, i64_w, i32_w]
        rfl
      refine pure_ (i := 16) (N := some 69) (v := ?_) (a' := ?_) #[true, true, true, true, true, true, true, true, true, true, true, true, true, true, true, true, true, false, false] rfl rfl (by kernel_rfl) (fun _ _ _ h => h) (Or.inl ⟨by rfl, ?_⟩) ?_ ?_
      rotate_left
      · intro w'
        go_simp
        with_reducible rfl
      rotate_left
      · simp only [Act.put, List.setIfInBounds_toArray, List.set_cons_zero, List.set_cons_succ, i64_w, i32_w]
        rfl
      refine pure_ (i := 17) (N := some 70) (v := ?_) (a' := ?_) #[true, true, true, true, true, true, true, true, true, true, true, true, true, true, true, true, true, true, false] rfl rfl (by kernel_rfl) (fun _ _ _ h => h) (Or.inl ⟨by rfl, ?_⟩) ?_ ?_
      rotate_left
      · intro w'
        go_simp
        with_reducible rfl
      rotate_left
      · simp only [Act.put, List.setIfInBounds_toArray, List.set_cons_zero, List.set_cons_succ, i64_w, i32_w]
        rfl
      refine pure_ (i := 18) (N := some 6) (v := ?_) (a' := ?_) #[true, true, true, true, true, true, true, true, true, true, true, true, true, true, true, true, true, true, true] rfl rfl (by kernel_rfl) (fun _ _ _ h => h) (Or.inl ⟨by rfl, ?_⟩) ?_ ?_
      rotate_left
      · intro w'
        go_simp
        with_reducible rfl
      rotate_left
      · simp only [Act.put, List.setIfInBounds_toArray, List.set_cons_zero, List.set_cons_succ, i64_w, i32_w]
        rfl
      refine done_ (by kernel_rfl) ?_
      go_wp2
      go_ret
      exact ⟨rfl, H10.out.2.2⟩
    · obtain ⟨wd, hwd⟩ : ∃ x, x = w5.drew := ⟨_, rfl⟩
      have HD := Aside0.mk (show Kd.C (Kd.int .u8) wd A4 xa.length xa ∧ Kd.C (Kd.int .u8) wd A5 xb.length xb ∧ Below w.heap.size w wd from by
        rw [hwd]
        exact ⟨Kd.C_below H5.out.1 (below_drew1 (Below.refl _ _)), Kd.C_below H5.out.2.1 (below_drew1 (Below.refl _ _)), below_step H5.out.2.2 (below_drew1 (Below.refl _ _))⟩)
      refine start_ (n := 19) (S := fun W => Kd.C (Kd.int .u8) W A4 xa.length xa ∧ Kd.C (Kd.int .u8) W A5 xb.length xb) (ds := []) #[false, false, false, false, false, false, false, false, false, false, false, false, false, false, false, false, false, false, false] (by kernel_rfl) rfl (by kernel_rfl) (by rw [← hwd]; exact ⟨HD.out.1, HD.out.2.1⟩) (fun hHeld => ?_)
      rw [← hwd] at hHeld ⊢
      clear hwd
      refine pure_ (i := 0) (N := some 53) (v := ?_) (a' := ?_) #[true, false, false, false, false, false, false, false, false, false, false, false, false, false, false, false, false, false, false] rfl rfl (by kernel_rfl) (fun _ _ _ h => h) (Or.inl ⟨by rfl, ?_⟩) ?_ ?_
      rotate_left
      · intro w'
        go_simp
        with_reducible rfl
      rotate_left
      · simp only [Act.put, List.setIfInBounds_toArray, List.set_cons_zero, List.set_cons_succ, i64_w, i32_w]
        rfl
      refine pure_ (i := 1) (N := some 54) (v := ?_) (a' := ?_) #[true, true, false, false, false, false, false, false, false, false, false, false, false, false, false, false, false, false, false] rfl rfl (by kernel_rfl) (fun _ _ _ h => h) (Or.inl ⟨by rfl, ?_⟩) ?_ ?_
      rotate_left
      · intro w'
        go_simp
        with_reducible rfl
      rotate_left
      · simp only [Act.put, List.setIfInBounds_toArray, List.set_cons_zero, List.set_cons_succ, i64_w, i32_w]
        rfl
      refine pure_ (i := 3) (N := some 56) (v := ?_) (a' := ?_) #[true, true, false, true, false, false, false, false, false, false, false, false, false, false, false, false, false, false, false] rfl rfl (by kernel_rfl) (fun _ _ _ h => h) (Or.inl ⟨by rfl, ?_⟩) ?_ ?_
      rotate_left
      · intro w'
        go_simp
        with_reducible rfl
      rotate_left
      · simp only [Act.put, List.setIfInBounds_toArray, List.set_cons_zero, List.set_cons_succ, i64_w, i32_w]
        rfl
      refine pure_ (i := 5) (N := some 58) (v := ?_) (a' := ?_) #[true, true, false, true, false, true, false, false, false, false, false, false, false, false, false, false, false, false, false] rfl rfl (by kernel_rfl) (fun _ _ _ h => h) (Or.inl ⟨by rfl, ?_⟩) ?_ ?_
      rotate_left
      · intro w'
        go_simp
        with_reducible rfl
      rotate_left
      · simp only [Act.put, List.setIfInBounds_toArray, List.set_cons_zero, List.set_cons_succ, i64_w, i32_w]
        rfl
      refine take_ (i := 4) (N := some 57) (v := ?_) (a' := ?_) #[true, true, false, true, true, true, false, false, false, false, false, false, false, false, false, false, false, false, false] rfl rfl (by kernel_rfl) (fun _ _ _ h => h) (Or.inl ⟨by rfl, ?_⟩) hHeld ?_ ?_
      rotate_left
      · rintro w' s0
        have hcv := Kd.C_string Tryd.underlying27 Tryd.underlying5 Tryd.underlying9 s0.1 (P := Tryd.prog) (c := c4)
        go_simp
        with_reducible rfl
      rotate_left
      · simp only [Act.put, List.setIfInBounds_toArray, List.set_cons_zero, List.set_cons_succ, i64_w, i32_w]
        rfl
      refine take_ (i := 6) (N := some 59) (v := ?_) (a' := ?_) #[true, true, false, true, true, true, true, false, false, false, false, false, false, false, false, false, false, false, false] rfl rfl (by kernel_rfl) (fun _ _ _ h => h) (Or.inl ⟨by rfl, ?_⟩) hHeld ?_ ?_
      rotate_left
      · rintro w' s0
        have hcv := Kd.C_string Tryd.underlying27 Tryd.underlying5 Tryd.underlying9 s0.2 (P := Tryd.prog) (c := c5)
        go_simp
        with_reducible rfl
      rotate_left
      · simp only [Act.put, List.setIfInBounds_toArray, List.set_cons_zero, List.set_cons_succ, i64_w, i32_w]
        rfl
      refine pure_ (i := 7) (N := some 60) (v := ?_) (a' := ?_) #[true, true, false, true, true, true, true, true, false, false, false, false, false, false, false, false, false, false, false] rfl rfl (by kernel_rfl) (fun _ _ _ h => h) (Or.inl ⟨by rfl, ?_⟩) ?_ ?_
      rotate_left
      · intro w'
        go_simp
        with_reducible rfl
      rotate_left
      · simp only [Act.put, List.setIfInBounds_toArray, List.set_cons_zero, List.set_cons_succ, i64_w, i32_w]
        rfl
      refine one_ (i := 2) (N := some 55) #[true, true, true, true, true, true, true, true, false, false, false, false, false, false, false, false, false, false, false] rfl rfl (by kernel_rfl) (by decide) (fun K hK => ?_)
      refine goes_ Tryd.func23 (by kernel_rfl) rfl #[.slice A n c, .slice B m d] (by rfl) rfl rfl (by (try simp only [List.map_toArray, List.map_cons, List.map_nil]); first | rfl | (go_simp; done)) ?_
      refine (T.out.sab wd HD.out.2.2).mono ?_
      rintro e w8 ⟨rfl, hb⟩
      refine ⟨_, rfl, ?_⟩
      have H8 := Aside0.mk (And.intro (Kd.C_below HD.out.1 hb) (And.intro (Kd.C_below HD.out.2.1 hb) (below_step HD.out.2.2 hb)))
      clear hb
      refine hK.out _ _ (⟨H8.out.1, H8.out.2.1⟩) (fun hHeld => ?_)
      clear hK K
      refine norm_ (a' := ?_) ?_ ?_
      rotate_left
      · show Act.put _ (some 55) _ = _
        simp only [Act.put, List.setIfInBounds_toArray, List.set_cons_zero, List.set_cons_succ, i64_w, i32_w]
        rfl
      have heq := Aside0.mk (T.out.eq rfl rfl)
      refine pure_ (i := 8) (N := some 61) (v := ?_) (a' := ?_) #[true, true, true, true, true, true, true, true, true, false, false, false, false, false, false, false, false, false, false] rfl rfl (by kernel_rfl) (fun _ _ _ h => h) (Or.inl ⟨by rfl, ?_⟩) ?_ ?_
      rotate_left
      · intro w'
        go_simp
        with_reducible rfl
      rotate_left
      · simp only [Act.put, List.setIfInBounds_toArray, List.set_cons_zero, List.set_cons_succ, i64_w, i32_w]
        rfl
      rw [← heq.out, show (r == r) = true from beq_self_eq_true r]
      clear heq
      refine pure_ (i := 9) (N := some 62) (v := ?_) (a' := ?_) #[true, true, true, true, true, true, true, true, true, true, false, false, false, false, false, false, false, false, false] rfl rfl (by kernel_rfl) (fun _ _ _ h => h) (Or.inl ⟨by rfl, ?_⟩) ?_ ?_
      rotate_left
      · intro w'
        go_simp
        with_reducible rfl
      rotate_left
      · simp only [Act.put, List.setIfInBounds_toArray, List.set_cons_zero, List.set_cons_succ, i64_w, i32_w]
        rfl
      refine pure_ (i := 10) (N := some 63) (v := ?_) (a' := ?_) #[true, true, true, true, true, true, true, true, true, true, true, false, false, false, false, false, false, false, false] rfl rfl (by kernel_rfl) (fun _ _ _ h => h) (Or.inl ⟨by rfl, ?_⟩) ?_ ?_
      rotate_left
      · intro w'
        go_simp
        with_reducible rfl
      rotate_left
      · simp only [Act.put, List.setIfInBounds_toArray, List.set_cons_zero, List.set_cons_succ, i64_w, i32_w]
        rfl
      refine pure_ (i := 11) (N := some 64) (v := ?_) (a' := ?_) #[true, true, true, true, true, true, true, true, true, true, true, true, false, false, false, false, false, false, false] rfl rfl (by kernel_rfl) (fun _ _ _ h => h) (Or.inl ⟨by rfl, ?_⟩) ?_ ?_
      rotate_left
      · intro w'
        go_simp
        with_reducible rfl
      rotate_left
      · simp only [Act.put, List.setIfInBounds_toArray, List.set_cons_zero, List.set_cons_succ, i64_w, i32_w]
        rfl
      refine pure_ (i := 13) (N := some 66) (v := ?_) (a' := ?_) #[true, true, true, true, true, true, true, true, true, true, true, true, false, true, false, false, false, false, false] rfl rfl (by kernel_rfl) (fun _ _ _ h => h) (Or.inl ⟨by rfl, ?_⟩) ?_ ?_
      rotate_left
      · intro w'
        go_simp
        with_reducible rfl
      rotate_left
      · simp only [Act.put, List.setIfInBounds_toArray, List.set_cons_zero, List.set_cons_succ, i64_w, i32_w]
        rfl
      refine pure_ (i := 14) (N := some 67) (v := ?_) (a' := ?_) #[true, true, true, true, true, true, true, true, true, true, true, true, false, true, true, false, false, false, false] rfl rfl (by kernel_rfl) (fun _ _ _ h => h) (Or.inl ⟨by rfl, ?_⟩) ?_ ?_
      rotate_left
      · intro w'
        go_simp
        with_reducible rfl
      rotate_left
      · simp only [Act.put, List.setIfInBounds_toArray, List.set_cons_zero, List.set_cons_succ, i64_w, i32_w]
        rfl
      refine one_ (i := 12) (N := some 65) #[true, true, true, true, true, true, true, true, true, true, true, true, true, true, true, false, false, false, false] rfl rfl (by kernel_rfl) (by decide) (fun K hK => ?_)
      refine goes_ Tryd.func23 (by kernel_rfl) rfl #[.slice A n c, .slice B m d] (by rfl) rfl rfl (by (try simp only [List.map_toArray, List.map_cons, List.map_nil]); first | rfl | (go_simp; done)) ?_
      refine (T.out.sab w8 H8.out.2.2).mono ?_
      rintro e w9 ⟨rfl, hb⟩
      refine ⟨_, rfl, ?_⟩
      have H9 := Aside0.mk (And.intro (Kd.C_below H8.out.1 hb) (And.intro (Kd.C_below H8.out.2.1 hb) (below_step H8.out.2.2 hb)))
      clear hb
      refine hK.out _ _ (⟨H9.out.1, H9.out.2.1⟩) (fun hHeld => ?_)
      clear hK K
      refine norm_ (a' := ?_) ?_ ?_
      rotate_left
      · show Act.put _ (some 65) _ = _
        simp only [Act.put, List.setIfInBounds_toArray, List.set_cons_zero, List.set_cons_succ, i64_w, i32_w]
        rfl
      refine one_ (i := 15) (N := some 68) #[true, true, true, true, true, true, true, true, true, true, true, true, true, true, true, true, false, false, false] rfl rfl (by kernel_rfl) (by decide) (fun K hK => ?_)
      refine goes_ Tryd.func23 (by kernel_rfl) rfl #[.slice B m d, .slice A n c] (by rfl) rfl rfl (by (try simp only [List.map_toArray, List.map_cons, List.map_nil]); first | rfl | (go_simp; done)) ?_
      refine (T.out.sba w9 H9.out.2.2).mono ?_
      rintro e w10 ⟨rfl, hb⟩
      refine ⟨_, rfl, ?_⟩
      have H10 := Aside0.mk (And.intro (Kd.C_below H9.out.1 hb) (And.intro (Kd.C_below H9.out.2.1 hb) (below_step H9.out.2.2 hb)))
      clear hb
      refine hK.out _ _ (⟨H10.out.1, H10.out.2.1⟩) (fun hHeld => ?_)
      clear hK K
      refine norm_ (a' := ?_) ?_ ?_
      rotate_left
      · show Act.put _ (some 68) _ = _
        simp only [Act.put, List.setIfInBounds_toArray, List.set_cons_zero, List.set_cons_succ, i64_w, i32_w]
        rfl
      refine pure_ (i := 16) (N := some 69) (v := ?_) (a' := ?_) #[true, true, true, true, true, true, true, true, true, true, true, true, true, true, true, true, true, false, false] rfl rfl (by kernel_rfl) (fun _ _ _ h => h) (Or.inl ⟨by rfl, ?_⟩) ?_ ?_
      rotate_left
      · intro w'
        go_simp
        with_reducible rfl
      rotate_left
      · simp only [Act.put, List.setIfInBounds_toArray, List.set_cons_zero, List.set_cons_succ, i64_w, i32_w]
        rfl
      refine pure_ (i := 17) (N := some 70) (v := ?_) (a' := ?_) #[true, true, true, true, true, true, true, true, true, true, true, true, true, true, true, true, true, true, false] rfl rfl (by kernel_rfl) (fun _ _ _ h => h) (Or.inl ⟨by rfl, ?_⟩) ?_ ?_
      rotate_left
      · intro w'
        go_simp
        with_reducible rfl
      rotate_left
      · simp only [Act.put, List.setIfInBounds_toArray, List.set_cons_zero, List.set_cons_succ, i64_w, i32_w]
        rfl
      refine pure_ (i := 18) (N := some 6) (v := ?_) (a' := ?_) #[true, true, true, true, true, true, true, true, true, true, true, true, true, true, true, true, true, true, true] rfl rfl (by kernel_rfl) (fun _ _ _ h => h) (Or.inl ⟨by rfl, ?_⟩) ?_ ?_
      rotate_left
      · intro w'
        go_simp
        with_reducible rfl
      rotate_left
      · simp only [Act.put, List.setIfInBounds_toArray, List.set_cons_zero, List.set_cons_succ, i64_w, i32_w]
        rfl
      refine done_ (by kernel_rfl) ?_
      go_wp2
      go_ret
      exact ⟨rfl, H10.out.2.2⟩
  · have hpq2 : (p = false) ∨ (p = true ∧ q = false) := by
      cases p
      · exact .inl rfl
      · cases q
        · exact .inr ⟨rfl, rfl⟩
        · exact absurd ⟨rfl, rfl⟩ hpq
    obtain ⟨n, hn⟩ : ∃ n, n = a.length := ⟨_, rfl⟩
    obtain ⟨m, hm⟩ : ∃ n, n = b.length := ⟨_, rfl⟩
    rw [← hn, ← hm] at HF ⊢
    clear hpq hp hq hr hc hl hy hr2 hc2 hl2 hy2 hn hm
    rcases hpq2 with rfl | ⟨rfl, rfl⟩
    all_goals
      go_enter Tryd.func6, Tryd.ntmps6
      go_wp2_with (first
        | (go_at_call 13; go_loud (refine (awake_calls w).mono ?_; rintro e w1 ⟨rfl, hb⟩; have H1 := Aside0.mk hb; clear hb))
        | (go_at_call 14; (with_reducible refine (HF.out.1 w1 H1.out).mono ?_); rintro e w2 ⟨rfl, hb⟩; have H2 := Aside0.mk (below_step H1.out hb); clear hb)
        | (go_at_call 14; (with_reducible refine (HF.out.2 w2 H2.out).mono ?_); rintro e w3 ⟨rfl, hb⟩; have H3 := Aside0.mk (below_step H2.out hb); clear hb))
      go_ret
      exact ⟨rfl, H3.out⟩
end
end Go.Proofs.YtgjdcdhfijkoiaaDoor.Str
end
