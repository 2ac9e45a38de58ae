/- FilesChecks walked. -/
import Derived.Test.YtgjdcdhfijkoiaaDoorFiF
import Derived.Test.YtgjdcdhfijkoiaaDoorFiE
section
namespace Go.Proofs.YtgjdcdhfijkoiaaDoor.Str
open Go.RowKit Go.Proofs.YtgjdcdhfijkoiaaDoorW.PrintWords Go.Proofs.YtgjdcdhfijkoiaaDoorW.PrintLast Go.Proofs.YtgjdcdhfijkoiaaDoorW.PrintMore Go.Proofs.YtgjdcdhfijkoiaaDoor.Mem Go.Proofs.YtgjdcdhfijkoiaaDoor.PCod Go.Proofs.YtgjdcdhfijkoiaaDoor.Cod Go.Proofs.YtgjdcdhfijkoiaaDoor.Conv
set_option linter.unusedVariables false
set_option linter.unusedSimpArgs false
theorem putM_len {l : List FS} (h : checkM l = 0) : (putM l).length ≤ 100000000 := by
  have h1 := putI_len (l := l) (fun f hf => pathsGo_ok l none [] (check_0 h).1 f hf) l.length (Nat.le_refl _)
  rw [putI_all, List.take_length] at h1
  have h2 := (check_0 h).2.2.1
  have h3 := (check_0 h).2.2.2
  omega
/-- The files, as the calls hand them on. -/
structure Ck (w : World) (A : Option Addr) (n c : Nat) (l : List FS) (ck : Int) (xs : List Int) : Prop where
  fo : ∀ W, Below w.heap.size w W → Calls Tryd.prog 15 #[.slice A n c] W fun e w' => ∃ v, e = .returned v ∧ Kd.R k80 80 w' W.heap.size (fun _ => True) v (l.map toF) ∧ Below W.heap.size W w'
  put : ∀ W, Below w.heap.size w W → Calls Tryd.prog 16 #[.slice A n c] W fun e w' => ∃ v, e = .returned (.tuple #[v, .int .i64 ck]) ∧ Kd.R (Kd.int .u8) 5 w' W.heap.size (fun _ => True) v xs ∧ Below W.heap.size W w'
  rput : ∀ W B d, Kd.C k80 W B n (l.map toF) → n ≤ d → Calls Tryd.prog 17 #[.slice B n d] W fun e w' => e = .returned (.tuple #[.string (S xs), .int .i64 ck]) ∧ Below W.heap.size W w'
  chk : ∀ W, Below w.heap.size w W → Calls Tryd.prog 20 #[.slice A n c] W fun e w' => e = .returned (.int .i64 ck) ∧ Below W.heap.size W w'
  rchk : ∀ W B d, Kd.C k80 W B n (l.map toF) → n ≤ d → Calls Tryd.prog 21 #[.slice B n d] W fun e w' => e = .returned (.int .i64 ck) ∧ Below W.heap.size W w'
  get : ck = 0 → ∀ W B d, Kd.C (Kd.int .u8) W B xs.length xs → xs.length ≤ d → Calls Tryd.prog 22 #[.slice B xs.length d] W fun e w' => ∃ v, e = .returned (.tuple #[v, .int .i64 0]) ∧ Kd.R k50 50 w' W.heap.size (fun _ => True) v l ∧ Below W.heap.size W w'
  same : ∀ W B d, Below w.heap.size w W → Kd.C k50 W B n l → n ≤ d → Calls Tryd.prog 23 #[.slice B n d, .slice A n c] W fun e w' => e = .returned (.bool true) ∧ Below W.heap.size W w'
section
variable {w : World} {A : Option Addr} {c : Nat} {l : List FS}
theorem ck_of (hr : Kd.C k50 w A l.length l) (hc : l.length ≤ c) (hl : l.length ≤ 100000) (hy : ∀ f ∈ l, Byt f.f1) : Ck w A l.length c l (checkM l) (if checkM l = 0 then putM l else []) := by
  have hm : (l.map toF).length = l.length := List.length_map _
  refine ⟨fun W hb => filesOf_calls (Kd.C_below hr hb) hc hl, fun W hb => put_calls (Kd.C_below hr hb) hl hy, fun W B d hC hd => ?_, fun W hb => check_calls (Kd.C_below hr hb) hl, fun W B d hC hd => ?_, fun h0 W B d hC hd => ?_, fun W B d hb hC hd => ?_⟩
  · have h := rput_calls (c := d) (m := l.map toF) (by rw [hm]; exact hC) (by rw [hm]; exact hd) (by rw [hm]; exact hl)
    rw [ofFs hy, hm] at h
    have e : (if checkM l = 0 then S (putM l) else ⟨#[]⟩) = S (if checkM l = 0 then putM l else []) := by split <;> rfl
    rw [e] at h
    exact h
  · have h := rcheck_calls (c := d) (m := l.map toF) (by rw [hm]; exact hC) (by rw [hm]; exact hd) (by rw [hm]; exact hl)
    rw [ofFs hy, hm] at h
    exact h
  · rw [if_pos h0] at hC hd ⊢
    have h := get_calls hC hd (by have := putM_len h0; omega) (putM_byt h0 hy)
    rw [get_put h0 hy] at h
    exact h
  · have h := same_calls hC hd (Kd.C_below hr hb) hc (by omega)
    rw [sameM_refl] at h
    exact h.mono (fun _ _ h => ⟨h.1, h.2.below⟩)
set_option maxRecDepth 100000 in
set_option maxHeartbeats 8000000 in
theorem checks_law (hr : Kd.C k50 w A l.length l) (hc : l.length ≤ c) (hl : l.length ≤ 9223372036854775807) (hy : ∀ f ∈ l, Byt f.f1) (p : ByteArray) :
    Calls Tryd.prog 3 #[.slice A l.length c, .string p] w fun e w' => e = .returned (.bool true) ∧ Below w.heap.size w w' := by
  obtain ⟨q, hq1, hq2⟩ := few_go l hl l.length 0 0 (by omega)
  have HF : Aside0 (∀ W, Below w.heap.size w W → Calls Tryd.prog 14 #[.slice A l.length c] W fun e w' => e = .returned (.bool q) ∧ Below W.heap.size W w') := ⟨fun W hb => (baileelaw11_few.calls (l.length + 1) A c l q W (Kd.C_below hr hb) hc hq1).mono (fun _ _ h => ⟨h.1, h.2.below⟩)⟩
  have HK : Aside0 (q = true → Ck w A l.length c l (checkM l) (if checkM l = 0 then putM l else [])) := ⟨fun h => ck_of hr hc (by have := hq2 h; omega) hy⟩
  obtain ⟨n, hn⟩ : ∃ n, n = l.length := ⟨_, rfl⟩
  obtain ⟨ck, hck⟩ : ∃ ck, ck = checkM l := ⟨_, rfl⟩
  obtain ⟨xs, hxs⟩ : ∃ xs, xs = (if checkM l = 0 then putM l else []) := ⟨_, rfl⟩
  obtain ⟨xn, hxn⟩ : ∃ k, k = xs.length := ⟨_, rfl⟩
  rw [← hxs, ← hck, ← hn] at HK
  rw [← hn] at HF ⊢
  have HN := Aside0.mk (And.intro hn hxn)
  have hcase : q = false ∨ (q = true ∧ 400 < p.size) ∨ (q = true ∧ p.size ≤ 400 ∧ (ck != 0) = true) ∨ (q = true ∧ p.size ≤ 400 ∧ ck = 0) := by
    cases q
    · exact .inl rfl
    · by_cases h : 400 < p.size
      · exact .inr (.inl ⟨rfl, h⟩)
      · by_cases h2 : ck = 0
        · exact .inr (.inr (.inr ⟨rfl, by omega, h2⟩))
        · exact .inr (.inr (.inl ⟨rfl, by omega, bne_iff_ne.2 h2⟩))
  clear hr hc hl hy hq1 hq2 hn hck hxs hxn
  rcases hcase with rfl | ⟨rfl, hp⟩ | ⟨rfl, hp, h5⟩ | ⟨rfl, hp, rfl⟩
  · clear HK
    go_enter Tryd.func3, Tryd.ntmps3
    go_wp2_with (first
      | (go_at_call 13; go_loud (refine (awake_calls w).mono ?_; rintro e w1 ⟨rfl, hb1⟩; have H1 := Aside0.mk hb1; clear hb1))
      | (go_at_call 14; go_loud (refine (HF.out w1 H1.out).mono ?_; rintro e w2 ⟨rfl, hb⟩; have H2 := Aside0.mk (below_step H1.out hb); clear hb)))
    go_ret
    exact ⟨rfl, H2.out⟩
  · have d1 : decide ((p.size : Int) > 400) = true := decide_eq_true (by omega)
    clear HK hp
    go_enter Tryd.func3, Tryd.ntmps3
    go_wp2_with (first
      | (go_at_call 13; go_loud (refine (awake_calls w).mono ?_; rintro e w1 ⟨rfl, hb1⟩; have H1 := Aside0.mk hb1; clear hb1))
      | (go_at_call 14; go_loud (refine (HF.out w1 H1.out).mono ?_; rintro e w2 ⟨rfl, hb⟩; have H2 := Aside0.mk (below_step H1.out hb); clear hb)))
    go_ret
    exact ⟨rfl, H2.out⟩
  case' inr.inr.inl => have hcc : (ck != ck) = false := bne_self_eq_false ck
  all_goals
    have T := Aside0.mk (HK.out rfl)
    have d1 : decide ((p.size : Int) > 400) = false := decide_eq_false (by omega)
    obtain ⟨m, hm⟩ : ∃ m, m = l.map toF := ⟨_, rfl⟩
    have hml : m.length = n := by rw [hm, List.length_map, HN.out.1]
    have HM := Aside0.mk (And.intro hm hml)
    obtain ⟨pm, hpm⟩ : ∃ pm, pm = pathM p := ⟨_, rfl⟩
    have HP := Aside0.mk hpm
    have hpp : (pm != pm) = false := bne_self_eq_false pm
    clear HK hp hm hml hpm
    go_enter Tryd.func3, Tryd.ntmps3
    go_wp2_with (first
      | (go_at_call 13; go_loud (refine (awake_calls w).mono ?_; rintro e w1 ⟨rfl, hb1⟩; have H1 := Aside0.mk hb1; clear hb1))
      | (go_at_call 14; go_loud (refine (HF.out w1 H1.out).mono ?_; rintro e w2 ⟨rfl, hb⟩; have H2 := Aside0.mk (below_step H1.out hb); clear hb))
      | (go_at_call 15; go_loud (have hx := T.out.fo w2 H2.out; rw [← HM.out.1] at hx; refine hx.mono ?_; clear hx; rintro e w3 ⟨v3, rfl, hv3, hb⟩; obtain ⟨A3, c3, rfl, hc3, hC3⟩ := reads_n n HM.out.2 hv3; have H3 := Aside0.mk (And.intro hC3 (And.intro hc3 (below_step H2.out hb))); clear hb hv3 hc3 hC3))
      | (go_at_call 16; go_loud (refine (T.out.put w3 H3.out.2.2).mono ?_; rintro e w4 ⟨v4, rfl, hv4, hb⟩; obtain ⟨A4, c4, rfl, hc4, hC4⟩ := reads_n xn HN.out.2.symm hv4; have H4 := Aside0.mk (And.intro (Kd.C_below H3.out.1 hb) (And.intro hC4 (And.intro hc4 (below_step H3.out.2.2 hb)))); clear hb hv4 hc4 hC4))
      | (go_at_call 17; go_loud (refine (T.out.rput w4 A3 c3 (by rw [← HM.out.1]; exact H4.out.1) H3.out.2.1).mono ?_; rintro e w5 ⟨rfl, hb⟩; have H5 := Aside0.mk (And.intro (Kd.C_below H4.out.1 hb) (And.intro (Kd.C_below H4.out.2.1 hb) (below_step H4.out.2.2.2 hb))); clear hb))
      | (go_at_call 18; go_loud (have hx := path_calls p w5; rw [← HP.out] at hx; refine hx.mono ?_; clear hx; rintro e w6 ⟨rfl, hb⟩; have H6 := Aside0.mk (And.intro (Kd.C_below H5.out.1 hb) (And.intro (Kd.C_below H5.out.2.1 hb) (below_step H5.out.2.2 hb))); clear hb))
      | (go_at_call 19; go_loud (have hx := rpath_calls p w6; rw [← HP.out] at hx; refine hx.mono ?_; clear hx; rintro e w7 ⟨rfl, hb⟩; have H7 := Aside0.mk (And.intro (Kd.C_below H6.out.1 hb) (And.intro (Kd.C_below H6.out.2.1 hb) (below_step H6.out.2.2 hb))); clear hb))
      | (go_at_call 20; go_loud (refine (T.out.chk w7 H7.out.2.2).mono ?_; rintro e w8 ⟨rfl, hb⟩; have H8 := Aside0.mk (And.intro (Kd.C_below H7.out.1 hb) (And.intro (Kd.C_below H7.out.2.1 hb) (below_step H7.out.2.2 hb))); clear hb))
      | (go_at_call 21; go_loud (refine (T.out.rchk w8 A3 c3 (by rw [← HM.out.1]; exact H8.out.1) H3.out.2.1).mono ?_; rintro e w9 ⟨rfl, hb⟩; have h9 := Kd.C_below H8.out.2.1 hb; have H9 := Aside0.mk (And.intro h9 (below_step H8.out.2.2 hb)); have hcv := conv_row (c := c4) HN.out.2 (by rw [← HN.out.2]; exact h9) (Below.refl _ _); clear hb h9))
      | (go_at_call 22; go_loud (clear hcv; have hx := T.out.get rfl w9 A4 c4 (by rw [← HN.out.2]; exact H9.out.1) (by rw [← HN.out.2]; exact H4.out.2.2.1); rw [← HN.out.2] at hx; refine hx.mono ?_; clear hx; rintro e w10 ⟨v10, rfl, hv10, hb⟩; obtain ⟨A10, c10, rfl, hc10, hC10⟩ := reads_n n HN.out.1.symm hv10; have H10 := Aside0.mk (And.intro hC10 (And.intro hc10 (below_step H9.out.2 hb))); clear hb hv10 hc10 hC10))
      | (go_at_call 23; go_loud (refine (T.out.same w10 A10 c10 H10.out.2.2 H10.out.1 H10.out.2.1).mono ?_; rintro e w11 ⟨rfl, hb⟩; have H11 := Aside0.mk (below_step H10.out.2.2 hb); clear hb)))
  all_goals first
    | (go_ret; exact ⟨rfl, H11.out⟩)
    | (go_ret; exact ⟨rfl, H9.out.2⟩)
end
end Go.Proofs.YtgjdcdhfijkoiaaDoor.Str
end
section
namespace Go.Proofs.YtgjdcdhfijkoiaaDoor.Str
open Go.ChangeShapes Go.WideShapes Go.RowKit Go.Proofs.YtgjdcdhfijkoiaaDoorW.PrintWords Go.Proofs.YtgjdcdhfijkoiaaDoor.Mem Go.Proofs.YtgjdcdhfijkoiaaDoor.PCod Go.Proofs.YtgjdcdhfijkoiaaDoor.Cod Go.Proofs.YtgjdcdhfijkoiaaDoor.Open
set_option linter.unusedVariables false
set_option linter.unusedSimpArgs false
section
variable {H : Type} {enc : TypeId × Value → H} {w : World}
set_option maxRecDepth 100000 in
theorem checks_row {u : Value} {d1 : DataW H} {p1 : List MemPlace} {b1 : Nat} (hu : Value.okWide Tryd.prog w .any b1 22 u) (h1 : DataW.Trod enc Tryd.prog w 0 (fun _ => true) true 22 u d1 p1) (s : ByteArray) :
    Calls Tryd.prog 3 #[u, .string s] w fun e w' => e = .returned (.bool true) ∧ Below w.heap.size w w' := by
  obtain ⟨A, c, a, rfl, q1, q2, q3, q4⟩ := open_files hu h1
  exact checks_law q1 q2 q3 q4 s
end
end Go.Proofs.YtgjdcdhfijkoiaaDoor.Str
end
