/- The law CodecReads. -/
import Derived.Test.YtlcanfniphdelaaCodP
import Derived.Test.YtlcanfniphdelaaOpen
namespace Go.Proofs.Ytlcanfniphdelaa.Cod
open Go.RowKit Go.Proofs.YtlcanfniphdelaaW.PrintWords Go.Proofs.YtlcanfniphdelaaW.PrintLast Go.Proofs.YtlcanfniphdelaaW.PrintMore Go.Proofs.Ytlcanfniphdelaa.Mem Go.Proofs.Ytlcanfniphdelaa.PCod Go.Proofs.Ytlcanfniphdelaa.Conv Go.Proofs.Ytlcanfniphdelaa.Open
set_option linter.unusedVariables false
set_option linter.unusedSimpArgs false
section
variable {w : World} {R : RM} {b r xs : List Int}
/-- Where the loop stands: the reader, the model's struct beside it. -/
def RdI (w w2 w3 wr : World) (g : Nat) (R : RM) : Prop := RdAt wr (Span w2 w3) g R ∧ wr.heap[w3.heap.size]? = some (.cells #[.string (S R.b), .int .i64 R.e] 51 (0, 0)) ∧ Below w.heap.size w wr
theorem rd_keep {w w2 w3 wr w5 : World} {g : Nat} {R : RM} {o : Obj} (h : RdI w w2 w3 wr g R) (hg : g < w3.heap.size) (hk : Kept (wr.alloc o) w5 (fun k => k = g)) :
    w5.heap[w3.heap.size]? = some (.cells #[.string (S R.b), .int .i64 R.e] 51 (0, 0)) ∧ w5.cell? ⟨w3.heap.size, 0, none⟩ = some (.string (S R.b)) ∧ w5.cell? ⟨w3.heap.size, 1, none⟩ = some (.int .i64 R.e) := by
  have k := blk_kept (blk_alloc h.2.1 o) hk (fun e => by have e' : w3.heap.size = g := e; omega)
  exact ⟨k, (blk_cell k 0).trans rfl, (blk_cell k 1).trans rfl⟩
theorem rd_keep2 {w3 w5 w6 : World} {R : RM} (h : w5.heap[w3.heap.size]? = some (.cells #[.string (S R.b), .int .i64 R.e] 51 (0, 0))) (hb : Below w5.heap.size w5 w6) :
    w6.heap[w3.heap.size]? = some (.cells #[.string (S R.b), .int .i64 R.e] 51 (0, 0)) ∧ w6.cell? ⟨w3.heap.size, 0, none⟩ = some (.string (S R.b)) ∧ w6.cell? ⟨w3.heap.size, 1, none⟩ = some (.int .i64 R.e) ∧ w6.frozen? ⟨w3.heap.size, 0, none⟩ = false ∧ w6.frozen? ⟨w3.heap.size, 1, none⟩ = false ∧ w3.heap.size < w6.heap.size := by
  have k := (hb.block _ (blk_lt h)).trans h
  exact ⟨k, (blk_cell k 0).trans rfl, (blk_cell k 1).trans rfl, blk_frozen k 0, blk_frozen k 1, blk_lt k⟩
theorem wpName {P : Program} {ops : Array Oper} {Q : Exit → Act → World → Prop} {rest : List Oper} {a : Act} {w : World} (h : ∀ W, W = w → wpList P ops Q rest a W) : wpList P ops Q rest a w := h w rfl
theorem gate_store {P : Program} {ops : Array Oper} {Q : Exit → Act → World → Prop} {rest : List Oper} {o : Oper} {a : Act} {w : World} {ty : TypeId} {x y : Operand} (hs : o.op = .store ty x y) (h : wpList P ops Q (o :: rest) a w) : wpList P ops Q (o :: rest) a w := h
theorem id_len (R : RM) : R.id.2.length = 32 := by
  show (idOf (R.fixed 32).2).length = 32
  unfold idOf
  rcases fixed_len R 32 with h | h
  · have h' : (R.fixed 32).2 = [] := h
    rw [if_pos h']; simp
  · have h' : (R.fixed 32).2.length = 32 := h
    rw [if_neg (fun e => by rw [e] at h'; cases h')]
    exact h'
theorem id_arr {ids : List Int} {arr : Array Value} (h : ids.length = 32) (ha : arr = (nums .u8 ids).toArray) : (Try.prog.info? 61).map (·.size) = some arr.size ∧ zidL.toArray.size = arr.size ∧ arr.all (·.oneCell') = true := by
  have hs : arr.size = 32 := by rw [ha]; simp [nums, h]
  refine ⟨by rw [hs]; kernel_rfl, by rw [hs]; rfl, ?_⟩
  rw [ha, Array.all_eq_true_iff_forall_mem]
  intro v hv
  simp only [List.mem_toArray, nums, List.mem_map] at hv
  obtain ⟨x, _, rfl⟩ := hv
  rfl
theorem ids_1 (w6 : World) : ((w6.alloc (.cells #[.string ByteArray.empty, .int .i64 0] 51)).alloc (.cells zidL.toArray 61)).heap[w6.heap.size]? = some (.cells #[.string ByteArray.empty, .int .i64 0] 51 (0, 0)) := blk_alloc (blk_new w6 _) _
theorem ids_2 (w6 : World) (cs : Array Value) : (((w6.alloc (.cells #[.string ByteArray.empty, .int .i64 0] 51)).alloc (.cells zidL.toArray 61)).setRow w6.heap.size cs).heap[w6.heap.size + 1]? = some (.cells zidL.toArray 61 (0, 0)) := by
  rw [setRow_other _ _ _ _ (by omega)]
  have := blk_new (w6.alloc (.cells #[.string ByteArray.empty, .int .i64 0] 51)) (.cells zidL.toArray 61)
  simpa using this
theorem ids_3 {w6 W7 : World} {cs arr : Array Value} (h : W7 = ((((w6.alloc (.cells #[.string ByteArray.empty, .int .i64 0] 51)).alloc (.cells zidL.toArray 61)).setRow w6.heap.size cs).setRow (w6.heap.size + 1) arr)) :
    W7.heap[w6.heap.size]? = some (.cells cs 51 (0, 0)) ∧ W7.heap[w6.heap.size + 1]? = some (.cells arr 61 (0, 0)) ∧ Below w6.heap.size w6 W7 := by
  rw [h]
  refine ⟨?_, setRow_heap _ _ _ _ _ _ (ids_2 w6 cs), below_setRow (below_setRow (below_alloc (below_alloc (Below.refl _ _) _) _) (Nat.le_refl _) _) (by omega) _⟩
  rw [setRow_other _ _ _ _ (by omega)]
  exact setRow_heap _ _ _ _ _ _ (ids_1 w6)
theorem conv_far {w5 w6 : World} {base g7 n c : Nat} {A : Option Addr} {ok : Nat → Prop} {xs : List Int} (h : Kd.R (Kd.int .u8) 5 w5 base ok (.slice A n c) xs) (hb : Below w5.heap.size w5 w6) (hg : g7 < base) (u v : Value) (o : Obj) :
    (convert 27 9 (.slice A n c)).run Try.prog (((w6.setCell ⟨g7, 0, none⟩ u).setCell ⟨g7, 1, none⟩ v).alloc o) = .ok (.string (S xs)) (((w6.setCell ⟨g7, 0, none⟩ u).setCell ⟨g7, 1, none⟩ v).alloc o) := by
  have h6 := Kd.R_below h hb
  have hk := ((Kept.refl w6 (fun k => k = g7)).setCell (p := ⟨g7, 0, none⟩) (.inl rfl) u).setCell (p := ⟨g7, 1, none⟩) (.inl rfl) v
  have h7 := Kd.R_kept (Kd.R_bound h6) hk (fun k hk h => by have h2 : k = g7 := h; have := hk.2.1; omega)
  have h8 := Kd.R_reads' h7
  exact conv_row h8.1 h8.2.2 (below_alloc (Below.refl _ _) o)
theorem rd_keep3 {w w2 w3 wr w5 : World} {g : Nat} {R : RM} {kd nn : Int} (h : RdI w w2 w3 wr g R) (hg : g < w3.heap.size) (hk : Kept (wr.alloc (.cells #[.int .i64 kd, .int .i64 nn] 53)) w5 (fun k => k = g)) :
    w5.cell? ⟨wr.heap.size, 1, none⟩ = some (.int .i64 nn) := by
  have hlt := blk_lt h.2.1
  exact (blk_cell (blk_kept (blk_new wr _) hk (fun e => by have e' : wr.heap.size = g := e; omega)) 1).trans rfl
theorem rd_end0 {w w1 w3 w6 : World} {g : Nat} {R R1 : RM} (h1 : RdAt w6 (Span w1 w3) g R1) (hb : Below w.heap.size w w6) (k : w6.heap[w3.heap.size]? = some (.cells #[.string (S R.b), .int .i64 R.e] 51 (0, 0))) (hw : w.heap.size ≤ w3.heap.size) :
    RdI w w1 w3 ((w6.setCell ⟨w3.heap.size, 0, none⟩ (.string (S R1.b))).setCell ⟨w3.heap.size, 1, none⟩ (.int .i64 R1.e)) g R1 := by
  have hk := ((Kept.refl w6 (fun k => k = w3.heap.size)).setCell (p := ⟨w3.heap.size, 0, none⟩) (.inl rfl) (.string (S R1.b))).setCell (p := ⟨w3.heap.size, 1, none⟩) (.inl rfl) (.int .i64 R1.e)
  refine ⟨h1.kept hk (fun k hk h => by have h2 : k = w3.heap.size := h; have := hk.2; omega), ?_, below_set (below_set hb hw) hw⟩
  exact blk_set (blk_set k 0 (.string (S R1.b))) 1 (.int .i64 R1.e)
theorem rd_end {w w1 w3 w6 : World} {g : Nat} {R R1 : RM} (h1 : RdAt w6 (Span w1 w3) g R1) (hb : Below w.heap.size w w6) (k : w6.heap[w3.heap.size]? = some (.cells #[.string (S R.b), .int .i64 R.e] 51 (0, 0))) (hw : w.heap.size ≤ w3.heap.size) (o : Obj) :
    RdI w w1 w3 (((w6.setCell ⟨w3.heap.size, 0, none⟩ (.string (S R1.b))).setCell ⟨w3.heap.size, 1, none⟩ (.int .i64 R1.e)).alloc o) g R1 := by
  have hk := ((Kept.refl w6 (fun k => k = w3.heap.size)).setCell (p := ⟨w3.heap.size, 0, none⟩) (.inl rfl) (.string (S R1.b))).setCell (p := ⟨w3.heap.size, 1, none⟩) (.inl rfl) (.int .i64 R1.e)
  refine ⟨(h1.kept hk (fun k hk h => by have h2 : k = w3.heap.size := h; have := hk.2; omega)).below (below_alloc (Below.refl _ _) _), blk_alloc ?_ o, below_alloc (below_set (below_set hb hw) hw) _⟩
  exact blk_set (blk_set k 0 (.string (S R1.b))) 1 (.int .i64 R1.e)
theorem nameW {P : Program} {c : Code} {Q : Exit → Act → World → Prop} {a : Act} {w : World} (h : ∀ W, W = w → Code.wp P c Q a W) : Code.wp P c Q a w := h w rfl
set_option maxHeartbeats 4000000 in
set_option maxRecDepth 100000 in
theorem reads_law (A : Option Addr) (n c : Nat) (hn : n = xs.length) (hr : Kd.C (Kd.int .u8) w A xs.length xs) (hc : n ≤ c) (hl : n < 140737488355328) (hy : Byt xs)
    (B : Option Addr) (m d : Nat) (l : List (Int × Int)) (hm : m = l.length) (hp : PairsAt w B l) (hb : ∀ q ∈ l, I64 q.1 ∧ I64 q.2) :
    Calls Try.prog 7 #[.slice A n c, .slice B m d] w fun e w' => e = .returned (.bool true) ∧ Below w.heap.size w w' := by
  by_cases h600 : n > 600
  · have d1 : decide (600 < (n : Int)) = true := decide_eq_true (by omega)
    clear hr hc hl hy hn hp hb hm
    go_enter Try.func7, Try.ntmps7
    go_wp2_with (go_at_call 9; go_loud (refine awake_calls.mono ?_; rintro e w1 ⟨rfl, hb1⟩; have HB1 := Aside0.mk hb1; clear hb1))
    go_ret
    exact ⟨rfl, HB1.out⟩
  · have d1 : decide (600 < (n : Int)) = false := decide_eq_false (by omega)
    have hmm : m ≤ 9223372036854775807 := by rw [hm]; exact hp.1
    have HX := Aside0.mk (And.intro hr (And.intro hc (And.intro hl (And.intro hy hn))))
    have HP := Aside0.mk (And.intro hm (And.intro hp hb))
    clear hr hc hl hy hn hp hb hm h600
    go_enter Try.func7, Try.ntmps7
    go_wp2_with (first
      | (go_at_call 9; go_loud (refine awake_calls.mono ?_; rintro e w1 ⟨rfl, hb1⟩; have H1 := Aside0.mk hb1; clear hb1))
      | (go_at_call 18; go_loud (obtain ⟨hr, hc, hl, hy, hn⟩ := HX.out; rw [hn] at hc hl; have hx := newReader_calls A c (Kd.C_below hr H1.out) hc hl hy; rw [← hn] at hx; refine hx.mono ?_; clear hx; rintro e w3 ⟨g, rfl, hd3, hb3⟩; have hcv := conv_row (c := c) hn hr (below_step H1.out hb3); have H3 := Aside0.mk (And.intro hd3 hb3); clear hd3 hb3 hr hc hl hy hn)))
    have HI0 : Aside0 (RdI w w1 w3 (w3.alloc (.cells #[.string (S xs), .int .i64 0] 51)) g ⟨xs, 0⟩) := ⟨H3.out.1.below (below_alloc (Below.refl _ _) _), blk_new w3 _, below_alloc (below_step H1.out H3.out.2) _⟩
    go_loopg [8] m (fun q v8 wr => ∃ (i : Nat) (R : RM), v8 = .int .i64 i ∧ q + i = m ∧ Aside0 (RdI w w1 w3 wr g R))
    case atStart => exact ⟨0, _, rfl, by omega, HI0⟩
    case round =>
      clear HI0
      obtain ⟨i, R, rfl, hq, hI⟩ := hrel
      by_cases hlt : i < m ∧ i < 40
      · obtain ⟨hlt, h40⟩ := hlt
        have d2 : decide ((i : Int) < (m : Int)) = true := decide_eq_true (by omega)
        have d2n : decide (i < m) = true := decide_eq_true (by omega)
        have d3 : decide ((i : Int) < 40) = true := decide_eq_true (by omega)
        have hgr : g < w3.heap.size := by obtain ⟨_, _, h, _⟩ := H3.out.1; exact h.2
        have hil : i < l.length := by have := HP.out.1; omega
        obtain ⟨⟨kd, nn⟩, hkn⟩ : ∃ q, q = l.getD i (0, 0) := ⟨_, rfl⟩
        have hI64 : I64 kd ∧ I64 nn := HP.out.2.2 (kd, nn) (by rw [hkn, List.getD_eq_getElem?_getD, List.getElem?_eq_getElem hil]; exact List.getElem_mem hil)
        obtain ⟨ad, rfl, c0, c1⟩ := (HP.out.2.1.below hI.out.2.2).2 i hil
        rw [← hkn] at c0 c1
        have c0' : wr.cell? (ad.add (i * 2)) = some (.int .i64 kd) := c0
        have c1' : wr.cell? (ad.add (i * 2 + 1)) = some (.int .i64 nn) := c1
        have c1'' : wr.cell? ((ad.add (i * 2)).add 1) = some (.int .i64 nn) := by rw [Go.Deep.add_add]; exact c1'
        have hk0 : -9223372036854775808 ≤ kd := hI64.1.1
        have hk1 : kd ≤ 9223372036854775807 := hI64.1.2
        have hnn0 : -9223372036854775808 ≤ nn := hI64.2.1
        have hnn1 : nn ≤ 9223372036854775807 := hI64.2.2
        have hcc : ∀ W, W = wr → ∀ (j : Nat) (v : Value), [Value.int .i64 kd, Value.int .i64 nn][j]? = some v → W.cell? ((ad.add (i * 2)).add j) = some v := by
          rintro W rfl j v hv
          match j with
          | 0 => simp at hv; subst hv; rw [Go.Deep.add_add]; exact c0'
          | 1 => simp at hv; subst hv; exact c1''
          | j + 2 => simp at hv
        have HCC := Aside0.mk hcc
        have c1c : wr.cell? ⟨(ad.add (i * 2)).block, (ad.add (i * 2)).off + 1, none⟩ = some (.int .i64 nn) := c1''
        clear c0 c1 hI64 hkn hil hcc
        obtain ⟨q5, hq5⟩ : ∃ q5, q5 = Int.tmod kd 5 := ⟨_, rfl⟩
        have hqe : Int.tmod kd 5 = q5 := hq5.symm
        clear hq5
        have hby := hI.out.1.byt
        have HBY := Aside0.mk hby
        clear hby
        have cases5 : q5 = 0 ∨ q5 = 1 ∨ q5 = 2 ∨ q5 = 3 ∨ q5 = 4 ∨ (q5 ≠ 0 ∧ q5 ≠ 1 ∧ q5 ≠ 2 ∧ q5 ≠ 3 ∧ q5 ≠ 4) := by omega
        rcases cases5 with rfl | rfl | rfl | rfl | rfl | h5
        · obtain ⟨R1, hR1⟩ : ∃ R1, R1 = R.uint.1 := ⟨_, rfl⟩
          have dn : (R.uint.2 != R.uint.2) = false := by simp
          have HR1 := Aside0.mk hR1
          clear hR1
          go_upto_region 43 with (first
            | (go_at_call 19; go_loud (have hx := uint_any (w0 := w) (below_alloc hI.out.2.2 (.cells #[.int .i64 kd, .int .i64 nn] 53)) (fun k h => Nat.le_trans (below_size H1.out) h.1) (hI.out.1.below (below_alloc (Below.refl _ _) _)); rw [← HR1.out] at hx; refine hx.mono ?_; clear hx; rintro e w5 ⟨rfl, hd5, hb5, hk5⟩; have k5 := rd_keep hI.out hgr hk5; obtain ⟨k51, c50, c51⟩ := k5; have ca1 := rd_keep3 hI.out hgr hk5; have H5 := Aside0.mk (And.intro hd5 (And.intro hb5 k51)); clear hd5 hb5 hk5 k51))
            | (go_at_call 25; go_loud (have hx := ref_uint (w := w5) HBY.out; rw [← HR1.out] at hx; refine hx.mono ?_; clear hx; rintro e w6 ⟨rfl, hb6⟩; obtain ⟨k6, c60, c61, f60, f61, l6⟩ := rd_keep2 H5.out.2.2 hb6; have H6 := Aside0.mk (And.intro (H5.out.1.below hb6) (And.intro (below_step H5.out.2.1 hb6) k6)); clear hb6 k6)))
          refine nameW (fun W hW => ?_)
          have HS : Aside0 (RdI w w1 w3 W g R1) := ⟨by rw [hW]; exact rd_end H6.out.1 H6.out.2.1 H6.out.2.2 (by have := below_size (below_step H1.out H3.out.2); omega) _⟩
          clear hW H5 H6 dn
          obtain ⟨wd, hwd⟩ : ∃ wd, wd = W.drew := ⟨_, rfl⟩
          have hbd : Below W.heap.size W wd := by rw [hwd]; exact below_drew1 (Below.refl _ _)
          have HD : Aside0 (RdI w w1 w3 wd g R1) := ⟨HS.out.1.below hbd, (hbd.block _ (blk_lt HS.out.2.1)).trans HS.out.2.1, below_step HS.out.2.2 hbd⟩
          have hS : ∀ V : World, V.heap[w3.heap.size]? = some (.cells #[.string (S R1.b), .int .i64 R1.e] 51 (0, 0)) → V.cell? ⟨w3.heap.size, 0, none⟩ = some (.string (S R1.b)) ∧ V.cell? ⟨w3.heap.size, 1, none⟩ = some (.int .i64 R1.e) := fun V k => ⟨(blk_cell k 0).trans rfl, (blk_cell k 1).trans rfl⟩
          have HSS := Aside0.mk hS
          have hq1 : (R1.e != R1.e) = false := by simp
          have hq2 : (R1.end_ != R1.end_) = false := by simp
          clear hbd hS
          refine start_ (n := 12) (S := fun w' => w'.cell? ⟨w3.heap.size, 0, none⟩ = some (.string (S R1.b)) ∧ w'.cell? ⟨w3.heap.size, 1, none⟩ = some (.int .i64 R1.e)) (ds := []) #[false, false, false, false, false, false, false, false, false, false, false, false] (by kernel_rfl) rfl rfl (by rw [← hwd]; exact HSS.out _ HD.out.2.1) (fun hHeld => ?_)
          rw [← hwd] at hHeld ⊢
          clear hwd
          refine pure_ (i := 0) (N := some 132) (v := ?_) (a' := ?_) #[true, false, false, false, false, false, false, false, false, false, false, false] rfl rfl (by kernel_rfl) (fun _ _ _ h => h) (Or.inl ⟨by rfl, ?_⟩) ?_ ?_
          rotate_left
          · intro w'
            go_simp
            with_reducible rfl
          rotate_left
          · simp only [Act.put, List.setIfInBounds_toArray, List.set_cons_zero, List.set_cons_succ, i64_w, i32_w]
            rfl
          refine pure_ (i := 2) (N := some 134) (v := ?_) (a' := ?_) #[true, false, true, false, false, false, false, false, false, false, false, false] rfl rfl (by kernel_rfl) (fun _ _ _ h => h) (Or.inl ⟨by rfl, ?_⟩) ?_ ?_
          rotate_left
          · intro w'
            go_simp
            with_reducible rfl
          rotate_left
          · simp only [Act.put, List.setIfInBounds_toArray, List.set_cons_zero, List.set_cons_succ, i64_w, i32_w]
            rfl
          refine take_ (i := 3) (N := some 135) (v := ?_) (a' := ?_) #[true, false, true, true, false, false, false, false, false, false, false, false] rfl rfl (by kernel_rfl) (fun _ _ _ h => h) (Or.inl ⟨by rfl, ?_⟩) hHeld ?_ ?_
          rotate_left
          · rintro w' ⟨s0, s1⟩
            go_simp
            with_reducible rfl
          rotate_left
          · simp only [Act.put, List.setIfInBounds_toArray, List.set_cons_zero, List.set_cons_succ, i64_w, i32_w]
            rfl
          refine one_ (i := 1) (N := some 133) #[true, true, true, true, false, false, false, false, false, false, false, false] rfl rfl (by kernel_rfl) (by decide) (fun K hK => ?_)
          refine goes_ Try.func24 (by kernel_rfl) rfl #[.pointer (some ⟨g, 0, none⟩)] (by rfl) rfl rfl (by (try simp only [List.map_toArray, List.map_cons, List.map_nil]); first | rfl | (go_simp; done)) ?_
          refine (err_calls HD.out.1).mono ?_
          rintro e w' ⟨rfl, rfl⟩
          refine ⟨_, rfl, ?_⟩
          refine hK.out _ _ (HSS.out _ HD.out.2.1) (fun hHeld => ?_)
          clear hK K
          refine norm_ (a' := ?_) ?_ ?_
          rotate_left
          · show Act.put _ (some 133) _ = _
            simp only [Act.put, List.setIfInBounds_toArray, List.set_cons_zero, List.set_cons_succ, i64_w, i32_w]
            rfl
          refine pure_ (i := 4) (N := some 136) (v := ?_) (a' := ?_) #[true, true, true, true, true, false, false, false, false, false, false, false] rfl rfl (by kernel_rfl) (fun _ _ _ h => h) (Or.inl ⟨by rfl, ?_⟩) ?_ ?_
          rotate_left
          · intro w'
            go_simp
            with_reducible rfl
          rotate_left
          · simp only [Act.put, List.setIfInBounds_toArray, List.set_cons_zero, List.set_cons_succ, i64_w, i32_w]
            rfl
          refine pure_ (i := 5) (N := some 137) (v := ?_) (a' := ?_) #[true, true, true, true, true, true, false, false, false, false, false, false] rfl rfl (by kernel_rfl) (fun _ _ _ h => h) (Or.inl ⟨by rfl, ?_⟩) ?_ ?_
          rotate_left
          · intro w'
            go_simp
            with_reducible rfl
          rotate_left
          · simp only [Act.put, List.setIfInBounds_toArray, List.set_cons_zero, List.set_cons_succ, i64_w, i32_w]
            rfl
          refine pure_ (i := 6) (N := some 138) (v := ?_) (a' := ?_) #[true, true, true, true, true, true, true, false, false, false, false, false] rfl rfl (by kernel_rfl) (fun _ _ _ h => h) (Or.inl ⟨by rfl, ?_⟩) ?_ ?_
          rotate_left
          · intro w'
            go_simp
            with_reducible rfl
          rotate_left
          · simp only [Act.put, List.setIfInBounds_toArray, List.set_cons_zero, List.set_cons_succ, i64_w, i32_w]
            rfl
          refine take_ (i := 8) (N := some 140) (v := ?_) (a' := ?_) #[true, true, true, true, true, true, true, false, true, false, false, false] rfl rfl (by kernel_rfl) (fun _ _ _ h => h) (Or.inl ⟨by rfl, ?_⟩) hHeld ?_ ?_
          rotate_left
          · rintro w' ⟨s0, s1⟩
            go_simp
            with_reducible rfl
          rotate_left
          · simp only [Act.put, List.setIfInBounds_toArray, List.set_cons_zero, List.set_cons_succ, i64_w, i32_w]
            rfl
          refine one_ (i := 7) (N := some 139) #[true, true, true, true, true, true, true, true, true, false, false, false] rfl rfl (by kernel_rfl) (by decide) (fun K hK => ?_)
          refine goes_ Try.func23 (by kernel_rfl) rfl #[.pointer (some ⟨g, 0, none⟩)] (by rfl) rfl rfl (by (try simp only [List.map_toArray, List.map_cons, List.map_nil]); first | rfl | (go_simp; done)) ?_
          refine (end_calls HD.out.1).mono ?_
          rintro e w' ⟨rfl, rfl⟩
          refine ⟨_, rfl, ?_⟩
          refine hK.out _ _ (HSS.out _ HD.out.2.1) (fun hHeld => ?_)
          clear hK K
          refine norm_ (a' := ?_) ?_ ?_
          rotate_left
          · show Act.put _ (some 139) _ = _
            simp only [Act.put, List.setIfInBounds_toArray, List.set_cons_zero, List.set_cons_succ, i64_w, i32_w]
            rfl
          refine one_ (i := 9) (N := some 141) #[true, true, true, true, true, true, true, true, true, true, false, false] rfl rfl (by kernel_rfl) (by decide) (fun K hK => ?_)
          refine goes_ Try.func31 (by kernel_rfl) rfl #[stV R1] (by rfl) rfl rfl (by (try simp only [List.map_toArray, List.map_cons, List.map_nil]); first | rfl | (go_simp; done)) ?_
          refine (ref_end (R := R1)).mono ?_
          rintro e w8 ⟨rfl, hb8⟩
          refine ⟨_, rfl, ?_⟩
          have k8 := (hb8.block _ (blk_lt HD.out.2.1)).trans HD.out.2.1
          refine hK.out _ _ (HSS.out _ k8) (fun hHeld => ?_)
          clear hK K
          refine norm_ (a' := ?_) ?_ ?_
          rotate_left
          · show Act.put _ (some 141) _ = _
            simp only [Act.put, List.setIfInBounds_toArray, List.set_cons_zero, List.set_cons_succ, i64_w, i32_w]
            rfl
          refine pure_ (i := 10) (N := some 142) (v := ?_) (a' := ?_) #[true, true, true, true, true, true, true, true, true, true, true, false] rfl rfl (by kernel_rfl) (fun _ _ _ h => h) (Or.inl ⟨by rfl, ?_⟩) ?_ ?_
          rotate_left
          · intro w'
            go_simp
            with_reducible rfl
          rotate_left
          · simp only [Act.put, List.setIfInBounds_toArray, List.set_cons_zero, List.set_cons_succ, i64_w, i32_w]
            rfl
          refine pure_ (i := 11) (N := some 143) (v := ?_) (a' := ?_) #[true, true, true, true, true, true, true, true, true, true, true, true] rfl rfl (by kernel_rfl) (fun _ _ _ h => h) (Or.inl ⟨by rfl, ?_⟩) ?_ ?_
          rotate_left
          · intro w'
            go_simp
            with_reducible rfl
          rotate_left
          · simp only [Act.put, List.setIfInBounds_toArray, List.set_cons_zero, List.set_cons_succ, i64_w, i32_w]
            rfl
          refine done_ (by kernel_rfl) ?_
          go_wp2
          go_roundg (m - (i + 1))
          case measure => omega
          case rel => exact ⟨i + 1, R1, by go_num, by omega, ⟨HD.out.1.below hb8, k8, below_step HD.out.2.2 hb8⟩⟩
        · obtain ⟨R1, hR1⟩ : ∃ R1, R1 = R.uint.1 := ⟨_, rfl⟩
          have dn : (R.uint.2 != R.uint.2) = false := by simp
          have HR1 := Aside0.mk hR1
          clear hR1
          go_upto_region 43 with (first
            | (go_at_call 19; go_loud (have hx := uint_any (w0 := w) (below_alloc hI.out.2.2 (.cells #[.int .i64 kd, .int .i64 nn] 53)) (fun k h => Nat.le_trans (below_size H1.out) h.1) (hI.out.1.below (below_alloc (Below.refl _ _) _)); rw [← HR1.out] at hx; refine hx.mono ?_; clear hx; rintro e w5 ⟨rfl, hd5, hb5, hk5⟩; have k5 := rd_keep hI.out hgr hk5; obtain ⟨k51, c50, c51⟩ := k5; have ca1 := rd_keep3 hI.out hgr hk5; have H5 := Aside0.mk (And.intro hd5 (And.intro hb5 k51)); clear hd5 hb5 hk5 k51))
            | (go_at_call 25; go_loud (have hx := ref_uint (w := w5) HBY.out; rw [← HR1.out] at hx; refine hx.mono ?_; clear hx; rintro e w6 ⟨rfl, hb6⟩; obtain ⟨k6, c60, c61, f60, f61, l6⟩ := rd_keep2 H5.out.2.2 hb6; have H6 := Aside0.mk (And.intro (H5.out.1.below hb6) (And.intro (below_step H5.out.2.1 hb6) k6)); clear hb6 k6)))
          refine nameW (fun W hW => ?_)
          have HS : Aside0 (RdI w w1 w3 W g R1) := ⟨by rw [hW]; exact rd_end H6.out.1 H6.out.2.1 H6.out.2.2 (by have := below_size (below_step H1.out H3.out.2); omega) _⟩
          clear hW H5 H6 dn
          obtain ⟨wd, hwd⟩ : ∃ wd, wd = W.drew := ⟨_, rfl⟩
          have hbd : Below W.heap.size W wd := by rw [hwd]; exact below_drew1 (Below.refl _ _)
          have HD : Aside0 (RdI w w1 w3 wd g R1) := ⟨HS.out.1.below hbd, (hbd.block _ (blk_lt HS.out.2.1)).trans HS.out.2.1, below_step HS.out.2.2 hbd⟩
          have hS : ∀ V : World, V.heap[w3.heap.size]? = some (.cells #[.string (S R1.b), .int .i64 R1.e] 51 (0, 0)) → V.cell? ⟨w3.heap.size, 0, none⟩ = some (.string (S R1.b)) ∧ V.cell? ⟨w3.heap.size, 1, none⟩ = some (.int .i64 R1.e) := fun V k => ⟨(blk_cell k 0).trans rfl, (blk_cell k 1).trans rfl⟩
          have HSS := Aside0.mk hS
          have hq1 : (R1.e != R1.e) = false := by simp
          have hq2 : (R1.end_ != R1.end_) = false := by simp
          clear hbd hS
          refine start_ (n := 12) (S := fun w' => w'.cell? ⟨w3.heap.size, 0, none⟩ = some (.string (S R1.b)) ∧ w'.cell? ⟨w3.heap.size, 1, none⟩ = some (.int .i64 R1.e)) (ds := []) #[false, false, false, false, false, false, false, false, false, false, false, false] (by kernel_rfl) rfl rfl (by rw [← hwd]; exact HSS.out _ HD.out.2.1) (fun hHeld => ?_)
          rw [← hwd] at hHeld ⊢
          clear hwd
          refine pure_ (i := 0) (N := some 132) (v := ?_) (a' := ?_) #[true, false, false, false, false, false, false, false, false, false, false, false] rfl rfl (by kernel_rfl) (fun _ _ _ h => h) (Or.inl ⟨by rfl, ?_⟩) ?_ ?_
          rotate_left
          · intro w'
            go_simp
            with_reducible rfl
          rotate_left
          · simp only [Act.put, List.setIfInBounds_toArray, List.set_cons_zero, List.set_cons_succ, i64_w, i32_w]
            rfl
          refine pure_ (i := 2) (N := some 134) (v := ?_) (a' := ?_) #[true, false, true, false, false, false, false, false, false, false, false, false] rfl rfl (by kernel_rfl) (fun _ _ _ h => h) (Or.inl ⟨by rfl, ?_⟩) ?_ ?_
          rotate_left
          · intro w'
            go_simp
            with_reducible rfl
          rotate_left
          · simp only [Act.put, List.setIfInBounds_toArray, List.set_cons_zero, List.set_cons_succ, i64_w, i32_w]
            rfl
          refine take_ (i := 3) (N := some 135) (v := ?_) (a' := ?_) #[true, false, true, true, false, false, false, false, false, false, false, false] rfl rfl (by kernel_rfl) (fun _ _ _ h => h) (Or.inl ⟨by rfl, ?_⟩) hHeld ?_ ?_
          rotate_left
          · rintro w' ⟨s0, s1⟩
            go_simp
            with_reducible rfl
          rotate_left
          · simp only [Act.put, List.setIfInBounds_toArray, List.set_cons_zero, List.set_cons_succ, i64_w, i32_w]
            rfl
          refine one_ (i := 1) (N := some 133) #[true, true, true, true, false, false, false, false, false, false, false, false] rfl rfl (by kernel_rfl) (by decide) (fun K hK => ?_)
          refine goes_ Try.func24 (by kernel_rfl) rfl #[.pointer (some ⟨g, 0, none⟩)] (by rfl) rfl rfl (by (try simp only [List.map_toArray, List.map_cons, List.map_nil]); first | rfl | (go_simp; done)) ?_
          refine (err_calls HD.out.1).mono ?_
          rintro e w' ⟨rfl, rfl⟩
          refine ⟨_, rfl, ?_⟩
          refine hK.out _ _ (HSS.out _ HD.out.2.1) (fun hHeld => ?_)
          clear hK K
          refine norm_ (a' := ?_) ?_ ?_
          rotate_left
          · show Act.put _ (some 133) _ = _
            simp only [Act.put, List.setIfInBounds_toArray, List.set_cons_zero, List.set_cons_succ, i64_w, i32_w]
            rfl
          refine pure_ (i := 4) (N := some 136) (v := ?_) (a' := ?_) #[true, true, true, true, true, false, false, false, false, false, false, false] rfl rfl (by kernel_rfl) (fun _ _ _ h => h) (Or.inl ⟨by rfl, ?_⟩) ?_ ?_
          rotate_left
          · intro w'
            go_simp
            with_reducible rfl
          rotate_left
          · simp only [Act.put, List.setIfInBounds_toArray, List.set_cons_zero, List.set_cons_succ, i64_w, i32_w]
            rfl
          refine pure_ (i := 5) (N := some 137) (v := ?_) (a' := ?_) #[true, true, true, true, true, true, false, false, false, false, false, false] rfl rfl (by kernel_rfl) (fun _ _ _ h => h) (Or.inl ⟨by rfl, ?_⟩) ?_ ?_
          rotate_left
          · intro w'
            go_simp
            with_reducible rfl
          rotate_left
          · simp only [Act.put, List.setIfInBounds_toArray, List.set_cons_zero, List.set_cons_succ, i64_w, i32_w]
            rfl
          refine pure_ (i := 6) (N := some 138) (v := ?_) (a' := ?_) #[true, true, true, true, true, true, true, false, false, false, false, false] rfl rfl (by kernel_rfl) (fun _ _ _ h => h) (Or.inl ⟨by rfl, ?_⟩) ?_ ?_
          rotate_left
          · intro w'
            go_simp
            with_reducible rfl
          rotate_left
          · simp only [Act.put, List.setIfInBounds_toArray, List.set_cons_zero, List.set_cons_succ, i64_w, i32_w]
            rfl
          refine take_ (i := 8) (N := some 140) (v := ?_) (a' := ?_) #[true, true, true, true, true, true, true, false, true, false, false, false] rfl rfl (by kernel_rfl) (fun _ _ _ h => h) (Or.inl ⟨by rfl, ?_⟩) hHeld ?_ ?_
          rotate_left
          · rintro w' ⟨s0, s1⟩
            go_simp
            with_reducible rfl
          rotate_left
          · simp only [Act.put, List.setIfInBounds_toArray, List.set_cons_zero, List.set_cons_succ, i64_w, i32_w]
            rfl
          refine one_ (i := 7) (N := some 139) #[true, true, true, true, true, true, true, true, true, false, false, false] rfl rfl (by kernel_rfl) (by decide) (fun K hK => ?_)
          refine goes_ Try.func23 (by kernel_rfl) rfl #[.pointer (some ⟨g, 0, none⟩)] (by rfl) rfl rfl (by (try simp only [List.map_toArray, List.map_cons, List.map_nil]); first | rfl | (go_simp; done)) ?_
          refine (end_calls HD.out.1).mono ?_
          rintro e w' ⟨rfl, rfl⟩
          refine ⟨_, rfl, ?_⟩
          refine hK.out _ _ (HSS.out _ HD.out.2.1) (fun hHeld => ?_)
          clear hK K
          refine norm_ (a' := ?_) ?_ ?_
          rotate_left
          · show Act.put _ (some 139) _ = _
            simp only [Act.put, List.setIfInBounds_toArray, List.set_cons_zero, List.set_cons_succ, i64_w, i32_w]
            rfl
          refine one_ (i := 9) (N := some 141) #[true, true, true, true, true, true, true, true, true, true, false, false] rfl rfl (by kernel_rfl) (by decide) (fun K hK => ?_)
          refine goes_ Try.func31 (by kernel_rfl) rfl #[stV R1] (by rfl) rfl rfl (by (try simp only [List.map_toArray, List.map_cons, List.map_nil]); first | rfl | (go_simp; done)) ?_
          refine (ref_end (R := R1)).mono ?_
          rintro e w8 ⟨rfl, hb8⟩
          refine ⟨_, rfl, ?_⟩
          have k8 := (hb8.block _ (blk_lt HD.out.2.1)).trans HD.out.2.1
          refine hK.out _ _ (HSS.out _ k8) (fun hHeld => ?_)
          clear hK K
          refine norm_ (a' := ?_) ?_ ?_
          rotate_left
          · show Act.put _ (some 141) _ = _
            simp only [Act.put, List.setIfInBounds_toArray, List.set_cons_zero, List.set_cons_succ, i64_w, i32_w]
            rfl
          refine pure_ (i := 10) (N := some 142) (v := ?_) (a' := ?_) #[true, true, true, true, true, true, true, true, true, true, true, false] rfl rfl (by kernel_rfl) (fun _ _ _ h => h) (Or.inl ⟨by rfl, ?_⟩) ?_ ?_
          rotate_left
          · intro w'
            go_simp
            with_reducible rfl
          rotate_left
          · simp only [Act.put, List.setIfInBounds_toArray, List.set_cons_zero, List.set_cons_succ, i64_w, i32_w]
            rfl
          refine pure_ (i := 11) (N := some 143) (v := ?_) (a' := ?_) #[true, true, true, true, true, true, true, true, true, true, true, true] rfl rfl (by kernel_rfl) (fun _ _ _ h => h) (Or.inl ⟨by rfl, ?_⟩) ?_ ?_
          rotate_left
          · intro w'
            go_simp
            with_reducible rfl
          rotate_left
          · simp only [Act.put, List.setIfInBounds_toArray, List.set_cons_zero, List.set_cons_succ, i64_w, i32_w]
            rfl
          refine done_ (by kernel_rfl) ?_
          go_wp2
          go_roundg (m - (i + 1))
          case measure => omega
          case rel => exact ⟨i + 1, R1, by go_num, by omega, ⟨HD.out.1.below hb8, k8, below_step HD.out.2.2 hb8⟩⟩
        · obtain ⟨R1, hR1⟩ : ∃ R1, R1 = (R.bytes nn).1 := ⟨_, rfl⟩
          have dn : ((S (R.bytes nn).2).toList != (S (R.bytes nn).2).toList) = false := by simp
          have HR1 := Aside0.mk hR1
          clear hR1
          go_upto_region 43 with (first
            | (go_at_call 20; go_loud (have hx := bytes_calls (w0 := w) (below_alloc hI.out.2.2 (.cells #[.int .i64 kd, .int .i64 nn] 53)) (fun k h => Nat.le_trans (below_size H1.out) h.1) (hI.out.1.below (below_alloc (Below.refl _ _) _)) nn hnn1; rw [← HR1.out] at hx; refine hx.mono ?_; clear hx; rintro e w5 ⟨v5, rfl, hv5, hd5, hb5, hk5⟩; obtain ⟨A5, c5, rfl, _, hC5⟩ := Kd.R_reads hv5; have HC5 := Aside0.mk hv5; clear hv5 hC5; have k5 := rd_keep hI.out hgr hk5; obtain ⟨k51, c50, c51⟩ := k5; have ca1 := rd_keep3 hI.out hgr hk5; have H5 := Aside0.mk (And.intro hd5 (And.intro hb5 k51)); clear hd5 hb5 hk5 k51))
            | (go_at_call 26; go_loud (have hx := ref_bytes (w := w5) HBY.out nn hnn1; rw [← HR1.out] at hx; refine hx.mono ?_; clear hx; rintro e w6 ⟨rfl, hb6⟩; have hcv6 := conv_far HC5.out hb6 (g7 := w3.heap.size) (by have := blk_lt hI.out.2.1; simp; omega); obtain ⟨k6, c60, c61, f60, f61, l6⟩ := rd_keep2 H5.out.2.2 hb6; have H6 := Aside0.mk (And.intro (H5.out.1.below hb6) (And.intro (below_step H5.out.2.1 hb6) k6)); clear hb6 k6)))
          refine nameW (fun W hW => ?_)
          have HS : Aside0 (RdI w w1 w3 W g R1) := ⟨by rw [hW]; exact rd_end H6.out.1 H6.out.2.1 H6.out.2.2 (by have := below_size (below_step H1.out H3.out.2); omega) _⟩
          clear hW H5 H6 dn
          obtain ⟨wd, hwd⟩ : ∃ wd, wd = W.drew := ⟨_, rfl⟩
          have hbd : Below W.heap.size W wd := by rw [hwd]; exact below_drew1 (Below.refl _ _)
          have HD : Aside0 (RdI w w1 w3 wd g R1) := ⟨HS.out.1.below hbd, (hbd.block _ (blk_lt HS.out.2.1)).trans HS.out.2.1, below_step HS.out.2.2 hbd⟩
          have hS : ∀ V : World, V.heap[w3.heap.size]? = some (.cells #[.string (S R1.b), .int .i64 R1.e] 51 (0, 0)) → V.cell? ⟨w3.heap.size, 0, none⟩ = some (.string (S R1.b)) ∧ V.cell? ⟨w3.heap.size, 1, none⟩ = some (.int .i64 R1.e) := fun V k => ⟨(blk_cell k 0).trans rfl, (blk_cell k 1).trans rfl⟩
          have HSS := Aside0.mk hS
          have hq1 : (R1.e != R1.e) = false := by simp
          have hq2 : (R1.end_ != R1.end_) = false := by simp
          clear hbd hS
          refine start_ (n := 12) (S := fun w' => w'.cell? ⟨w3.heap.size, 0, none⟩ = some (.string (S R1.b)) ∧ w'.cell? ⟨w3.heap.size, 1, none⟩ = some (.int .i64 R1.e)) (ds := []) #[false, false, false, false, false, false, false, false, false, false, false, false] (by kernel_rfl) rfl rfl (by rw [← hwd]; exact HSS.out _ HD.out.2.1) (fun hHeld => ?_)
          rw [← hwd] at hHeld ⊢
          clear hwd
          refine pure_ (i := 0) (N := some 132) (v := ?_) (a' := ?_) #[true, false, false, false, false, false, false, false, false, false, false, false] rfl rfl (by kernel_rfl) (fun _ _ _ h => h) (Or.inl ⟨by rfl, ?_⟩) ?_ ?_
          rotate_left
          · intro w'
            go_simp
            with_reducible rfl
          rotate_left
          · simp only [Act.put, List.setIfInBounds_toArray, List.set_cons_zero, List.set_cons_succ, i64_w, i32_w]
            rfl
          refine pure_ (i := 2) (N := some 134) (v := ?_) (a' := ?_) #[true, false, true, false, false, false, false, false, false, false, false, false] rfl rfl (by kernel_rfl) (fun _ _ _ h => h) (Or.inl ⟨by rfl, ?_⟩) ?_ ?_
          rotate_left
          · intro w'
            go_simp
            with_reducible rfl
          rotate_left
          · simp only [Act.put, List.setIfInBounds_toArray, List.set_cons_zero, List.set_cons_succ, i64_w, i32_w]
            rfl
          refine take_ (i := 3) (N := some 135) (v := ?_) (a' := ?_) #[true, false, true, true, false, false, false, false, false, false, false, false] rfl rfl (by kernel_rfl) (fun _ _ _ h => h) (Or.inl ⟨by rfl, ?_⟩) hHeld ?_ ?_
          rotate_left
          · rintro w' ⟨s0, s1⟩
            go_simp
            with_reducible rfl
          rotate_left
          · simp only [Act.put, List.setIfInBounds_toArray, List.set_cons_zero, List.set_cons_succ, i64_w, i32_w]
            rfl
          refine one_ (i := 1) (N := some 133) #[true, true, true, true, false, false, false, false, false, false, false, false] rfl rfl (by kernel_rfl) (by decide) (fun K hK => ?_)
          refine goes_ Try.func24 (by kernel_rfl) rfl #[.pointer (some ⟨g, 0, none⟩)] (by rfl) rfl rfl (by (try simp only [List.map_toArray, List.map_cons, List.map_nil]); first | rfl | (go_simp; done)) ?_
          refine (err_calls HD.out.1).mono ?_
          rintro e w' ⟨rfl, rfl⟩
          refine ⟨_, rfl, ?_⟩
          refine hK.out _ _ (HSS.out _ HD.out.2.1) (fun hHeld => ?_)
          clear hK K
          refine norm_ (a' := ?_) ?_ ?_
          rotate_left
          · show Act.put _ (some 133) _ = _
            simp only [Act.put, List.setIfInBounds_toArray, List.set_cons_zero, List.set_cons_succ, i64_w, i32_w]
            rfl
          refine pure_ (i := 4) (N := some 136) (v := ?_) (a' := ?_) #[true, true, true, true, true, false, false, false, false, false, false, false] rfl rfl (by kernel_rfl) (fun _ _ _ h => h) (Or.inl ⟨by rfl, ?_⟩) ?_ ?_
          rotate_left
          · intro w'
            go_simp
            with_reducible rfl
          rotate_left
          · simp only [Act.put, List.setIfInBounds_toArray, List.set_cons_zero, List.set_cons_succ, i64_w, i32_w]
            rfl
          refine pure_ (i := 5) (N := some 137) (v := ?_) (a' := ?_) #[true, true, true, true, true, true, false, false, false, false, false, false] rfl rfl (by kernel_rfl) (fun _ _ _ h => h) (Or.inl ⟨by rfl, ?_⟩) ?_ ?_
          rotate_left
          · intro w'
            go_simp
            with_reducible rfl
          rotate_left
          · simp only [Act.put, List.setIfInBounds_toArray, List.set_cons_zero, List.set_cons_succ, i64_w, i32_w]
            rfl
          refine pure_ (i := 6) (N := some 138) (v := ?_) (a' := ?_) #[true, true, true, true, true, true, true, false, false, false, false, false] rfl rfl (by kernel_rfl) (fun _ _ _ h => h) (Or.inl ⟨by rfl, ?_⟩) ?_ ?_
          rotate_left
          · intro w'
            go_simp
            with_reducible rfl
          rotate_left
          · simp only [Act.put, List.setIfInBounds_toArray, List.set_cons_zero, List.set_cons_succ, i64_w, i32_w]
            rfl
          refine take_ (i := 8) (N := some 140) (v := ?_) (a' := ?_) #[true, true, true, true, true, true, true, false, true, false, false, false] rfl rfl (by kernel_rfl) (fun _ _ _ h => h) (Or.inl ⟨by rfl, ?_⟩) hHeld ?_ ?_
          rotate_left
          · rintro w' ⟨s0, s1⟩
            go_simp
            with_reducible rfl
          rotate_left
          · simp only [Act.put, List.setIfInBounds_toArray, List.set_cons_zero, List.set_cons_succ, i64_w, i32_w]
            rfl
          refine one_ (i := 7) (N := some 139) #[true, true, true, true, true, true, true, true, true, false, false, false] rfl rfl (by kernel_rfl) (by decide) (fun K hK => ?_)
          refine goes_ Try.func23 (by kernel_rfl) rfl #[.pointer (some ⟨g, 0, none⟩)] (by rfl) rfl rfl (by (try simp only [List.map_toArray, List.map_cons, List.map_nil]); first | rfl | (go_simp; done)) ?_
          refine (end_calls HD.out.1).mono ?_
          rintro e w' ⟨rfl, rfl⟩
          refine ⟨_, rfl, ?_⟩
          refine hK.out _ _ (HSS.out _ HD.out.2.1) (fun hHeld => ?_)
          clear hK K
          refine norm_ (a' := ?_) ?_ ?_
          rotate_left
          · show Act.put _ (some 139) _ = _
            simp only [Act.put, List.setIfInBounds_toArray, List.set_cons_zero, List.set_cons_succ, i64_w, i32_w]
            rfl
          refine one_ (i := 9) (N := some 141) #[true, true, true, true, true, true, true, true, true, true, false, false] rfl rfl (by kernel_rfl) (by decide) (fun K hK => ?_)
          refine goes_ Try.func31 (by kernel_rfl) rfl #[stV R1] (by rfl) rfl rfl (by (try simp only [List.map_toArray, List.map_cons, List.map_nil]); first | rfl | (go_simp; done)) ?_
          refine (ref_end (R := R1)).mono ?_
          rintro e w8 ⟨rfl, hb8⟩
          refine ⟨_, rfl, ?_⟩
          have k8 := (hb8.block _ (blk_lt HD.out.2.1)).trans HD.out.2.1
          refine hK.out _ _ (HSS.out _ k8) (fun hHeld => ?_)
          clear hK K
          refine norm_ (a' := ?_) ?_ ?_
          rotate_left
          · show Act.put _ (some 141) _ = _
            simp only [Act.put, List.setIfInBounds_toArray, List.set_cons_zero, List.set_cons_succ, i64_w, i32_w]
            rfl
          refine pure_ (i := 10) (N := some 142) (v := ?_) (a' := ?_) #[true, true, true, true, true, true, true, true, true, true, true, false] rfl rfl (by kernel_rfl) (fun _ _ _ h => h) (Or.inl ⟨by rfl, ?_⟩) ?_ ?_
          rotate_left
          · intro w'
            go_simp
            with_reducible rfl
          rotate_left
          · simp only [Act.put, List.setIfInBounds_toArray, List.set_cons_zero, List.set_cons_succ, i64_w, i32_w]
            rfl
          refine pure_ (i := 11) (N := some 143) (v := ?_) (a' := ?_) #[true, true, true, true, true, true, true, true, true, true, true, true] rfl rfl (by kernel_rfl) (fun _ _ _ h => h) (Or.inl ⟨by rfl, ?_⟩) ?_ ?_
          rotate_left
          · intro w'
            go_simp
            with_reducible rfl
          rotate_left
          · simp only [Act.put, List.setIfInBounds_toArray, List.set_cons_zero, List.set_cons_succ, i64_w, i32_w]
            rfl
          refine done_ (by kernel_rfl) ?_
          go_wp2
          go_roundg (m - (i + 1))
          case measure => omega
          case rel => exact ⟨i + 1, R1, by go_num, by omega, ⟨HD.out.1.below hb8, k8, below_step HD.out.2.2 hb8⟩⟩
        · obtain ⟨R1, hR1⟩ : ∃ R1, R1 = (R.fixed nn).1 := ⟨_, rfl⟩
          have dn : ((S (R.fixed nn).2).toList != (S (R.fixed nn).2).toList) = false := by simp
          have HR1 := Aside0.mk hR1
          clear hR1
          go_upto_region 43 with (first
            | (go_at_call 22; go_loud (have hx := fixed_calls (w0 := w) (below_alloc hI.out.2.2 (.cells #[.int .i64 kd, .int .i64 nn] 53)) (fun k h => Nat.le_trans (below_size H1.out) h.1) (hI.out.1.below (below_alloc (Below.refl _ _) _)) nn; rw [← HR1.out] at hx; refine hx.mono ?_; clear hx; rintro e w5 ⟨v5, rfl, hv5, hd5, hb5, hk5⟩; obtain ⟨A5, c5, rfl, _, hC5⟩ := Kd.R_reads hv5; have HC5 := Aside0.mk hv5; clear hv5 hC5; have k5 := rd_keep hI.out hgr hk5; obtain ⟨k51, c50, c51⟩ := k5; have ca1 := rd_keep3 hI.out hgr hk5; have H5 := Aside0.mk (And.intro hd5 (And.intro hb5 k51)); clear hd5 hb5 hk5 k51))
            | (go_at_call 27; go_loud (have hx := ref_fixed (w := w5) HBY.out nn; rw [← HR1.out] at hx; refine hx.mono ?_; clear hx; rintro e w6 ⟨rfl, hb6⟩; have hcv6 := conv_far HC5.out hb6 (g7 := w3.heap.size) (by have := blk_lt hI.out.2.1; simp; omega); obtain ⟨k6, c60, c61, f60, f61, l6⟩ := rd_keep2 H5.out.2.2 hb6; have H6 := Aside0.mk (And.intro (H5.out.1.below hb6) (And.intro (below_step H5.out.2.1 hb6) k6)); clear hb6 k6)))
          refine nameW (fun W hW => ?_)
          have HS : Aside0 (RdI w w1 w3 W g R1) := ⟨by rw [hW]; exact rd_end H6.out.1 H6.out.2.1 H6.out.2.2 (by have := below_size (below_step H1.out H3.out.2); omega) _⟩
          clear hW H5 H6 dn
          obtain ⟨wd, hwd⟩ : ∃ wd, wd = W.drew := ⟨_, rfl⟩
          have hbd : Below W.heap.size W wd := by rw [hwd]; exact below_drew1 (Below.refl _ _)
          have HD : Aside0 (RdI w w1 w3 wd g R1) := ⟨HS.out.1.below hbd, (hbd.block _ (blk_lt HS.out.2.1)).trans HS.out.2.1, below_step HS.out.2.2 hbd⟩
          have hS : ∀ V : World, V.heap[w3.heap.size]? = some (.cells #[.string (S R1.b), .int .i64 R1.e] 51 (0, 0)) → V.cell? ⟨w3.heap.size, 0, none⟩ = some (.string (S R1.b)) ∧ V.cell? ⟨w3.heap.size, 1, none⟩ = some (.int .i64 R1.e) := fun V k => ⟨(blk_cell k 0).trans rfl, (blk_cell k 1).trans rfl⟩
          have HSS := Aside0.mk hS
          have hq1 : (R1.e != R1.e) = false := by simp
          have hq2 : (R1.end_ != R1.end_) = false := by simp
          clear hbd hS
          refine start_ (n := 12) (S := fun w' => w'.cell? ⟨w3.heap.size, 0, none⟩ = some (.string (S R1.b)) ∧ w'.cell? ⟨w3.heap.size, 1, none⟩ = some (.int .i64 R1.e)) (ds := []) #[false, false, false, false, false, false, false, false, false, false, false, false] (by kernel_rfl) rfl rfl (by rw [← hwd]; exact HSS.out _ HD.out.2.1) (fun hHeld => ?_)
          rw [← hwd] at hHeld ⊢
          clear hwd
          refine pure_ (i := 0) (N := some 132) (v := ?_) (a' := ?_) #[true, false, false, false, false, false, false, false, false, false, false, false] rfl rfl (by kernel_rfl) (fun _ _ _ h => h) (Or.inl ⟨by rfl, ?_⟩) ?_ ?_
          rotate_left
          · intro w'
            go_simp
            with_reducible rfl
          rotate_left
          · simp only [Act.put, List.setIfInBounds_toArray, List.set_cons_zero, List.set_cons_succ, i64_w, i32_w]
            rfl
          refine pure_ (i := 2) (N := some 134) (v := ?_) (a' := ?_) #[true, false, true, false, false, false, false, false, false, false, false, false] rfl rfl (by kernel_rfl) (fun _ _ _ h => h) (Or.inl ⟨by rfl, ?_⟩) ?_ ?_
          rotate_left
          · intro w'
            go_simp
            with_reducible rfl
          rotate_left
          · simp only [Act.put, List.setIfInBounds_toArray, List.set_cons_zero, List.set_cons_succ, i64_w, i32_w]
            rfl
          refine take_ (i := 3) (N := some 135) (v := ?_) (a' := ?_) #[true, false, true, true, false, false, false, false, false, false, false, false] rfl rfl (by kernel_rfl) (fun _ _ _ h => h) (Or.inl ⟨by rfl, ?_⟩) hHeld ?_ ?_
          rotate_left
          · rintro w' ⟨s0, s1⟩
            go_simp
            with_reducible rfl
          rotate_left
          · simp only [Act.put, List.setIfInBounds_toArray, List.set_cons_zero, List.set_cons_succ, i64_w, i32_w]
            rfl
          refine one_ (i := 1) (N := some 133) #[true, true, true, true, false, false, false, false, false, false, false, false] rfl rfl (by kernel_rfl) (by decide) (fun K hK => ?_)
          refine goes_ Try.func24 (by kernel_rfl) rfl #[.pointer (some ⟨g, 0, none⟩)] (by rfl) rfl rfl (by (try simp only [List.map_toArray, List.map_cons, List.map_nil]); first | rfl | (go_simp; done)) ?_
          refine (err_calls HD.out.1).mono ?_
          rintro e w' ⟨rfl, rfl⟩
          refine ⟨_, rfl, ?_⟩
          refine hK.out _ _ (HSS.out _ HD.out.2.1) (fun hHeld => ?_)
          clear hK K
          refine norm_ (a' := ?_) ?_ ?_
          rotate_left
          · show Act.put _ (some 133) _ = _
            simp only [Act.put, List.setIfInBounds_toArray, List.set_cons_zero, List.set_cons_succ, i64_w, i32_w]
            rfl
          refine pure_ (i := 4) (N := some 136) (v := ?_) (a' := ?_) #[true, true, true, true, true, false, false, false, false, false, false, false] rfl rfl (by kernel_rfl) (fun _ _ _ h => h) (Or.inl ⟨by rfl, ?_⟩) ?_ ?_
          rotate_left
          · intro w'
            go_simp
            with_reducible rfl
          rotate_left
          · simp only [Act.put, List.setIfInBounds_toArray, List.set_cons_zero, List.set_cons_succ, i64_w, i32_w]
            rfl
          refine pure_ (i := 5) (N := some 137) (v := ?_) (a' := ?_) #[true, true, true, true, true, true, false, false, false, false, false, false] rfl rfl (by kernel_rfl) (fun _ _ _ h => h) (Or.inl ⟨by rfl, ?_⟩) ?_ ?_
          rotate_left
          · intro w'
            go_simp
            with_reducible rfl
          rotate_left
          · simp only [Act.put, List.setIfInBounds_toArray, List.set_cons_zero, List.set_cons_succ, i64_w, i32_w]
            rfl
          refine pure_ (i := 6) (N := some 138) (v := ?_) (a' := ?_) #[true, true, true, true, true, true, true, false, false, false, false, false] rfl rfl (by kernel_rfl) (fun _ _ _ h => h) (Or.inl ⟨by rfl, ?_⟩) ?_ ?_
          rotate_left
          · intro w'
            go_simp
            with_reducible rfl
          rotate_left
          · simp only [Act.put, List.setIfInBounds_toArray, List.set_cons_zero, List.set_cons_succ, i64_w, i32_w]
            rfl
          refine take_ (i := 8) (N := some 140) (v := ?_) (a' := ?_) #[true, true, true, true, true, true, true, false, true, false, false, false] rfl rfl (by kernel_rfl) (fun _ _ _ h => h) (Or.inl ⟨by rfl, ?_⟩) hHeld ?_ ?_
          rotate_left
          · rintro w' ⟨s0, s1⟩
            go_simp
            with_reducible rfl
          rotate_left
          · simp only [Act.put, List.setIfInBounds_toArray, List.set_cons_zero, List.set_cons_succ, i64_w, i32_w]
            rfl
          refine one_ (i := 7) (N := some 139) #[true, true, true, true, true, true, true, true, true, false, false, false] rfl rfl (by kernel_rfl) (by decide) (fun K hK => ?_)
          refine goes_ Try.func23 (by kernel_rfl) rfl #[.pointer (some ⟨g, 0, none⟩)] (by rfl) rfl rfl (by (try simp only [List.map_toArray, List.map_cons, List.map_nil]); first | rfl | (go_simp; done)) ?_
          refine (end_calls HD.out.1).mono ?_
          rintro e w' ⟨rfl, rfl⟩
          refine ⟨_, rfl, ?_⟩
          refine hK.out _ _ (HSS.out _ HD.out.2.1) (fun hHeld => ?_)
          clear hK K
          refine norm_ (a' := ?_) ?_ ?_
          rotate_left
          · show Act.put _ (some 139) _ = _
            simp only [Act.put, List.setIfInBounds_toArray, List.set_cons_zero, List.set_cons_succ, i64_w, i32_w]
            rfl
          refine one_ (i := 9) (N := some 141) #[true, true, true, true, true, true, true, true, true, true, false, false] rfl rfl (by kernel_rfl) (by decide) (fun K hK => ?_)
          refine goes_ Try.func31 (by kernel_rfl) rfl #[stV R1] (by rfl) rfl rfl (by (try simp only [List.map_toArray, List.map_cons, List.map_nil]); first | rfl | (go_simp; done)) ?_
          refine (ref_end (R := R1)).mono ?_
          rintro e w8 ⟨rfl, hb8⟩
          refine ⟨_, rfl, ?_⟩
          have k8 := (hb8.block _ (blk_lt HD.out.2.1)).trans HD.out.2.1
          refine hK.out _ _ (HSS.out _ k8) (fun hHeld => ?_)
          clear hK K
          refine norm_ (a' := ?_) ?_ ?_
          rotate_left
          · show Act.put _ (some 141) _ = _
            simp only [Act.put, List.setIfInBounds_toArray, List.set_cons_zero, List.set_cons_succ, i64_w, i32_w]
            rfl
          refine pure_ (i := 10) (N := some 142) (v := ?_) (a' := ?_) #[true, true, true, true, true, true, true, true, true, true, true, false] rfl rfl (by kernel_rfl) (fun _ _ _ h => h) (Or.inl ⟨by rfl, ?_⟩) ?_ ?_
          rotate_left
          · intro w'
            go_simp
            with_reducible rfl
          rotate_left
          · simp only [Act.put, List.setIfInBounds_toArray, List.set_cons_zero, List.set_cons_succ, i64_w, i32_w]
            rfl
          refine pure_ (i := 11) (N := some 143) (v := ?_) (a' := ?_) #[true, true, true, true, true, true, true, true, true, true, true, true] rfl rfl (by kernel_rfl) (fun _ _ _ h => h) (Or.inl ⟨by rfl, ?_⟩) ?_ ?_
          rotate_left
          · intro w'
            go_simp
            with_reducible rfl
          rotate_left
          · simp only [Act.put, List.setIfInBounds_toArray, List.set_cons_zero, List.set_cons_succ, i64_w, i32_w]
            rfl
          refine done_ (by kernel_rfl) ?_
          go_wp2
          go_roundg (m - (i + 1))
          case measure => omega
          case rel => exact ⟨i + 1, R1, by go_num, by omega, ⟨HD.out.1.below hb8, k8, below_step HD.out.2.2 hb8⟩⟩
        · by_cases he : R.bool.1.e = 0
          · obtain ⟨R1, hR1⟩ : ∃ R1, R1 = R.bool.1 := ⟨_, rfl⟩
            have HR1 := Aside0.mk hR1
            have hrb : R.rbool = R.bool.2 := by unfold RM.rbool; rw [if_pos he]
            have HRB := Aside0.mk hrb
            have dn : (R.bool.2 != R.bool.2) = false := by simp
            have de : (R1.e == 0) = true := beq_iff_eq.2 (by rw [hR1]; exact he)
            clear hrb
            clear hR1 he
            go_upto_region 43 with (first
              | (go_at_call 21; go_loud (have hx := bool_calls (w0 := w) (below_alloc hI.out.2.2 (.cells #[.int .i64 kd, .int .i64 nn] 53)) (fun k h => Nat.le_trans (below_size H1.out) h.1) (hI.out.1.below (below_alloc (Below.refl _ _) _)); rw [← HR1.out] at hx; refine hx.mono ?_; clear hx; rintro e w5 ⟨rfl, hd5, hb5, hk5⟩; have k5 := rd_keep hI.out hgr hk5; obtain ⟨k51, c50, c51⟩ := k5; have ca1 := rd_keep3 hI.out hgr hk5; have H5 := Aside0.mk (And.intro hd5 (And.intro hb5 k51)); clear hd5 hb5 hk5 k51))
              | (go_at_call 28; go_loud (have hx := ref_bool (w := w5) HBY.out; rw [HRB.out] at hx; rw [← HR1.out] at hx; refine hx.mono ?_; clear hx; rintro e w6 ⟨rfl, hb6⟩; obtain ⟨k6, c60, c61, f60, f61, l6⟩ := rd_keep2 H5.out.2.2 hb6; have H6 := Aside0.mk (And.intro (H5.out.1.below hb6) (And.intro (below_step H5.out.2.1 hb6) k6)); clear hb6 k6)))
            refine nameW (fun W hW => ?_)
            have HS : Aside0 (RdI w w1 w3 W g R1) := ⟨by rw [hW]; exact rd_end H6.out.1 H6.out.2.1 H6.out.2.2 (by have := below_size (below_step H1.out H3.out.2); omega) _⟩
            clear hW H5 H6 dn
            obtain ⟨wd, hwd⟩ : ∃ wd, wd = W.drew := ⟨_, rfl⟩
            have hbd : Below W.heap.size W wd := by rw [hwd]; exact below_drew1 (Below.refl _ _)
            have HD : Aside0 (RdI w w1 w3 wd g R1) := ⟨HS.out.1.below hbd, (hbd.block _ (blk_lt HS.out.2.1)).trans HS.out.2.1, below_step HS.out.2.2 hbd⟩
            have hS : ∀ V : World, V.heap[w3.heap.size]? = some (.cells #[.string (S R1.b), .int .i64 R1.e] 51 (0, 0)) → V.cell? ⟨w3.heap.size, 0, none⟩ = some (.string (S R1.b)) ∧ V.cell? ⟨w3.heap.size, 1, none⟩ = some (.int .i64 R1.e) := fun V k => ⟨(blk_cell k 0).trans rfl, (blk_cell k 1).trans rfl⟩
            have HSS := Aside0.mk hS
            have hq1 : (R1.e != R1.e) = false := by simp
            have hq2 : (R1.end_ != R1.end_) = false := by simp
            clear hbd hS
            refine start_ (n := 12) (S := fun w' => w'.cell? ⟨w3.heap.size, 0, none⟩ = some (.string (S R1.b)) ∧ w'.cell? ⟨w3.heap.size, 1, none⟩ = some (.int .i64 R1.e)) (ds := []) #[false, false, false, false, false, false, false, false, false, false, false, false] (by kernel_rfl) rfl rfl (by rw [← hwd]; exact HSS.out _ HD.out.2.1) (fun hHeld => ?_)
            rw [← hwd] at hHeld ⊢
            clear hwd
            refine pure_ (i := 0) (N := some 132) (v := ?_) (a' := ?_) #[true, false, false, false, false, false, false, false, false, false, false, false] rfl rfl (by kernel_rfl) (fun _ _ _ h => h) (Or.inl ⟨by rfl, ?_⟩) ?_ ?_
            rotate_left
            · intro w'
              go_simp
              with_reducible rfl
            rotate_left
            · simp only [Act.put, List.setIfInBounds_toArray, List.set_cons_zero, List.set_cons_succ, i64_w, i32_w]
              rfl
            refine pure_ (i := 2) (N := some 134) (v := ?_) (a' := ?_) #[true, false, true, false, false, false, false, false, false, false, false, false] rfl rfl (by kernel_rfl) (fun _ _ _ h => h) (Or.inl ⟨by rfl, ?_⟩) ?_ ?_
            rotate_left
            · intro w'
              go_simp
              with_reducible rfl
            rotate_left
            · simp only [Act.put, List.setIfInBounds_toArray, List.set_cons_zero, List.set_cons_succ, i64_w, i32_w]
              rfl
            refine take_ (i := 3) (N := some 135) (v := ?_) (a' := ?_) #[true, false, true, true, false, false, false, false, false, false, false, false] rfl rfl (by kernel_rfl) (fun _ _ _ h => h) (Or.inl ⟨by rfl, ?_⟩) hHeld ?_ ?_
            rotate_left
            · rintro w' ⟨s0, s1⟩
              go_simp
              with_reducible rfl
            rotate_left
            · simp only [Act.put, List.setIfInBounds_toArray, List.set_cons_zero, List.set_cons_succ, i64_w, i32_w]
              rfl
            refine one_ (i := 1) (N := some 133) #[true, true, true, true, false, false, false, false, false, false, false, false] rfl rfl (by kernel_rfl) (by decide) (fun K hK => ?_)
            refine goes_ Try.func24 (by kernel_rfl) rfl #[.pointer (some ⟨g, 0, none⟩)] (by rfl) rfl rfl (by (try simp only [List.map_toArray, List.map_cons, List.map_nil]); first | rfl | (go_simp; done)) ?_
            refine (err_calls HD.out.1).mono ?_
            rintro e w' ⟨rfl, rfl⟩
            refine ⟨_, rfl, ?_⟩
            refine hK.out _ _ (HSS.out _ HD.out.2.1) (fun hHeld => ?_)
            clear hK K
            refine norm_ (a' := ?_) ?_ ?_
            rotate_left
            · show Act.put _ (some 133) _ = _
              simp only [Act.put, List.setIfInBounds_toArray, List.set_cons_zero, List.set_cons_succ, i64_w, i32_w]
              rfl
            refine pure_ (i := 4) (N := some 136) (v := ?_) (a' := ?_) #[true, true, true, true, true, false, false, false, false, false, false, false] rfl rfl (by kernel_rfl) (fun _ _ _ h => h) (Or.inl ⟨by rfl, ?_⟩) ?_ ?_
            rotate_left
            · intro w'
              go_simp
              with_reducible rfl
            rotate_left
            · simp only [Act.put, List.setIfInBounds_toArray, List.set_cons_zero, List.set_cons_succ, i64_w, i32_w]
              rfl
            refine pure_ (i := 5) (N := some 137) (v := ?_) (a' := ?_) #[true, true, true, true, true, true, false, false, false, false, false, false] rfl rfl (by kernel_rfl) (fun _ _ _ h => h) (Or.inl ⟨by rfl, ?_⟩) ?_ ?_
            rotate_left
            · intro w'
              go_simp
              with_reducible rfl
            rotate_left
            · simp only [Act.put, List.setIfInBounds_toArray, List.set_cons_zero, List.set_cons_succ, i64_w, i32_w]
              rfl
            refine pure_ (i := 6) (N := some 138) (v := ?_) (a' := ?_) #[true, true, true, true, true, true, true, false, false, false, false, false] rfl rfl (by kernel_rfl) (fun _ _ _ h => h) (Or.inl ⟨by rfl, ?_⟩) ?_ ?_
            rotate_left
            · intro w'
              go_simp
              with_reducible rfl
            rotate_left
            · simp only [Act.put, List.setIfInBounds_toArray, List.set_cons_zero, List.set_cons_succ, i64_w, i32_w]
              rfl
            refine take_ (i := 8) (N := some 140) (v := ?_) (a' := ?_) #[true, true, true, true, true, true, true, false, true, false, false, false] rfl rfl (by kernel_rfl) (fun _ _ _ h => h) (Or.inl ⟨by rfl, ?_⟩) hHeld ?_ ?_
            rotate_left
            · rintro w' ⟨s0, s1⟩
              go_simp
              with_reducible rfl
            rotate_left
            · simp only [Act.put, List.setIfInBounds_toArray, List.set_cons_zero, List.set_cons_succ, i64_w, i32_w]
              rfl
            refine one_ (i := 7) (N := some 139) #[true, true, true, true, true, true, true, true, true, false, false, false] rfl rfl (by kernel_rfl) (by decide) (fun K hK => ?_)
            refine goes_ Try.func23 (by kernel_rfl) rfl #[.pointer (some ⟨g, 0, none⟩)] (by rfl) rfl rfl (by (try simp only [List.map_toArray, List.map_cons, List.map_nil]); first | rfl | (go_simp; done)) ?_
            refine (end_calls HD.out.1).mono ?_
            rintro e w' ⟨rfl, rfl⟩
            refine ⟨_, rfl, ?_⟩
            refine hK.out _ _ (HSS.out _ HD.out.2.1) (fun hHeld => ?_)
            clear hK K
            refine norm_ (a' := ?_) ?_ ?_
            rotate_left
            · show Act.put _ (some 139) _ = _
              simp only [Act.put, List.setIfInBounds_toArray, List.set_cons_zero, List.set_cons_succ, i64_w, i32_w]
              rfl
            refine one_ (i := 9) (N := some 141) #[true, true, true, true, true, true, true, true, true, true, false, false] rfl rfl (by kernel_rfl) (by decide) (fun K hK => ?_)
            refine goes_ Try.func31 (by kernel_rfl) rfl #[stV R1] (by rfl) rfl rfl (by (try simp only [List.map_toArray, List.map_cons, List.map_nil]); first | rfl | (go_simp; done)) ?_
            refine (ref_end (R := R1)).mono ?_
            rintro e w8 ⟨rfl, hb8⟩
            refine ⟨_, rfl, ?_⟩
            have k8 := (hb8.block _ (blk_lt HD.out.2.1)).trans HD.out.2.1
            refine hK.out _ _ (HSS.out _ k8) (fun hHeld => ?_)
            clear hK K
            refine norm_ (a' := ?_) ?_ ?_
            rotate_left
            · show Act.put _ (some 141) _ = _
              simp only [Act.put, List.setIfInBounds_toArray, List.set_cons_zero, List.set_cons_succ, i64_w, i32_w]
              rfl
            refine pure_ (i := 10) (N := some 142) (v := ?_) (a' := ?_) #[true, true, true, true, true, true, true, true, true, true, true, false] rfl rfl (by kernel_rfl) (fun _ _ _ h => h) (Or.inl ⟨by rfl, ?_⟩) ?_ ?_
            rotate_left
            · intro w'
              go_simp
              with_reducible rfl
            rotate_left
            · simp only [Act.put, List.setIfInBounds_toArray, List.set_cons_zero, List.set_cons_succ, i64_w, i32_w]
              rfl
            refine pure_ (i := 11) (N := some 143) (v := ?_) (a' := ?_) #[true, true, true, true, true, true, true, true, true, true, true, true] rfl rfl (by kernel_rfl) (fun _ _ _ h => h) (Or.inl ⟨by rfl, ?_⟩) ?_ ?_
            rotate_left
            · intro w'
              go_simp
              with_reducible rfl
            rotate_left
            · simp only [Act.put, List.setIfInBounds_toArray, List.set_cons_zero, List.set_cons_succ, i64_w, i32_w]
              rfl
            refine done_ (by kernel_rfl) ?_
            go_wp2
            go_roundg (m - (i + 1))
            case measure => omega
            case rel => exact ⟨i + 1, R1, by go_num, by omega, ⟨HD.out.1.below hb8, k8, below_step HD.out.2.2 hb8⟩⟩
          · obtain ⟨R1, hR1⟩ : ∃ R1, R1 = R.bool.1 := ⟨_, rfl⟩
            have HR1 := Aside0.mk hR1
            have dn := True.intro
            have de : (R1.e == 0) = false := beq_eq_false_iff_ne.2 (by rw [hR1]; exact he)
            clear hR1 he
            go_upto_region 43 with (first
              | (go_at_call 21; go_loud (have hx := bool_calls (w0 := w) (below_alloc hI.out.2.2 (.cells #[.int .i64 kd, .int .i64 nn] 53)) (fun k h => Nat.le_trans (below_size H1.out) h.1) (hI.out.1.below (below_alloc (Below.refl _ _) _)); rw [← HR1.out] at hx; refine hx.mono ?_; clear hx; rintro e w5 ⟨rfl, hd5, hb5, hk5⟩; have k5 := rd_keep hI.out hgr hk5; obtain ⟨k51, c50, c51⟩ := k5; have ca1 := rd_keep3 hI.out hgr hk5; have H5 := Aside0.mk (And.intro hd5 (And.intro hb5 k51)); clear hd5 hb5 hk5 k51))
              | (go_at_call 28; go_loud (have hx := ref_bool (w := w5) HBY.out; rw [← HR1.out] at hx; refine hx.mono ?_; clear hx; rintro e w6 ⟨rfl, hb6⟩; obtain ⟨k6, c60, c61, f60, f61, l6⟩ := rd_keep2 H5.out.2.2 hb6; have H6 := Aside0.mk (And.intro (H5.out.1.below hb6) (And.intro (below_step H5.out.2.1 hb6) k6)); clear hb6 k6)))
            refine nameW (fun W hW => ?_)
            have HS : Aside0 (RdI w w1 w3 W g R1) := ⟨by rw [hW]; exact rd_end H6.out.1 H6.out.2.1 H6.out.2.2 (by have := below_size (below_step H1.out H3.out.2); omega) _⟩
            clear hW H5 H6 dn
            obtain ⟨wd, hwd⟩ : ∃ wd, wd = W.drew := ⟨_, rfl⟩
            have hbd : Below W.heap.size W wd := by rw [hwd]; exact below_drew1 (Below.refl _ _)
            have HD : Aside0 (RdI w w1 w3 wd g R1) := ⟨HS.out.1.below hbd, (hbd.block _ (blk_lt HS.out.2.1)).trans HS.out.2.1, below_step HS.out.2.2 hbd⟩
            have hS : ∀ V : World, V.heap[w3.heap.size]? = some (.cells #[.string (S R1.b), .int .i64 R1.e] 51 (0, 0)) → V.cell? ⟨w3.heap.size, 0, none⟩ = some (.string (S R1.b)) ∧ V.cell? ⟨w3.heap.size, 1, none⟩ = some (.int .i64 R1.e) := fun V k => ⟨(blk_cell k 0).trans rfl, (blk_cell k 1).trans rfl⟩
            have HSS := Aside0.mk hS
            have hq1 : (R1.e != R1.e) = false := by simp
            have hq2 : (R1.end_ != R1.end_) = false := by simp
            clear hbd hS
            refine start_ (n := 12) (S := fun w' => w'.cell? ⟨w3.heap.size, 0, none⟩ = some (.string (S R1.b)) ∧ w'.cell? ⟨w3.heap.size, 1, none⟩ = some (.int .i64 R1.e)) (ds := []) #[false, false, false, false, false, false, false, false, false, false, false, false] (by kernel_rfl) rfl rfl (by rw [← hwd]; exact HSS.out _ HD.out.2.1) (fun hHeld => ?_)
            rw [← hwd] at hHeld ⊢
            clear hwd
            refine pure_ (i := 0) (N := some 132) (v := ?_) (a' := ?_) #[true, false, false, false, false, false, false, false, false, false, false, false] rfl rfl (by kernel_rfl) (fun _ _ _ h => h) (Or.inl ⟨by rfl, ?_⟩) ?_ ?_
            rotate_left
            · intro w'
              go_simp
              with_reducible rfl
            rotate_left
            · simp only [Act.put, List.setIfInBounds_toArray, List.set_cons_zero, List.set_cons_succ, i64_w, i32_w]
              rfl
            refine pure_ (i := 2) (N := some 134) (v := ?_) (a' := ?_) #[true, false, true, false, false, false, false, false, false, false, false, false] rfl rfl (by kernel_rfl) (fun _ _ _ h => h) (Or.inl ⟨by rfl, ?_⟩) ?_ ?_
            rotate_left
            · intro w'
              go_simp
              with_reducible rfl
            rotate_left
            · simp only [Act.put, List.setIfInBounds_toArray, List.set_cons_zero, List.set_cons_succ, i64_w, i32_w]
              rfl
            refine take_ (i := 3) (N := some 135) (v := ?_) (a' := ?_) #[true, false, true, true, false, false, false, false, false, false, false, false] rfl rfl (by kernel_rfl) (fun _ _ _ h => h) (Or.inl ⟨by rfl, ?_⟩) hHeld ?_ ?_
            rotate_left
            · rintro w' ⟨s0, s1⟩
              go_simp
              with_reducible rfl
            rotate_left
            · simp only [Act.put, List.setIfInBounds_toArray, List.set_cons_zero, List.set_cons_succ, i64_w, i32_w]
              rfl
            refine one_ (i := 1) (N := some 133) #[true, true, true, true, false, false, false, false, false, false, false, false] rfl rfl (by kernel_rfl) (by decide) (fun K hK => ?_)
            refine goes_ Try.func24 (by kernel_rfl) rfl #[.pointer (some ⟨g, 0, none⟩)] (by rfl) rfl rfl (by (try simp only [List.map_toArray, List.map_cons, List.map_nil]); first | rfl | (go_simp; done)) ?_
            refine (err_calls HD.out.1).mono ?_
            rintro e w' ⟨rfl, rfl⟩
            refine ⟨_, rfl, ?_⟩
            refine hK.out _ _ (HSS.out _ HD.out.2.1) (fun hHeld => ?_)
            clear hK K
            refine norm_ (a' := ?_) ?_ ?_
            rotate_left
            · show Act.put _ (some 133) _ = _
              simp only [Act.put, List.setIfInBounds_toArray, List.set_cons_zero, List.set_cons_succ, i64_w, i32_w]
              rfl
            refine pure_ (i := 4) (N := some 136) (v := ?_) (a' := ?_) #[true, true, true, true, true, false, false, false, false, false, false, false] rfl rfl (by kernel_rfl) (fun _ _ _ h => h) (Or.inl ⟨by rfl, ?_⟩) ?_ ?_
            rotate_left
            · intro w'
              go_simp
              with_reducible rfl
            rotate_left
            · simp only [Act.put, List.setIfInBounds_toArray, List.set_cons_zero, List.set_cons_succ, i64_w, i32_w]
              rfl
            refine pure_ (i := 5) (N := some 137) (v := ?_) (a' := ?_) #[true, true, true, true, true, true, false, false, false, false, false, false] rfl rfl (by kernel_rfl) (fun _ _ _ h => h) (Or.inl ⟨by rfl, ?_⟩) ?_ ?_
            rotate_left
            · intro w'
              go_simp
              with_reducible rfl
            rotate_left
            · simp only [Act.put, List.setIfInBounds_toArray, List.set_cons_zero, List.set_cons_succ, i64_w, i32_w]
              rfl
            refine pure_ (i := 6) (N := some 138) (v := ?_) (a' := ?_) #[true, true, true, true, true, true, true, false, false, false, false, false] rfl rfl (by kernel_rfl) (fun _ _ _ h => h) (Or.inl ⟨by rfl, ?_⟩) ?_ ?_
            rotate_left
            · intro w'
              go_simp
              with_reducible rfl
            rotate_left
            · simp only [Act.put, List.setIfInBounds_toArray, List.set_cons_zero, List.set_cons_succ, i64_w, i32_w]
              rfl
            refine take_ (i := 8) (N := some 140) (v := ?_) (a' := ?_) #[true, true, true, true, true, true, true, false, true, false, false, false] rfl rfl (by kernel_rfl) (fun _ _ _ h => h) (Or.inl ⟨by rfl, ?_⟩) hHeld ?_ ?_
            rotate_left
            · rintro w' ⟨s0, s1⟩
              go_simp
              with_reducible rfl
            rotate_left
            · simp only [Act.put, List.setIfInBounds_toArray, List.set_cons_zero, List.set_cons_succ, i64_w, i32_w]
              rfl
            refine one_ (i := 7) (N := some 139) #[true, true, true, true, true, true, true, true, true, false, false, false] rfl rfl (by kernel_rfl) (by decide) (fun K hK => ?_)
            refine goes_ Try.func23 (by kernel_rfl) rfl #[.pointer (some ⟨g, 0, none⟩)] (by rfl) rfl rfl (by (try simp only [List.map_toArray, List.map_cons, List.map_nil]); first | rfl | (go_simp; done)) ?_
            refine (end_calls HD.out.1).mono ?_
            rintro e w' ⟨rfl, rfl⟩
            refine ⟨_, rfl, ?_⟩
            refine hK.out _ _ (HSS.out _ HD.out.2.1) (fun hHeld => ?_)
            clear hK K
            refine norm_ (a' := ?_) ?_ ?_
            rotate_left
            · show Act.put _ (some 139) _ = _
              simp only [Act.put, List.setIfInBounds_toArray, List.set_cons_zero, List.set_cons_succ, i64_w, i32_w]
              rfl
            refine one_ (i := 9) (N := some 141) #[true, true, true, true, true, true, true, true, true, true, false, false] rfl rfl (by kernel_rfl) (by decide) (fun K hK => ?_)
            refine goes_ Try.func31 (by kernel_rfl) rfl #[stV R1] (by rfl) rfl rfl (by (try simp only [List.map_toArray, List.map_cons, List.map_nil]); first | rfl | (go_simp; done)) ?_
            refine (ref_end (R := R1)).mono ?_
            rintro e w8 ⟨rfl, hb8⟩
            refine ⟨_, rfl, ?_⟩
            have k8 := (hb8.block _ (blk_lt HD.out.2.1)).trans HD.out.2.1
            refine hK.out _ _ (HSS.out _ k8) (fun hHeld => ?_)
            clear hK K
            refine norm_ (a' := ?_) ?_ ?_
            rotate_left
            · show Act.put _ (some 141) _ = _
              simp only [Act.put, List.setIfInBounds_toArray, List.set_cons_zero, List.set_cons_succ, i64_w, i32_w]
              rfl
            refine pure_ (i := 10) (N := some 142) (v := ?_) (a' := ?_) #[true, true, true, true, true, true, true, true, true, true, true, false] rfl rfl (by kernel_rfl) (fun _ _ _ h => h) (Or.inl ⟨by rfl, ?_⟩) ?_ ?_
            rotate_left
            · intro w'
              go_simp
              with_reducible rfl
            rotate_left
            · simp only [Act.put, List.setIfInBounds_toArray, List.set_cons_zero, List.set_cons_succ, i64_w, i32_w]
              rfl
            refine pure_ (i := 11) (N := some 143) (v := ?_) (a' := ?_) #[true, true, true, true, true, true, true, true, true, true, true, true] rfl rfl (by kernel_rfl) (fun _ _ _ h => h) (Or.inl ⟨by rfl, ?_⟩) ?_ ?_
            rotate_left
            · intro w'
              go_simp
              with_reducible rfl
            rotate_left
            · simp only [Act.put, List.setIfInBounds_toArray, List.set_cons_zero, List.set_cons_succ, i64_w, i32_w]
              rfl
            refine done_ (by kernel_rfl) ?_
            go_wp2
            go_roundg (m - (i + 1))
            case measure => omega
            case rel => exact ⟨i + 1, R1, by go_num, by omega, ⟨HD.out.1.below hb8, k8, below_step HD.out.2.2 hb8⟩⟩
        · obtain ⟨R1, hR1⟩ : ∃ R1, R1 = R.id.1 := ⟨_, rfl⟩
          obtain ⟨arr, harr⟩ : ∃ arr, arr = (nums .u8 R.id.2).toArray := ⟨_, rfl⟩
          have HR1 := Aside0.mk hR1
          have HA := Aside0.mk harr
          have dn := True.intro
          obtain ⟨e0, e1, e2, e3, e4⟩ := h5
          have q0 : (q5 == 0) = false := beq_eq_false_iff_ne.2 e0
          have q1 : (q5 == 1) = false := beq_eq_false_iff_ne.2 e1
          have q2 : (q5 == 2) = false := beq_eq_false_iff_ne.2 e2
          have q3 : (q5 == 3) = false := beq_eq_false_iff_ne.2 e3
          have q4 : (q5 == 4) = false := beq_eq_false_iff_ne.2 e4
          have hid : R.id.2.length = 32 := id_len R
          have heq : ∀ V : World, (Op.equalIn 10000 61 (.agg arr) (.agg arr)).run Try.prog V = .ok true V := fun V => by have h := eq_id R.id.2 R.id.2 hid hid V; rw [← harr] at h; simpa using h
          have HZ := Aside0.mk (id_arr hid harr)
          clear hR1 harr e0 e1 e2 e3 e4 hid
          go_upto_region 43 with (first
            | (go_at_call 29; go_loud (have hx := id_calls (w0 := w) (below_alloc hI.out.2.2 (.cells #[.int .i64 kd, .int .i64 nn] 53)) (fun k h => Nat.le_trans (below_size H1.out) h.1) (fun k h => by have h2 : k < w3.heap.size := h.2; have h3 := blk_lt hI.out.2.1; show k < (wr.alloc _).heap.size; simp; omega) (hI.out.1.below (below_alloc (Below.refl _ _) _)); rw [← HR1.out, ← HA.out] at hx; refine hx.mono ?_; clear hx; rintro e w5 ⟨rfl, hd5, hb5, hk5⟩; have k5 := rd_keep hI.out hgr hk5; obtain ⟨k51, c50, c51⟩ := k5; have ca1 := rd_keep3 hI.out hgr hk5; have H5 := Aside0.mk (And.intro hd5 (And.intro hb5 k51)); clear hd5 hb5 hk5 k51))
            | ((with_reducible refine gate_dst (N := 22) rfl ?_); go_loud (refine Kd.event_run (v := .pointer (some ⟨w5.heap.size, 0, none⟩)) (w1 := w5.alloc (.cells zidL.toArray 61)) rfl ?hr ?_; (case hr => first | (go_simp; done) | (go_simp; rfl))))
            | ((with_reducible refine gate_store (ty := 61) (x := .tmp 22) (y := .tmp 54) rfl ?_); refine wpList_store_row rfl 61 (.tmp 22) (.tmp 54) rfl w5.heap.size arr rfl rfl 61 zidL.toArray (blk_new w5 _) HZ.out.1 HZ.out.2.1 HZ.out.2.2 ?_; go_loud (refine wpName (fun W5 hW5 => ?_); have hbW5 : Below w5.heap.size w5 W5 := (by rw [hW5]; exact below_setRow (below_alloc (Below.refl _ _) _) (Nat.le_refl _) _); have kA : W5.heap[w5.heap.size]? = some (.cells arr 61 (0, 0)) := (by rw [hW5]; exact setRow_heap _ _ _ _ _ _ (blk_new w5 _)); obtain ⟨k5b, c52, c53, _, _, l5⟩ := rd_keep2 H5.out.2.2 hbW5; have HW5 := Aside0.mk (And.intro (H5.out.1.below hbW5) (And.intro (below_step H5.out.2.1 hbW5) (And.intro k5b kA))); clear hW5 hbW5 kA k5b))
            | (go_at_call 30; go_loud (have hx := ref_id (w := W5) HBY.out; rw [← HR1.out, ← HA.out] at hx; refine hx.mono ?_; clear hx; rintro e w6 ⟨rfl, hb6⟩; have H6 := Aside0.mk (And.intro (HW5.out.1.below hb6) (And.intro (below_step HW5.out.2.1 hb6) (And.intro ((hb6.block _ (blk_lt HW5.out.2.2.1)).trans HW5.out.2.2.1) ((hb6.block _ (blk_lt HW5.out.2.2.2)).trans HW5.out.2.2.2)))); clear hb6))
            | ((with_reducible refine gate_dst (N := 23) rfl ?_); go_loud (refine Kd.event_run (v := .pointer (some ⟨w6.heap.size, 0, none⟩)) (w1 := w6.alloc (.cells #[.string ByteArray.empty, .int .i64 0] 51)) rfl ?hr ?_; (case hr => first | (go_simp; done) | (go_simp; rfl))))
            | ((with_reducible refine gate_dst (N := 24) rfl ?_); go_loud (refine Kd.event_run (v := .pointer (some ⟨w6.heap.size + 1, 0, none⟩)) (w1 := (w6.alloc (.cells #[.string ByteArray.empty, .int .i64 0] 51)).alloc (.cells zidL.toArray 61)) rfl ?hr ?_; (case hr => first | (go_simp; done) | (go_simp; rfl))))
            | ((with_reducible refine gate_store (ty := 51) (x := .tmp 23) (y := .tmp 58) rfl ?_); refine wpList_store_row rfl 51 (.tmp 23) (.tmp 58) rfl w6.heap.size #[.string (S R1.b), .int .i64 R1.e] rfl rfl 51 _ (ids_1 w6) (by kernel_rfl) rfl (by simp [Value.oneCell']) ?_)
            | ((with_reducible refine gate_store (ty := 61) (x := .tmp 24) (y := .tmp 59) rfl ?_); refine wpList_store_row rfl 61 (.tmp 24) (.tmp 59) rfl (w6.heap.size + 1) arr rfl rfl 61 zidL.toArray (ids_2 w6 _) HZ.out.1 HZ.out.2.1 HZ.out.2.2 ?_; go_loud (refine wpName (fun W7 hW7 => ?_); obtain ⟨q1, q2, q3⟩ := ids_3 hW7; have l6 := blk_lt H6.out.2.2.1; have l5 := blk_lt H6.out.2.2.2; have n7 : w3.heap.size ≠ w6.heap.size := (by omega); obtain ⟨k7b, c70, c71, f70, f71, l7⟩ := rd_keep2 H6.out.2.2.1 q3; have kA7 := (q3.block _ l5).trans H6.out.2.2.2; have c230 : W7.cell? ⟨w6.heap.size, 0, none⟩ = some (.string (S R1.b)) := (blk_cell q1 0).trans rfl; have c231 : W7.cell? ⟨w6.heap.size, 1, none⟩ = some (.int .i64 R1.e) := (blk_cell q1 1).trans rfl; have HW7 := Aside0.mk (And.intro (H6.out.1.below q3) (And.intro (below_step H6.out.2.1 q3) (And.intro k7b (And.intro kA7 (And.intro q2 (And.intro (And.intro (show w5.heap.size ≠ w3.heap.size by have := blk_lt H5.out.2.2; omega) (show w6.heap.size + 1 ≠ w3.heap.size by omega)) n7)))))); clear hW7 q1 q2 q3 k7b kA7 n7 l5))
            | ((with_reducible refine gate_dst (N := 61) rfl ?_); refine wpList_load_row rfl 61 (.tmp 22) rfl w5.heap.size rfl 61 arr (0, 0) _ (blk_far (p := ⟨w3.heap.size, 1, none⟩) (blk_far (p := ⟨w3.heap.size, 0, none⟩) HW7.out.2.2.2.1 HW7.out.2.2.2.2.2.1.1 _) HW7.out.2.2.2.2.2.1.1 _) Try.underlying61 rfl HZ.out.1 ?_)
            | ((with_reducible refine gate_dst (N := 62) rfl ?_); refine wpList_load_row rfl 61 (.tmp 24) rfl (w6.heap.size + 1) rfl 61 arr (0, 0) _ (blk_far (p := ⟨w3.heap.size, 1, none⟩) (blk_far (p := ⟨w3.heap.size, 0, none⟩) HW7.out.2.2.2.2.1 HW7.out.2.2.2.2.2.1.2 _) HW7.out.2.2.2.2.2.1.2 _) Try.underlying61 rfl HZ.out.1 ?_))
          refine nameW (fun W hW => ?_)
          have HS : Aside0 (RdI w w1 w3 W g R1) := ⟨by rw [hW]; exact rd_end0 HW7.out.1 HW7.out.2.1 HW7.out.2.2.1 (by have := below_size (below_step H1.out H3.out.2); omega)⟩
          clear hW H5 H6 HW5 HW7 dn heq
          obtain ⟨wd, hwd⟩ : ∃ wd, wd = W.drew := ⟨_, rfl⟩
          have hbd : Below W.heap.size W wd := by rw [hwd]; exact below_drew1 (Below.refl _ _)
          have HD : Aside0 (RdI w w1 w3 wd g R1) := ⟨HS.out.1.below hbd, (hbd.block _ (blk_lt HS.out.2.1)).trans HS.out.2.1, below_step HS.out.2.2 hbd⟩
          have hS : ∀ V : World, V.heap[w3.heap.size]? = some (.cells #[.string (S R1.b), .int .i64 R1.e] 51 (0, 0)) → V.cell? ⟨w3.heap.size, 0, none⟩ = some (.string (S R1.b)) ∧ V.cell? ⟨w3.heap.size, 1, none⟩ = some (.int .i64 R1.e) := fun V k => ⟨(blk_cell k 0).trans rfl, (blk_cell k 1).trans rfl⟩
          have HSS := Aside0.mk hS
          have hq1 : (R1.e != R1.e) = false := by simp
          have hq2 : (R1.end_ != R1.end_) = false := by simp
          clear hbd hS
          refine start_ (n := 12) (S := fun w' => w'.cell? ⟨w3.heap.size, 0, none⟩ = some (.string (S R1.b)) ∧ w'.cell? ⟨w3.heap.size, 1, none⟩ = some (.int .i64 R1.e)) (ds := []) #[false, false, false, false, false, false, false, false, false, false, false, false] (by kernel_rfl) rfl rfl (by rw [← hwd]; exact HSS.out _ HD.out.2.1) (fun hHeld => ?_)
          rw [← hwd] at hHeld ⊢
          clear hwd
          refine pure_ (i := 0) (N := some 132) (v := ?_) (a' := ?_) #[true, false, false, false, false, false, false, false, false, false, false, false] rfl rfl (by kernel_rfl) (fun _ _ _ h => h) (Or.inl ⟨by rfl, ?_⟩) ?_ ?_
          rotate_left
          · intro w'
            go_simp
            with_reducible rfl
          rotate_left
          · simp only [Act.put, List.setIfInBounds_toArray, List.set_cons_zero, List.set_cons_succ, i64_w, i32_w]
            rfl
          refine pure_ (i := 2) (N := some 134) (v := ?_) (a' := ?_) #[true, false, true, false, false, false, false, false, false, false, false, false] rfl rfl (by kernel_rfl) (fun _ _ _ h => h) (Or.inl ⟨by rfl, ?_⟩) ?_ ?_
          rotate_left
          · intro w'
            go_simp
            with_reducible rfl
          rotate_left
          · simp only [Act.put, List.setIfInBounds_toArray, List.set_cons_zero, List.set_cons_succ, i64_w, i32_w]
            rfl
          refine take_ (i := 3) (N := some 135) (v := ?_) (a' := ?_) #[true, false, true, true, false, false, false, false, false, false, false, false] rfl rfl (by kernel_rfl) (fun _ _ _ h => h) (Or.inl ⟨by rfl, ?_⟩) hHeld ?_ ?_
          rotate_left
          · rintro w' ⟨s0, s1⟩
            go_simp
            with_reducible rfl
          rotate_left
          · simp only [Act.put, List.setIfInBounds_toArray, List.set_cons_zero, List.set_cons_succ, i64_w, i32_w]
            rfl
          refine one_ (i := 1) (N := some 133) #[true, true, true, true, false, false, false, false, false, false, false, false] rfl rfl (by kernel_rfl) (by decide) (fun K hK => ?_)
          refine goes_ Try.func24 (by kernel_rfl) rfl #[.pointer (some ⟨g, 0, none⟩)] (by rfl) rfl rfl (by (try simp only [List.map_toArray, List.map_cons, List.map_nil]); first | rfl | (go_simp; done)) ?_
          refine (err_calls HD.out.1).mono ?_
          rintro e w' ⟨rfl, rfl⟩
          refine ⟨_, rfl, ?_⟩
          refine hK.out _ _ (HSS.out _ HD.out.2.1) (fun hHeld => ?_)
          clear hK K
          refine norm_ (a' := ?_) ?_ ?_
          rotate_left
          · show Act.put _ (some 133) _ = _
            simp only [Act.put, List.setIfInBounds_toArray, List.set_cons_zero, List.set_cons_succ, i64_w, i32_w]
            rfl
          refine pure_ (i := 4) (N := some 136) (v := ?_) (a' := ?_) #[true, true, true, true, true, false, false, false, false, false, false, false] rfl rfl (by kernel_rfl) (fun _ _ _ h => h) (Or.inl ⟨by rfl, ?_⟩) ?_ ?_
          rotate_left
          · intro w'
            go_simp
            with_reducible rfl
          rotate_left
          · simp only [Act.put, List.setIfInBounds_toArray, List.set_cons_zero, List.set_cons_succ, i64_w, i32_w]
            rfl
          refine pure_ (i := 5) (N := some 137) (v := ?_) (a' := ?_) #[true, true, true, true, true, true, false, false, false, false, false, false] rfl rfl (by kernel_rfl) (fun _ _ _ h => h) (Or.inl ⟨by rfl, ?_⟩) ?_ ?_
          rotate_left
          · intro w'
            go_simp
            with_reducible rfl
          rotate_left
          · simp only [Act.put, List.setIfInBounds_toArray, List.set_cons_zero, List.set_cons_succ, i64_w, i32_w]
            rfl
          refine pure_ (i := 6) (N := some 138) (v := ?_) (a' := ?_) #[true, true, true, true, true, true, true, false, false, false, false, false] rfl rfl (by kernel_rfl) (fun _ _ _ h => h) (Or.inl ⟨by rfl, ?_⟩) ?_ ?_
          rotate_left
          · intro w'
            go_simp
            with_reducible rfl
          rotate_left
          · simp only [Act.put, List.setIfInBounds_toArray, List.set_cons_zero, List.set_cons_succ, i64_w, i32_w]
            rfl
          refine take_ (i := 8) (N := some 140) (v := ?_) (a' := ?_) #[true, true, true, true, true, true, true, false, true, false, false, false] rfl rfl (by kernel_rfl) (fun _ _ _ h => h) (Or.inl ⟨by rfl, ?_⟩) hHeld ?_ ?_
          rotate_left
          · rintro w' ⟨s0, s1⟩
            go_simp
            with_reducible rfl
          rotate_left
          · simp only [Act.put, List.setIfInBounds_toArray, List.set_cons_zero, List.set_cons_succ, i64_w, i32_w]
            rfl
          refine one_ (i := 7) (N := some 139) #[true, true, true, true, true, true, true, true, true, false, false, false] rfl rfl (by kernel_rfl) (by decide) (fun K hK => ?_)
          refine goes_ Try.func23 (by kernel_rfl) rfl #[.pointer (some ⟨g, 0, none⟩)] (by rfl) rfl rfl (by (try simp only [List.map_toArray, List.map_cons, List.map_nil]); first | rfl | (go_simp; done)) ?_
          refine (end_calls HD.out.1).mono ?_
          rintro e w' ⟨rfl, rfl⟩
          refine ⟨_, rfl, ?_⟩
          refine hK.out _ _ (HSS.out _ HD.out.2.1) (fun hHeld => ?_)
          clear hK K
          refine norm_ (a' := ?_) ?_ ?_
          rotate_left
          · show Act.put _ (some 139) _ = _
            simp only [Act.put, List.setIfInBounds_toArray, List.set_cons_zero, List.set_cons_succ, i64_w, i32_w]
            rfl
          refine one_ (i := 9) (N := some 141) #[true, true, true, true, true, true, true, true, true, true, false, false] rfl rfl (by kernel_rfl) (by decide) (fun K hK => ?_)
          refine goes_ Try.func31 (by kernel_rfl) rfl #[stV R1] (by rfl) rfl rfl (by (try simp only [List.map_toArray, List.map_cons, List.map_nil]); first | rfl | (go_simp; done)) ?_
          refine (ref_end (R := R1)).mono ?_
          rintro e w8 ⟨rfl, hb8⟩
          refine ⟨_, rfl, ?_⟩
          have k8 := (hb8.block _ (blk_lt HD.out.2.1)).trans HD.out.2.1
          refine hK.out _ _ (HSS.out _ k8) (fun hHeld => ?_)
          clear hK K
          refine norm_ (a' := ?_) ?_ ?_
          rotate_left
          · show Act.put _ (some 141) _ = _
            simp only [Act.put, List.setIfInBounds_toArray, List.set_cons_zero, List.set_cons_succ, i64_w, i32_w]
            rfl
          refine pure_ (i := 10) (N := some 142) (v := ?_) (a' := ?_) #[true, true, true, true, true, true, true, true, true, true, true, false] rfl rfl (by kernel_rfl) (fun _ _ _ h => h) (Or.inl ⟨by rfl, ?_⟩) ?_ ?_
          rotate_left
          · intro w'
            go_simp
            with_reducible rfl
          rotate_left
          · simp only [Act.put, List.setIfInBounds_toArray, List.set_cons_zero, List.set_cons_succ, i64_w, i32_w]
            rfl
          refine pure_ (i := 11) (N := some 143) (v := ?_) (a' := ?_) #[true, true, true, true, true, true, true, true, true, true, true, true] rfl rfl (by kernel_rfl) (fun _ _ _ h => h) (Or.inl ⟨by rfl, ?_⟩) ?_ ?_
          rotate_left
          · intro w'
            go_simp
            with_reducible rfl
          rotate_left
          · simp only [Act.put, List.setIfInBounds_toArray, List.set_cons_zero, List.set_cons_succ, i64_w, i32_w]
            rfl
          refine done_ (by kernel_rfl) ?_
          go_wp2
          go_roundg (m - (i + 1))
          case measure => omega
          case rel => exact ⟨i + 1, R1, by go_num, by omega, ⟨HD.out.1.below hb8, k8, below_step HD.out.2.2 hb8⟩⟩
      · have hb := hI.out.2.2
        have HB := Aside0.mk hb
        clear hI hb
        by_cases him : i < m
        · have d2 : decide ((i : Int) < (m : Int)) = true := decide_eq_true (by omega)
          have d2n : decide (i < m) = true := decide_eq_true (by omega)
          have d3 : decide ((i : Int) < 40) = false := decide_eq_false (by omega)
          go_wp2
          go_ret
          exact ⟨rfl, HB.out⟩
        · have d2 : decide ((i : Int) < (m : Int)) = false := decide_eq_false (by omega)
          have d2n : decide (i < m) = false := decide_eq_false (by omega)
          go_wp2
          go_ret
          exact ⟨rfl, HB.out⟩
theorem reads_row {H : Type} {enc : TypeId × Value → H} {base : Nat} {spare : Nat → Bool} {held : Bool} {a : Option Addr} {len cap : Nat} {zs : List Int} (h : InRow w a len cap zs) (hl : len * 1 ≤ 140737488351232) {B : Option Addr} {m d : Nat} {dd : DataW H} {p : List MemPlace} (hB : DataW.Trod enc Try.prog w base spare held 49 (.slice B m d) dd p) :
    Calls Try.prog 7 #[.slice a len cap, .slice B m d] w fun e w' => e = .returned (.bool true) ∧ Below w.heap.size w w' := by
  obtain ⟨xs, h1, h2, h3, h4, h5⟩ := row_bytes h hl
  obtain ⟨l, e1, e2, e3, e4⟩ := open_pairs Try.underlying49 Try.underlying53 (by kernel_rfl) rfl rfl rfl rfl Try.underlying3 (by kernel_rfl) hB
  exact reads_law a len cap h1 h2 h3 h4 h5 B m d l e1 e2 e4
end
end Go.Proofs.Ytlcanfniphdelaa.Cod
