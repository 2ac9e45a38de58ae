/- WalPlays' switch: its code, taken out of the function by two small functions, and the act in its variable. -/
import Derived.Test.YtnajdnhgoakgaaaPl9
import Derived.Test.YtnajdnhgoakgaaaOpen9
import Derived.Test.YtnajdnhgoakgaaaAwk9
section
namespace Go.Proofs.Ytnajdnhgoakgaaa.Blk
open Go.RowKit Go.Proofs.YtnajdnhgoakgaaaW.PrintWords Go.Proofs.YtnajdnhgoakgaaaW.PrintLast Go.Proofs.YtnajdnhgoakgaaaW.PrintMore Go.Proofs.Ytnajdnhgoakgaaa.Mem Go.Proofs.Ytnajdnhgoakgaaa.Open Go.Proofs.Ytnajdnhgoakgaaa.Wal
set_option linter.unusedVariables false
set_option maxRecDepth 100000
/-- The block with this number. -/
def findBlk (k : Nat) : Code → Option Code
  | .block n c => if n = k then some (.block n c) else findBlk k c
  | .loop c => findBlk k c
  | .scope c => findBlk k c
  | .seq a b => match findBlk k a with
    | some c => some c
    | none => findBlk k b
  | .cond _ a b => match findBlk k a with
    | some c => some c
    | none => findBlk k b
  | _ => none
def isReg (k : Nat) : Code → Bool
  | .region n _ _ => Nat.beq n k
  | _ => false
/-- The sequence that begins with the region of this number. -/
def findSeq (k : Nat) : Code → Option Code
  | .block _ c => findSeq k c
  | .loop c => findSeq k c
  | .scope c => findSeq k c
  | .seq a b => if isReg k a = true then some (.seq a b) else match findSeq k a with
    | some c => some c
    | none => findSeq k b
  | .cond _ a b => match findSeq k a with
    | some c => some c
    | none => findSeq k b
  | _ => none
noncomputable def kcode : Code := ((Try.f12.body.bind (findBlk 2)).getD .skip)
noncomputable def tcode : Code := ((Try.f12.body.bind (findSeq 42)).getD .skip)
/-! ### an act in its variable -/
def Act9Box (w : World) (g : Nat) (qk qi : Int) (B : Option Addr) (bl bc : Nat) (qn qt : Int) : Prop := w.heap[g]? = some (.cells #[.int .i64 qk, .int .i64 qi, .slice B bl bc, .int .i64 qn, .int .i64 qt] 79 (0, 0))
section
variable {ops : Array Oper} {rest : List Oper} {o : Oper} {a : Act} {Q : Exit → Act → World → Prop} {W : World}
theorem Act9Box.below {w w' : World} {b : Nat} {qk qi qn qt : Int} {B : Option Addr} {bl bc : Nat} (h : Act9Box w b qk qi B bl bc qn qt) (hb : Below w.heap.size w w') : Act9Box w' b qk qi B bl bc qn qt := (hb.block _ (blk_lt h)).trans h
theorem act9_new (hgd : o.guard = none) (hrun : (execOp a.eval o).run Try.prog W = .ok (.value (.pointer (some ⟨W.heap.size, 0, none⟩))) (W.alloc (.cells #[.int .i64 0, .int .i64 0, .slice none 0 0, .int .i64 0, .int .i64 0] 79)))
    (h : ∀ W', Act9Box W' W.heap.size 0 0 none 0 0 0 0 → Below W.heap.size W W' → wpList Try.prog ops Q rest (a.put o.dst (.pointer (some ⟨W.heap.size, 0, none⟩))) W') : wpList Try.prog ops Q (o :: rest) a W :=
  Kd.event_run hgd hrun (h _ (blk_new W _) (below_alloc (Below.refl _ _) _))
theorem act9_put {qk qi qn qt k0 i0 n0 t0 : Int} {B B0 : Option Addr} {bl bc bl0 bc0 : Nat} (hgd : o.guard = none) (x y : Operand) (ho : o.op = .store 79 x y) {g : Nat} (hx : a.eval x = .pointer (some ⟨g, 0, none⟩)) (hy : a.eval y = .agg #[.int .i64 qk, .int .i64 qi, .slice B bl bc, .int .i64 qn, .int .i64 qt]) (hb : Act9Box W g k0 i0 B0 bl0 bc0 n0 t0)
    (h : ∀ W', Act9Box W' g qk qi B bl bc qn qt → (∀ (B : Nat) (w0 : World), B ≤ g → Below B w0 W → Below B w0 W') → wpList Try.prog ops Q rest (a.put o.dst undef) W') : wpList Try.prog ops Q (o :: rest) a W :=
  wpList_store_row hgd 79 x y ho g #[.int .i64 qk, .int .i64 qi, .slice B bl bc, .int .i64 qn, .int .i64 qt] hx hy 79 _ hb (by kernel_rfl) rfl (by simp [Value.oneCell'])
    (h _ (setRow_heap W g _ _ _ _ hb) (fun B w0 hB h => below_setRow h hB _))
end
end Go.Proofs.Ytnajdnhgoakgaaa.Blk
end
section
namespace Go.Proofs.Ytnajdnhgoakgaaa.Blk
open Go.RowKit Go.Proofs.YtnajdnhgoakgaaaW.PrintWords Go.Proofs.YtnajdnhgoakgaaaW.PrintLast Go.Proofs.YtnajdnhgoakgaaaW.PrintMore Go.Proofs.Ytnajdnhgoakgaaa.Mem Go.Proofs.Ytnajdnhgoakgaaa.Open Go.Proofs.Ytnajdnhgoakgaaa.Wal
set_option linter.unusedVariables false
set_option linter.unusedSimpArgs false
set_option maxRecDepth 100000
set_option maxHeartbeats 8000000
theorem kind_add {w w7 : World} {fr n l : Int} {m c i : Nat} {ad : Addr} {gd ga gb gl g19 : Nat} {er : Int} {E : Nat → Prop} {Av Au : Option Addr} {nv cv nu cu : Nat} {D : DM} {L : Wal.LM} {B : Option Addr} {bl bc : Nat} {qk qi qn qt q7 : Int} {qb : List Int}
    (hl : 0 ≤ l ∧ l ≤ 18446744073709551615) (hqe : bits .and .i64 qk 7 = q7)
    (HS : Aside0 (P9 w w7 E ga gb (.slice Av nv cv) (.slice Au nu cu) D (refl_ L) ∧ Wal.Sys w w7 E gd gl D L ∧ Nz L))
    (HA : Aside0 (Act9Box w7 g19 qk qi B bl bc qn qt ∧ (¬ E g19 ∧ g19 ≠ ga ∧ g19 ≠ gb ∧ ¬ Own (.slice Av nv cv) g19 ∧ ¬ Own (.slice Au nu cu) g19 ∧ w.heap.size ≤ g19)))
    (HO : Aside0 ((⟨qk, qi, qb, qn, qt⟩ : A9).Ok ∧ Kd.C (Kd.int .u8) w B qb.length qb ∧ bl = qb.length ∧ bl ≤ bc ∧ bl ≤ 500))
    (a0 : w7.cell? ⟨g19, 0, none⟩ = some (.int .i64 qk)) (a1 : w7.cell? ⟨g19, 1, none⟩ = some (.int .i64 qi)) (a2 : w7.cell? ⟨g19, 2, none⟩ = some (.slice B bl bc)) (a3 : w7.cell? ⟨g19, 3, none⟩ = some (.int .i64 qn)) (a4 : w7.cell? ⟨g19, 4, none⟩ = some (.int .i64 qt)) (h02 : q7 = 0 ∨ q7 = 1 ∨ q7 = 2)
    (c8 c20 c21 c22 c23 c24 c25 c26 c27 c28 c29 c30 c31 c32 c33 c34 c35 c36 c37 c38 c39 c40 c41 c42 c43 c44 c45 c46 c47 c48 c49 c50 c51 c52 c53 c54 c55 c57 c58 c59 c60 c61 c62 c63 c64 c65 c66 c67 c68 c69 c70 c71 c72 c73 c74 c75 c76 c77 c78 c79 c80 c82 c83 c84 c85 c86 c87 c88 c89 c90 c91 c92 c93 c94 c95 c96 c97 c98 c99 c100 c101 c102 c103 c104 c105 c106 c107 c108 c109 c110 c111 c112 c113 c114 c115 c116 c117 c118 c119 c120 c121 c122 c123 c124 c125 c126 c127 c128 c129 c130 c131 c132 c133 c134 c135 c136 c137 c138 c139 c140 c141 c142 c143 c144 c145 c146 c147 c148 c149 c150 c151 c152 c153 c154 c155 c156 c157 c158 c159 c160 c161 c162 c163 c164 c165 c166 c167 c168 c169 c170 c171 c172 c173 c174 c175 c176 c177 c178 c179 c180 c181 c182 c183 c184 c185 c186 c187 c188 c189 c190 c191 c192 c193 c194 c195 c196 c197 c198 c199 c200 c201 c202 c203 c204 c205 c206 c207 c208 c209 c210 c211 c212 c213 c214 c215 c216 c217 c218 c219 c220 c221 c222 c223 c224 c225 c226 c227 c228 c229 c230 c231 c232 c233 c234 c235 c236 c237 c238 c239 : Value) (J K' : Act → World → Prop) (Q1 : Exit → Act → World → Prop)
    (hJ : ∀ (a' : Act) (w' : World), (∃ u8 u14 u15 u17 u20 u21 u57 u58 u59 u60 u61 u62 u63 u64 u65 u66 u67 u68 u69 u70 u71 u72 u73 u74 u75 u76 u77 u78 u79 u80 u82 u83 u84 u85 u86 u87 u88 u89 u90 u91 u92 u93 u94 u95 u96 u97 u98 u99 u100 u101 u102 u103 u104 u105 u106 u107 u108 u109 u110 u111 u112 u113 u114 u115 u116 u117 u118 u119 u120 u121 u122 u123 u124 u125 u126 u127 u128 u129 u130 u131 u132 u133 u134 u135 u136 u137 u138 u139 u140 u141 u142 u143 u144 u145 u146 u147 u148 u149 u150 u151 u152 u153 u154 u155 u156 u157 u158 u159 u160 u161 u162 u163 u164 u165 u166 u167 u168 u169 u170 u171 u172 u173 u174 u175 u176 u177 u178 u179 u180 u181 u182 u183 u184 u185 u186 u187 u188 u189 u190 u191 u192 u193 u194 u195 u196 u197 u198 u199 u200 u201 u202 u203 u204 u205 u206 u207 u208 u209 u210 u211 u212 u213 u214 u215 u216 u217 u218 u219 u220 u221 u222 u223 u224 u225 u226 u227 u228 u229 u230 u231 u232 u233 u234 u235 u236 u237 u238 u239 : Value, (∃ (er : Int) (E : Nat → Prop) (Av Au : Option Addr) (nv cv nu cu : Nat) (D : DM) (R : RL), u15 = .int .i64 er ∧ u17 = .int .i64 er ∧ Aside0 (P9 w w' E ga gb (.slice Av nv cv) (.slice Au nu cu) D R ∧ LogV w w' E gd u14 D R)) ∧ a' = ⟨#[.int .i64 fr, .int .i64 n, .int .u64 l, .slice (some ad) m c, undef, undef, undef, undef, u8, .bool true, .pointer (some ⟨gd, 0, none⟩), .int .i64 0, .pointer (some ⟨ga, 0, none⟩), .int .i64 0, u14, u15, .pointer (some ⟨gb, 0, none⟩), u17, .int .i64 (i : Int), .pointer (some ⟨g19, 0, none⟩), u20, u21, c22, c23, c24, c25, c26, c27, c28, c29, c30, c31, c32, c33, c34, c35, c36, c37, c38, c39, c40, c41, c42, c43, c44, c45, c46, c47, c48, c49, c50, c51, c52, c53, c54, c55, .bool false, u57, u58, u59, u60, u61, u62, u63, u64, u65, u66, u67, u68, u69, u70, u71, u72, u73, u74, u75, u76, u77, u78, u79, u80, .int .i64 q7, u82, u83, u84, u85, u86, u87, u88, u89, u90, u91, u92, u93, u94, u95, u96, u97, u98, u99, u100, u101, u102, u103, u104, u105, u106, u107, u108, u109, u110, u111, u112, u113, u114, u115, u116, u117, u118, u119, u120, u121, u122, u123, u124, u125, u126, u127, u128, u129, u130, u131, u132, u133, u134, u135, u136, u137, u138, u139, u140, u141, u142, u143, u144, u145, u146, u147, u148, u149, u150, u151, u152, u153, u154, u155, u156, u157, u158, u159, u160, u161, u162, u163, u164, u165, u166, u167, u168, u169, u170, u171, u172, u173, u174, u175, u176, u177, u178, u179, u180, u181, u182, u183, u184, u185, u186, u187, u188, u189, u190, u191, u192, u193, u194, u195, u196, u197, u198, u199, u200, u201, u202, u203, u204, u205, u206, u207, u208, u209, u210, u211, u212, u213, u214, u215, u216, u217, u218, u219, u220, u221, u222, u223, u224, u225, u226, u227, u228, u229, u230, u231, u232, u233, u234, u235, u236, u237, u238, u239], []⟩) → J a' w') (hK : ∀ (a' : Act) (w' : World), Met J a' w' → K' a' w') :
    Code.wp Try.prog kcode (Exit.then K' Q1) ⟨#[.int .i64 fr, .int .i64 n, .int .u64 l, .slice (some ad) m c, undef, undef, undef, undef, c8, .bool true, .pointer (some ⟨gd, 0, none⟩), .int .i64 0, .pointer (some ⟨ga, 0, none⟩), .int .i64 0, .pointer (some ⟨gl, 0, none⟩), .int .i64 er, .pointer (some ⟨gb, 0, none⟩), .int .i64 er, .int .i64 (i : Int), .pointer (some ⟨g19, 0, none⟩), c20, c21, c22, c23, c24, c25, c26, c27, c28, c29, c30, c31, c32, c33, c34, c35, c36, c37, c38, c39, c40, c41, c42, c43, c44, c45, c46, c47, c48, c49, c50, c51, c52, c53, c54, c55, .bool false, c57, c58, c59, c60, c61, c62, c63, c64, c65, c66, c67, c68, c69, c70, c71, c72, c73, c74, c75, c76, c77, c78, c79, c80, .int .i64 q7, c82, c83, c84, c85, c86, c87, c88, c89, c90, c91, c92, c93, c94, c95, c96, c97, c98, c99, c100, c101, c102, c103, c104, c105, c106, c107, c108, c109, c110, c111, c112, c113, c114, c115, c116, c117, c118, c119, c120, c121, c122, c123, c124, c125, c126, c127, c128, c129, c130, c131, c132, c133, c134, c135, c136, c137, c138, c139, c140, c141, c142, c143, c144, c145, c146, c147, c148, c149, c150, c151, c152, c153, c154, c155, c156, c157, c158, c159, c160, c161, c162, c163, c164, c165, c166, c167, c168, c169, c170, c171, c172, c173, c174, c175, c176, c177, c178, c179, c180, c181, c182, c183, c184, c185, c186, c187, c188, c189, c190, c191, c192, c193, c194, c195, c196, c197, c198, c199, c200, c201, c202, c203, c204, c205, c206, c207, c208, c209, c210, c211, c212, c213, c214, c215, c216, c217, c218, c219, c220, c221, c222, c223, c224, c225, c226, c227, c228, c229, c230, c231, c232, c233, c234, c235, c236, c237, c238, c239], []⟩ w7 := by
  conv => arg 2; whnf
  clear hl hqe a0 a1 a3 a4
  have hq5 : qb.length ≤ 500 := by rw [← HO.out.2.2.1]; exact HO.out.2.2.2.2
  have hq6 : qb.length ≤ 100000 := Nat.le_trans hq5 (by decide)
  have hyb : Byt qb := HO.out.1.2.2.2.2
  obtain ⟨D', hD'⟩ : ∃ x, x = (addM D L qb).1 := ⟨_, rfl⟩
  obtain ⟨L', hL'⟩ : ∃ x, x = (addM D L qb).2.1 := ⟨_, rfl⟩
  obtain ⟨y, hy⟩ : ∃ x, x = (addM D L qb).2.2 := ⟨_, rfl⟩
  have HY := Aside0.mk (And.intro hD' (And.intro hL' hy))
  clear hD' hL' hy
  rcases h02 with rfl | rfl | rfl
  all_goals
    go_wp2_with (first
      | (go_at_call 30; go_loud (have hx := HS.out.2.1.add (A := B) (c := bc) (b := qb) (by rw [← HO.out.2.2.1]; exact Kd.C_kept_came (Kd.heap_int .u8) (by rw [HO.out.2.2.1]; exact HO.out.2.1) HS.out.1.bl (fun k hk => (HS.out.2.1.ed k hk).1)) (by rw [← HO.out.2.2.1]; exact HO.out.2.2.2.1) (by omega) hyb; rw [← HY.out.1, ← HY.out.2.1, ← HY.out.2.2, ← HO.out.2.2.1] at hx; refine hx.mono ?_; clear hx; rintro e w8 ⟨rfl, hs8, hk8⟩; dsimp only; have H8 := Aside0.mk (And.intro (HS.out.1.prog hk8 hs8.bl) (And.intro hs8 (blk_kept HA.out.1 hk8 HA.out.2.1))); have a2' : w8.cell? ⟨g19, 2, none⟩ = some (.slice B bl bc) := (blk_cell H8.out.2.2 2).trans rfl; have hcv := conv_nums (wd := w8) (c := bc) (n := bl) HO.out.1.2.2.2.2 HO.out.2.2.1 HO.out.2.1 hs8.bl; clear a2 hs8 hk8))
      | ((with_reducible refine gate_dst (N := 134) rfl ?_); refine box_load (v := .slice Av nv cv) (D := D) (g := ga) ?hg (.tmp 12) ?ho ?hx ?hb ?_; (case hg => rfl); (case ho => rfl); (case hx => rfl); (case hb => exact H8.out.1.a))
      | ((with_reducible refine gate_dst (N := 135) rfl ?_); refine lbox_load (v := .slice Au nu cu) (R := refl_ L) (g := gb) ?hg (.tmp 16) ?ho ?hx ?hb ?_; (case hg => rfl); (case ho => rfl); (case hx => rfl); (case hb => exact H8.out.1.b))
      | (go_at_call 43; go_loud (have hx := radd_calls (b := qb) H8.out.1.pre HS.out.2.1.ok HS.out.2.1.lok HS.out.2.2 hyb hq6; rw [← HY.out.1, ← HY.out.2.1, ← HY.out.2.2] at hx; refine hx.mono ?_; clear hx hcv a2'; rintro e w9 ⟨v9, u9, rfl, hp9⟩; dsimp only; obtain ⟨A9, c9, rfl, _, _⟩ := Kd.R_reads hp9.vr; obtain ⟨B9, d9, rfl, _, _⟩ := Kd.R_reads hp9.ur; obtain ⟨na, hna⟩ : ∃ x, x = D'.L.length := ⟨_, rfl⟩; obtain ⟨nb, hnb⟩ : ∃ x, x = (refl_ L').l.length := ⟨_, rfl⟩; rw [← hna, ← hnb] at hp9 ⊢; have hlt := H8.out.1; have H9 := Aside0.mk (And.intro hp9 (And.intro (hlt.a.kept hp9.kp (fun h => (hlt.vo ga h).1 rfl)) (hlt.b.kept hp9.kp (fun h => (hlt.vo gb h).2.1 rfl)))); clear hp9 hlt hna hnb))
      | ((with_reducible refine gate_store (ty := 30) (x := .tmp 12) (y := .tmp 140) rfl ?_); refine box_put (D' := D') ?hg (.tmp 12) (.tmp 140) ?ho (g := ga) (n := na) (c := c9) (A := A9) ?hx ?hy H9.out.2.1 ?_; (case hg => rfl); (case ho => rfl); (case hx => rfl); (case hy => rfl); go_loud (intro wa hba hka hbla hsa; have hgg := H8.out.1.g; have Ha := Aside0.mk (And.intro hba (And.intro hka (And.intro (hbla _ _ hgg.1 H9.out.1.bl) (H9.out.2.2.kept hka (show ¬ gb = ga by omega))))); clear hba hka hbla hsa hgg))
      | ((with_reducible refine gate_store (ty := 75) (x := .tmp 16) (y := .tmp 141) rfl ?_); refine lbox_put (R' := refl_ L') ?hg (.tmp 16) (.tmp 141) ?ho (g := gb) (n := nb) (c := d9) (A := B9) ?hx ?hy Ha.out.2.2.2 ?_; (case hg => rfl); (case ho => rfl); (case hx => rfl); (case hy => rfl); go_loud (intro wb hbb hkb hblb hsb; have hgg := H8.out.1.g; have Hb := Aside0.mk (And.intro hbb (And.intro hkb (hblb _ _ (show w.heap.size ≤ gb by omega) Ha.out.2.2.1))); clear hbb hkb hblb hsb hgg)))
    go_meet
    case rel =>
      have hP := H8.out.1.add H9.out.1 Ha.out.2.1 Ha.out.1 Hb.out.2.1 Hb.out.1 Hb.out.2.2
      have hX := H8.out.1
      refine ⟨y, _, _, _, _, _, _, _, D', refl_ L', rfl, rfl, ⟨hP, .inr ⟨gl, L', rfl, ?_, rfl, by rw [HY.out.2.1]; exact nz_added HS.out.2.2⟩⟩⟩
      have s1 := H8.out.2.1.kept H9.out.1.kp (fun k he hv => (hX.vo k hv).2.2.1 he) H9.out.1.bl
      have s2 := s1.kept Ha.out.2.1 (fun k he e => hX.ea (by rw [← e]; exact he)) Ha.out.2.2.1
      exact s2.kept Hb.out.2.1 (fun k he e => hX.eb (by rw [← e]; exact he)) Hb.out.2.2
end Go.Proofs.Ytnajdnhgoakgaaa.Blk
end
section
namespace Go.Proofs.Ytnajdnhgoakgaaa.Blk
open Go.RowKit Go.Proofs.YtnajdnhgoakgaaaW.PrintWords Go.Proofs.YtnajdnhgoakgaaaW.PrintLast Go.Proofs.YtnajdnhgoakgaaaW.PrintMore Go.Proofs.Ytnajdnhgoakgaaa.Mem Go.Proofs.Ytnajdnhgoakgaaa.Open Go.Proofs.Ytnajdnhgoakgaaa.Wal
set_option linter.unusedVariables false
set_option linter.unusedSimpArgs false
set_option maxRecDepth 100000
set_option maxHeartbeats 8000000
theorem kind_stop {w w7 : World} {fr n l : Int} {m c i : Nat} {ad : Addr} {gd ga gb gl g19 : Nat} {er : Int} {E : Nat → Prop} {Av Au : Option Addr} {nv cv nu cu : Nat} {D : DM} {L : Wal.LM} {B : Option Addr} {bl bc : Nat} {qk qi qn qt q7 : Int} {qb : List Int}
    (hl : 0 ≤ l ∧ l ≤ 18446744073709551615) (hqe : bits .and .i64 qk 7 = q7)
    (HS : Aside0 (P9 w w7 E ga gb (.slice Av nv cv) (.slice Au nu cu) D (refl_ L) ∧ Wal.Sys w w7 E gd gl D L ∧ Nz L))
    (HA : Aside0 (Act9Box w7 g19 qk qi B bl bc qn qt ∧ (¬ E g19 ∧ g19 ≠ ga ∧ g19 ≠ gb ∧ ¬ Own (.slice Av nv cv) g19 ∧ ¬ Own (.slice Au nu cu) g19 ∧ w.heap.size ≤ g19)))
    (HO : Aside0 ((⟨qk, qi, qb, qn, qt⟩ : A9).Ok ∧ Kd.C (Kd.int .u8) w B qb.length qb ∧ bl = qb.length ∧ bl ≤ bc ∧ bl ≤ 500))
    (a0 : w7.cell? ⟨g19, 0, none⟩ = some (.int .i64 qk)) (a1 : w7.cell? ⟨g19, 1, none⟩ = some (.int .i64 qi)) (a2 : w7.cell? ⟨g19, 2, none⟩ = some (.slice B bl bc)) (a3 : w7.cell? ⟨g19, 3, none⟩ = some (.int .i64 qn)) (a4 : w7.cell? ⟨g19, 4, none⟩ = some (.int .i64 qt)) (h3 : q7 = 3)
    (c8 c20 c21 c22 c23 c24 c25 c26 c27 c28 c29 c30 c31 c32 c33 c34 c35 c36 c37 c38 c39 c40 c41 c42 c43 c44 c45 c46 c47 c48 c49 c50 c51 c52 c53 c54 c55 c57 c58 c59 c60 c61 c62 c63 c64 c65 c66 c67 c68 c69 c70 c71 c72 c73 c74 c75 c76 c77 c78 c79 c80 c82 c83 c84 c85 c86 c87 c88 c89 c90 c91 c92 c93 c94 c95 c96 c97 c98 c99 c100 c101 c102 c103 c104 c105 c106 c107 c108 c109 c110 c111 c112 c113 c114 c115 c116 c117 c118 c119 c120 c121 c122 c123 c124 c125 c126 c127 c128 c129 c130 c131 c132 c133 c134 c135 c136 c137 c138 c139 c140 c141 c142 c143 c144 c145 c146 c147 c148 c149 c150 c151 c152 c153 c154 c155 c156 c157 c158 c159 c160 c161 c162 c163 c164 c165 c166 c167 c168 c169 c170 c171 c172 c173 c174 c175 c176 c177 c178 c179 c180 c181 c182 c183 c184 c185 c186 c187 c188 c189 c190 c191 c192 c193 c194 c195 c196 c197 c198 c199 c200 c201 c202 c203 c204 c205 c206 c207 c208 c209 c210 c211 c212 c213 c214 c215 c216 c217 c218 c219 c220 c221 c222 c223 c224 c225 c226 c227 c228 c229 c230 c231 c232 c233 c234 c235 c236 c237 c238 c239 : Value) (J K' : Act → World → Prop) (Q1 : Exit → Act → World → Prop)
    (hJ : ∀ (a' : Act) (w' : World), (∃ u8 u14 u15 u17 u20 u21 u57 u58 u59 u60 u61 u62 u63 u64 u65 u66 u67 u68 u69 u70 u71 u72 u73 u74 u75 u76 u77 u78 u79 u80 u82 u83 u84 u85 u86 u87 u88 u89 u90 u91 u92 u93 u94 u95 u96 u97 u98 u99 u100 u101 u102 u103 u104 u105 u106 u107 u108 u109 u110 u111 u112 u113 u114 u115 u116 u117 u118 u119 u120 u121 u122 u123 u124 u125 u126 u127 u128 u129 u130 u131 u132 u133 u134 u135 u136 u137 u138 u139 u140 u141 u142 u143 u144 u145 u146 u147 u148 u149 u150 u151 u152 u153 u154 u155 u156 u157 u158 u159 u160 u161 u162 u163 u164 u165 u166 u167 u168 u169 u170 u171 u172 u173 u174 u175 u176 u177 u178 u179 u180 u181 u182 u183 u184 u185 u186 u187 u188 u189 u190 u191 u192 u193 u194 u195 u196 u197 u198 u199 u200 u201 u202 u203 u204 u205 u206 u207 u208 u209 u210 u211 u212 u213 u214 u215 u216 u217 u218 u219 u220 u221 u222 u223 u224 u225 u226 u227 u228 u229 u230 u231 u232 u233 u234 u235 u236 u237 u238 u239 : Value, (∃ (er : Int) (E : Nat → Prop) (Av Au : Option Addr) (nv cv nu cu : Nat) (D : DM) (R : RL), u15 = .int .i64 er ∧ u17 = .int .i64 er ∧ Aside0 (P9 w w' E ga gb (.slice Av nv cv) (.slice Au nu cu) D R ∧ LogV w w' E gd u14 D R)) ∧ a' = ⟨#[.int .i64 fr, .int .i64 n, .int .u64 l, .slice (some ad) m c, undef, undef, undef, undef, u8, .bool true, .pointer (some ⟨gd, 0, none⟩), .int .i64 0, .pointer (some ⟨ga, 0, none⟩), .int .i64 0, u14, u15, .pointer (some ⟨gb, 0, none⟩), u17, .int .i64 (i : Int), .pointer (some ⟨g19, 0, none⟩), u20, u21, c22, c23, c24, c25, c26, c27, c28, c29, c30, c31, c32, c33, c34, c35, c36, c37, c38, c39, c40, c41, c42, c43, c44, c45, c46, c47, c48, c49, c50, c51, c52, c53, c54, c55, .bool false, u57, u58, u59, u60, u61, u62, u63, u64, u65, u66, u67, u68, u69, u70, u71, u72, u73, u74, u75, u76, u77, u78, u79, u80, .int .i64 q7, u82, u83, u84, u85, u86, u87, u88, u89, u90, u91, u92, u93, u94, u95, u96, u97, u98, u99, u100, u101, u102, u103, u104, u105, u106, u107, u108, u109, u110, u111, u112, u113, u114, u115, u116, u117, u118, u119, u120, u121, u122, u123, u124, u125, u126, u127, u128, u129, u130, u131, u132, u133, u134, u135, u136, u137, u138, u139, u140, u141, u142, u143, u144, u145, u146, u147, u148, u149, u150, u151, u152, u153, u154, u155, u156, u157, u158, u159, u160, u161, u162, u163, u164, u165, u166, u167, u168, u169, u170, u171, u172, u173, u174, u175, u176, u177, u178, u179, u180, u181, u182, u183, u184, u185, u186, u187, u188, u189, u190, u191, u192, u193, u194, u195, u196, u197, u198, u199, u200, u201, u202, u203, u204, u205, u206, u207, u208, u209, u210, u211, u212, u213, u214, u215, u216, u217, u218, u219, u220, u221, u222, u223, u224, u225, u226, u227, u228, u229, u230, u231, u232, u233, u234, u235, u236, u237, u238, u239], []⟩) → J a' w') (hK : ∀ (a' : Act) (w' : World), Met J a' w' → K' a' w') :
    Code.wp Try.prog kcode (Exit.then K' Q1) ⟨#[.int .i64 fr, .int .i64 n, .int .u64 l, .slice (some ad) m c, undef, undef, undef, undef, c8, .bool true, .pointer (some ⟨gd, 0, none⟩), .int .i64 0, .pointer (some ⟨ga, 0, none⟩), .int .i64 0, .pointer (some ⟨gl, 0, none⟩), .int .i64 er, .pointer (some ⟨gb, 0, none⟩), .int .i64 er, .int .i64 (i : Int), .pointer (some ⟨g19, 0, none⟩), c20, c21, c22, c23, c24, c25, c26, c27, c28, c29, c30, c31, c32, c33, c34, c35, c36, c37, c38, c39, c40, c41, c42, c43, c44, c45, c46, c47, c48, c49, c50, c51, c52, c53, c54, c55, .bool false, c57, c58, c59, c60, c61, c62, c63, c64, c65, c66, c67, c68, c69, c70, c71, c72, c73, c74, c75, c76, c77, c78, c79, c80, .int .i64 q7, c82, c83, c84, c85, c86, c87, c88, c89, c90, c91, c92, c93, c94, c95, c96, c97, c98, c99, c100, c101, c102, c103, c104, c105, c106, c107, c108, c109, c110, c111, c112, c113, c114, c115, c116, c117, c118, c119, c120, c121, c122, c123, c124, c125, c126, c127, c128, c129, c130, c131, c132, c133, c134, c135, c136, c137, c138, c139, c140, c141, c142, c143, c144, c145, c146, c147, c148, c149, c150, c151, c152, c153, c154, c155, c156, c157, c158, c159, c160, c161, c162, c163, c164, c165, c166, c167, c168, c169, c170, c171, c172, c173, c174, c175, c176, c177, c178, c179, c180, c181, c182, c183, c184, c185, c186, c187, c188, c189, c190, c191, c192, c193, c194, c195, c196, c197, c198, c199, c200, c201, c202, c203, c204, c205, c206, c207, c208, c209, c210, c211, c212, c213, c214, c215, c216, c217, c218, c219, c220, c221, c222, c223, c224, c225, c226, c227, c228, c229, c230, c231, c232, c233, c234, c235, c236, c237, c238, c239], []⟩ w7 := by
  conv => arg 2; whnf
  subst h3
  clear hl hqe a0 a1 a2
  obtain ⟨n3, hn3⟩ : ∃ x, x = bits .and .i64 qn 3 := ⟨_, rfl⟩
  have hnl : n3 ≤ 9223372036854775807 := by rw [hn3]; exact bits_hi_i64 _ _ _
  have hne : bits .and .i64 qn 3 = n3 := hn3.symm
  obtain ⟨D', hD'⟩ : ∃ x, x = D.stop n3 qt := ⟨_, rfl⟩
  have HY := Aside0.mk (And.intro hD' hnl)
  clear hD' hnl hn3
  go_wp2_with (first
    | (go_at_call 19; go_loud (first | rw [hne] | skip; have hx := HS.out.2.1.stop n3 qt HY.out.2; rw [← HY.out.1] at hx; refine hx.mono ?_; clear hx; rintro e w8 ⟨rfl, hs8, hk8⟩; dsimp only; have H8 := Aside0.mk (And.intro (HS.out.1.prog0 hk8 hs8.bl) (And.intro hs8 (blk_kept HA.out.1 hk8 HA.out.2.1))); have a3' : w8.cell? ⟨g19, 3, none⟩ = some (.int .i64 qn) := (blk_cell H8.out.2.2 3).trans rfl; have a4' : w8.cell? ⟨g19, 4, none⟩ = some (.int .i64 qt) := (blk_cell H8.out.2.2 4).trans rfl; clear a3 a4 hs8 hk8))
    | ((with_reducible refine gate_dst (N := 152) rfl ?_); refine box_load (v := .slice Av nv cv) (D := D) (g := ga) ?hg (.tmp 12) ?ho ?hx ?hb ?_; (case hg => rfl); (case ho => rfl); (case hx => rfl); (case hb => exact H8.out.1.a))
    | (go_at_call 20; go_loud (first | rw [hne] | skip; have hx := r_stop H8.out.1.bl H8.out.1.vr n3 qt; rw [← HY.out.1] at hx; refine hx.mono ?_; clear hx a3' a4'; rintro e w9 ⟨v9, rfl, hr9, hb9, hk9⟩; obtain ⟨A9, c9, rfl, _, _⟩ := Kd.R_reads hr9; dsimp only; obtain ⟨na, hna⟩ : ∃ x, x = D'.L.length := ⟨_, rfl⟩; rw [← hna] at hr9 ⊢; have hlt := H8.out.1; have H9 := Aside0.mk (And.intro hr9 (And.intro hb9 (And.intro hk9 (hlt.a.kept hk9 (fun h => (hlt.vo ga h).1 rfl))))); clear hr9 hb9 hk9 hlt hna))
    | ((with_reducible refine gate_store (ty := 30) (x := .tmp 12) (y := .tmp 158) rfl ?_); refine box_put (D' := D') ?hg (.tmp 12) (.tmp 158) ?ho (g := ga) (n := na) (c := c9) (A := A9) ?hx ?hy H9.out.2.2.2 ?_; (case hg => rfl); (case ho => rfl); (case hx => rfl); (case hy => rfl); go_loud (intro wa hba hka hbla hsa; have hgg := H8.out.1.g; have Ha := Aside0.mk (And.intro hba (And.intro hka (hbla _ _ hgg.1 H9.out.2.1))); clear hba hka hbla hsa hgg)))
  go_meet
  case rel =>
    have hX := H8.out.1
    have hP := hX.wr H9.out.2.2.1 H9.out.1 Ha.out.2.1 Ha.out.1 Ha.out.2.2
    refine ⟨er, _, _, _, _, _, _, _, D', refl_ L, rfl, rfl, ⟨hP, .inr ⟨gl, L, rfl, ?_, rfl, HS.out.2.2⟩⟩⟩
    have s1 := H8.out.2.1.kept H9.out.2.2.1 (fun k he hv => (hX.vo k hv).2.2.1 he) H9.out.2.1
    exact s1.kept Ha.out.2.1 (fun k he e => hX.ea (by rw [← e]; exact he)) Ha.out.2.2
end Go.Proofs.Ytnajdnhgoakgaaa.Blk
end
section
namespace Go.Proofs.Ytnajdnhgoakgaaa.Blk
open Go.RowKit Go.Proofs.YtnajdnhgoakgaaaW.PrintWords Go.Proofs.YtnajdnhgoakgaaaW.PrintLast Go.Proofs.YtnajdnhgoakgaaaW.PrintMore Go.Proofs.Ytnajdnhgoakgaaa.Mem Go.Proofs.Ytnajdnhgoakgaaa.Open Go.Proofs.Ytnajdnhgoakgaaa.Wal
set_option linter.unusedVariables false
set_option linter.unusedSimpArgs false
set_option maxRecDepth 100000
set_option maxHeartbeats 8000000
/-- The block that is written: the first j of b, and noughts. -/
def padb (b : List Int) (j : Nat) : List Int := b.take j ++ List.replicate (128 - j) 0
theorem padb_len {b : List Int} {j : Nat} (h : j ≤ b.length) (h2 : j ≤ 128) : (padb b j).length = 128 := by
  unfold padb
  rw [List.length_append, List.length_take, List.length_replicate]
  omega
theorem padb_set {b : List Int} {j : Nat} (h : j < b.length) (h2 : j < 128) : (padb b j).set j (b.getD j 0) = padb b (j + 1) := by
  unfold padb
  rw [List.set_append_right _ _ (by rw [List.length_take]; omega), List.length_take, show j - min j b.length = 0 by omega, show 128 - j = (128 - (j + 1)) + 1 by omega, List.replicate_succ, List.set_cons_zero, List.take_add_one, List.append_assoc]
  congr 1
  rw [List.getD_eq_getElem?_getD, List.getElem?_eq_getElem h]
  rfl
theorem padb_byt {b : List Int} {j : Nat} (h : Byt b) : Byt (padb b j) := by
  intro x hx
  rcases List.mem_append.1 hx with h1 | h1
  · exact h x (List.mem_of_mem_take h1)
  · rw [List.eq_of_mem_replicate h1]; omega
theorem padb_at {b : List Int} {j : Nat} (h : j ≤ b.length) (h2 : j < 128) : (nums .u8 (padb b j)).toArray[j]? = some (.int .u8 0) := by
  rw [List.getElem?_toArray]
  unfold nums padb
  rw [List.getElem?_map, List.getElem?_append_right (by rw [List.length_take]; omega), List.length_take, List.getElem?_replicate, if_pos (by omega)]
  rfl
theorem padb_0 (b : List Int) : List.replicate 128 (Value.int .u8 0) = nums .u8 (padb b 0) := by
  unfold padb nums
  simp
theorem kind_write {w w7 : World} {fr n l : Int} {m c i : Nat} {ad : Addr} {gd ga gb gl g19 : Nat} {er : Int} {E : Nat → Prop} {Av Au : Option Addr} {nv cv nu cu : Nat} {D : DM} {L : Wal.LM} {B : Option Addr} {bl bc : Nat} {qk qi qn qt q7 : Int} {qb : List Int}
    (hl : 0 ≤ l ∧ l ≤ 18446744073709551615) (hqe : bits .and .i64 qk 7 = q7)
    (HS : Aside0 (P9 w w7 E ga gb (.slice Av nv cv) (.slice Au nu cu) D (refl_ L) ∧ Wal.Sys w w7 E gd gl D L ∧ Nz L))
    (HA : Aside0 (Act9Box w7 g19 qk qi B bl bc qn qt ∧ (¬ E g19 ∧ g19 ≠ ga ∧ g19 ≠ gb ∧ ¬ Own (.slice Av nv cv) g19 ∧ ¬ Own (.slice Au nu cu) g19 ∧ w.heap.size ≤ g19)))
    (HO : Aside0 ((⟨qk, qi, qb, qn, qt⟩ : A9).Ok ∧ Kd.C (Kd.int .u8) w B qb.length qb ∧ bl = qb.length ∧ bl ≤ bc ∧ bl ≤ 500))
    (a0 : w7.cell? ⟨g19, 0, none⟩ = some (.int .i64 qk)) (a1 : w7.cell? ⟨g19, 1, none⟩ = some (.int .i64 qi)) (a2 : w7.cell? ⟨g19, 2, none⟩ = some (.slice B bl bc)) (a3 : w7.cell? ⟨g19, 3, none⟩ = some (.int .i64 qn)) (a4 : w7.cell? ⟨g19, 4, none⟩ = some (.int .i64 qt)) (h4 : q7 = 4)
    (c8 c20 c21 c22 c23 c24 c25 c26 c27 c28 c29 c30 c31 c32 c33 c34 c35 c36 c37 c38 c39 c40 c41 c42 c43 c44 c45 c46 c47 c48 c49 c50 c51 c52 c53 c54 c55 c57 c58 c59 c60 c61 c62 c63 c64 c65 c66 c67 c68 c69 c70 c71 c72 c73 c74 c75 c76 c77 c78 c79 c80 c82 c83 c84 c85 c86 c87 c88 c89 c90 c91 c92 c93 c94 c95 c96 c97 c98 c99 c100 c101 c102 c103 c104 c105 c106 c107 c108 c109 c110 c111 c112 c113 c114 c115 c116 c117 c118 c119 c120 c121 c122 c123 c124 c125 c126 c127 c128 c129 c130 c131 c132 c133 c134 c135 c136 c137 c138 c139 c140 c141 c142 c143 c144 c145 c146 c147 c148 c149 c150 c151 c152 c153 c154 c155 c156 c157 c158 c159 c160 c161 c162 c163 c164 c165 c166 c167 c168 c169 c170 c171 c172 c173 c174 c175 c176 c177 c178 c179 c180 c181 c182 c183 c184 c185 c186 c187 c188 c189 c190 c191 c192 c193 c194 c195 c196 c197 c198 c199 c200 c201 c202 c203 c204 c205 c206 c207 c208 c209 c210 c211 c212 c213 c214 c215 c216 c217 c218 c219 c220 c221 c222 c223 c224 c225 c226 c227 c228 c229 c230 c231 c232 c233 c234 c235 c236 c237 c238 c239 : Value) (J K' : Act → World → Prop) (Q1 : Exit → Act → World → Prop)
    (hJ : ∀ (a' : Act) (w' : World), (∃ u8 u14 u15 u17 u20 u21 u57 u58 u59 u60 u61 u62 u63 u64 u65 u66 u67 u68 u69 u70 u71 u72 u73 u74 u75 u76 u77 u78 u79 u80 u82 u83 u84 u85 u86 u87 u88 u89 u90 u91 u92 u93 u94 u95 u96 u97 u98 u99 u100 u101 u102 u103 u104 u105 u106 u107 u108 u109 u110 u111 u112 u113 u114 u115 u116 u117 u118 u119 u120 u121 u122 u123 u124 u125 u126 u127 u128 u129 u130 u131 u132 u133 u134 u135 u136 u137 u138 u139 u140 u141 u142 u143 u144 u145 u146 u147 u148 u149 u150 u151 u152 u153 u154 u155 u156 u157 u158 u159 u160 u161 u162 u163 u164 u165 u166 u167 u168 u169 u170 u171 u172 u173 u174 u175 u176 u177 u178 u179 u180 u181 u182 u183 u184 u185 u186 u187 u188 u189 u190 u191 u192 u193 u194 u195 u196 u197 u198 u199 u200 u201 u202 u203 u204 u205 u206 u207 u208 u209 u210 u211 u212 u213 u214 u215 u216 u217 u218 u219 u220 u221 u222 u223 u224 u225 u226 u227 u228 u229 u230 u231 u232 u233 u234 u235 u236 u237 u238 u239 : Value, (∃ (er : Int) (E : Nat → Prop) (Av Au : Option Addr) (nv cv nu cu : Nat) (D : DM) (R : RL), u15 = .int .i64 er ∧ u17 = .int .i64 er ∧ Aside0 (P9 w w' E ga gb (.slice Av nv cv) (.slice Au nu cu) D R ∧ LogV w w' E gd u14 D R)) ∧ a' = ⟨#[.int .i64 fr, .int .i64 n, .int .u64 l, .slice (some ad) m c, undef, undef, undef, undef, u8, .bool true, .pointer (some ⟨gd, 0, none⟩), .int .i64 0, .pointer (some ⟨ga, 0, none⟩), .int .i64 0, u14, u15, .pointer (some ⟨gb, 0, none⟩), u17, .int .i64 (i : Int), .pointer (some ⟨g19, 0, none⟩), u20, u21, c22, c23, c24, c25, c26, c27, c28, c29, c30, c31, c32, c33, c34, c35, c36, c37, c38, c39, c40, c41, c42, c43, c44, c45, c46, c47, c48, c49, c50, c51, c52, c53, c54, c55, .bool false, u57, u58, u59, u60, u61, u62, u63, u64, u65, u66, u67, u68, u69, u70, u71, u72, u73, u74, u75, u76, u77, u78, u79, u80, .int .i64 q7, u82, u83, u84, u85, u86, u87, u88, u89, u90, u91, u92, u93, u94, u95, u96, u97, u98, u99, u100, u101, u102, u103, u104, u105, u106, u107, u108, u109, u110, u111, u112, u113, u114, u115, u116, u117, u118, u119, u120, u121, u122, u123, u124, u125, u126, u127, u128, u129, u130, u131, u132, u133, u134, u135, u136, u137, u138, u139, u140, u141, u142, u143, u144, u145, u146, u147, u148, u149, u150, u151, u152, u153, u154, u155, u156, u157, u158, u159, u160, u161, u162, u163, u164, u165, u166, u167, u168, u169, u170, u171, u172, u173, u174, u175, u176, u177, u178, u179, u180, u181, u182, u183, u184, u185, u186, u187, u188, u189, u190, u191, u192, u193, u194, u195, u196, u197, u198, u199, u200, u201, u202, u203, u204, u205, u206, u207, u208, u209, u210, u211, u212, u213, u214, u215, u216, u217, u218, u219, u220, u221, u222, u223, u224, u225, u226, u227, u228, u229, u230, u231, u232, u233, u234, u235, u236, u237, u238, u239], []⟩) → J a' w') (hK : ∀ (a' : Act) (w' : World), Met J a' w' → K' a' w') :
    Code.wp Try.prog kcode (Exit.then K' Q1) ⟨#[.int .i64 fr, .int .i64 n, .int .u64 l, .slice (some ad) m c, undef, undef, undef, undef, c8, .bool true, .pointer (some ⟨gd, 0, none⟩), .int .i64 0, .pointer (some ⟨ga, 0, none⟩), .int .i64 0, .pointer (some ⟨gl, 0, none⟩), .int .i64 er, .pointer (some ⟨gb, 0, none⟩), .int .i64 er, .int .i64 (i : Int), .pointer (some ⟨g19, 0, none⟩), c20, c21, c22, c23, c24, c25, c26, c27, c28, c29, c30, c31, c32, c33, c34, c35, c36, c37, c38, c39, c40, c41, c42, c43, c44, c45, c46, c47, c48, c49, c50, c51, c52, c53, c54, c55, .bool false, c57, c58, c59, c60, c61, c62, c63, c64, c65, c66, c67, c68, c69, c70, c71, c72, c73, c74, c75, c76, c77, c78, c79, c80, .int .i64 q7, c82, c83, c84, c85, c86, c87, c88, c89, c90, c91, c92, c93, c94, c95, c96, c97, c98, c99, c100, c101, c102, c103, c104, c105, c106, c107, c108, c109, c110, c111, c112, c113, c114, c115, c116, c117, c118, c119, c120, c121, c122, c123, c124, c125, c126, c127, c128, c129, c130, c131, c132, c133, c134, c135, c136, c137, c138, c139, c140, c141, c142, c143, c144, c145, c146, c147, c148, c149, c150, c151, c152, c153, c154, c155, c156, c157, c158, c159, c160, c161, c162, c163, c164, c165, c166, c167, c168, c169, c170, c171, c172, c173, c174, c175, c176, c177, c178, c179, c180, c181, c182, c183, c184, c185, c186, c187, c188, c189, c190, c191, c192, c193, c194, c195, c196, c197, c198, c199, c200, c201, c202, c203, c204, c205, c206, c207, c208, c209, c210, c211, c212, c213, c214, c215, c216, c217, c218, c219, c220, c221, c222, c223, c224, c225, c226, c227, c228, c229, c230, c231, c232, c233, c234, c235, c236, c237, c238, c239], []⟩ w7 := by
  conv => arg 2; whnf
  subst h4
  clear hl hqe a0 a1 a2 a3 a4
  have hyb : Byt qb := HO.out.1.2.2.2.2
  obtain ⟨mx, hm1, hm2, hm3⟩ : ∃ x : Nat, x ≤ bl ∧ x ≤ 128 ∧ (x = bl ∨ x = 128) := by
    by_cases h : bl ≤ 128
    · exact ⟨bl, Nat.le_refl _, h, .inl rfl⟩
    · exact ⟨128, by omega, Nat.le_refl _, .inr rfl⟩
  have hbl : bl ≤ 500 := HO.out.2.2.2.2
  have hlen : bl = qb.length := HO.out.2.2.1
  have hmk : (Instr.makeSlice 35 (.int .i64 128) (.int .i64 128)).run Try.prog w7 = .ok (.slice (some ⟨w7.heap.size, 0, none⟩) 128 128) (w7.alloc (.cells (List.replicate 128 (Value.int .u8 0)).toArray 5)) := run_make_bytes 128 (by omega) w7
  let Qd := bodyPost Try.prog Try.f12 (fun _ _ => True)
  go_wp2_with (first
    | ((with_reducible refine gate_dst (N := 161) rfl ?_); refine Kd.event_run rfl (v := .slice (some ⟨w7.heap.size, 0, none⟩) 128 128) (w1 := w7.alloc (.cells (List.replicate 128 (Value.int .u8 0)).toArray 5)) ?hr ?_; (case hr => first | (go_simp; done) | (go_simp; rfl)); go_loud (refine wpName (fun w8 hw8 => ?_); obtain ⟨g20, hg20⟩ : ∃ g, g = w7.heap.size := ⟨_, rfl⟩; have H8 := Aside0.mk (And.intro (show w8.heap[g20]? = some (.cells (nums .u8 (padb qb 0)).toArray 5 (0, 0)) by rw [hw8, hg20, padb_0 qb]; exact blk_new w7 _) (And.intro (show Below w7.heap.size w7 w8 by rw [hw8]; exact below_alloc (Below.refl _ _) _) hg20)); rw [← hg20]; clear hw8 hg20 hmk)))
  go_loopg [21] mx (fun q v21 wr => ∃ j : Nat, v21 = .int .i64 j ∧ q + j = mx ∧ Aside0 (wr.heap[g20]? = some (.cells (nums .u8 (padb qb j)).toArray 5 (0, 0)) ∧ Below w7.heap.size w7 wr))
  case atStart => exact ⟨0, rfl, by omega, H8.out.1, H8.out.2.1⟩
  case round =>
    obtain ⟨j, rfl, hq, hI⟩ := hrel
    have ha := (hI.out.2.block _ (blk_lt HA.out.1)).trans HA.out.1
    have a1 : wr.cell? ⟨g19, 1, none⟩ = some (.int .i64 qi) := (blk_cell ha 1).trans rfl
    have a2 : wr.cell? ⟨g19, 2, none⟩ = some (.slice B bl bc) := (blk_cell ha 2).trans rfl
    clear ha
    by_cases hlt : j < mx
    · have d1 : decide ((j : Int) < (bl : Int)) = true := decide_eq_true (by omega)
      have d2 : decide ((j : Int) < 128) = true := decide_eq_true (by omega)
      have hCr : Kd.C (Kd.int .u8) wr B qb.length qb := Kd.C_below HO.out.2.1 (below_step HS.out.1.bl hI.out.2)
      obtain ⟨ad1, rfl, hb1⟩ := Kd.at_int hCr j (by omega) (by omega)
      rw [Int.toNat_natCast] at hb1
      obtain ⟨bj, hbj⟩ : ∃ x, x = rd qb j := ⟨_, rfl⟩
      rw [← hbj] at hb1
      have hcell : wr.cell? ⟨g20, j, none⟩ = some (.int .u8 0) := by
        rw [blk_cell hI.out.1]
        exact padb_at (by omega) (by omega)
      have hfz : wr.frozen? ⟨g20, j, none⟩ = false := blk_frozen hI.out.1 j
      have hstep : Aside0 ((wr.setCell ⟨g20, j, none⟩ (.int .u8 bj)).heap[g20]? = some (.cells (nums .u8 (padb qb (j + 1))).toArray 5 (0, 0)) ∧ Below w7.heap.size w7 (wr.setCell ⟨g20, j, none⟩ (.int .u8 bj))) := ⟨by
        refine ⟨?_, below_set hI.out.2 (by have h := H8.out.2.2; omega)⟩
        rw [blk_set hI.out.1 j]
        congr 2
        rw [List.setIfInBounds_toArray]
        congr 1
        unfold nums
        rw [← List.map_set]
        congr 1
        rw [hbj]
        exact padb_set (by omega) (by omega)⟩
      clear hI hCr hbj
      go_wp2
      go_roundg (mx - (j + 1))
      case measure => omega
      case rel => exact ⟨j + 1, rfl, by omega, hstep⟩
    · have hdd : (¬ j < bl ∧ decide ((j : Int) < (bl : Int)) = false) ∨ (j < bl ∧ decide ((j : Int) < (bl : Int)) = true ∧ ¬ j < 128 ∧ decide ((j : Int) < 128) = false) := by
        by_cases h : j < bl
        · exact .inr ⟨h, decide_eq_true (by omega), by omega, decide_eq_false (by omega)⟩
        · exact .inl ⟨h, decide_eq_false (by omega)⟩
      obtain ⟨pb, hpb⟩ : ∃ x, x = padb qb j := ⟨_, rfl⟩
      have hpl : pb.length = 128 := by rw [hpb]; exact padb_len (by omega) (by omega)
      have hpy : Byt pb := by rw [hpb]; exact padb_byt hyb
      have hI2 := hI.out
      rw [← hpb] at hI2
      have HI := Aside0.mk (And.intro (HS.out.1.below hI2.2) (And.intro (HS.out.2.1.below hI2.2) (And.intro ((hI2.2.block _ (blk_lt HA.out.1)).trans HA.out.1) (And.intro hI2.1 (show ¬ E g20 from fun h => by have h1 := HS.out.1.ed _ h; have h2 := H8.out.2.2; omega)))))
      obtain ⟨D', hD'⟩ : ∃ x, x = (D.write qi (strOfNums pb)).1 := ⟨_, rfl⟩
      obtain ⟨y, hy⟩ : ∃ x, x = (D.write qi (strOfNums pb)).2 := ⟨_, rfl⟩
      have HY := Aside0.mk (And.intro hD' (And.intro hy (And.intro hpl hpy)))
      clear hI hI2 hpb hD' hy hpl hpy
      clear hlen
      rcases hdd with ⟨k1, d1⟩ | ⟨k1, d1, k2, d2⟩
      all_goals
        go_wp2_with (first
          | (go_at_call 17; go_loud (have hx := HI.out.2.1.write qi (some ⟨g20, 0, none⟩) 128 128 (strOfNums pb) (by rw [str_size]; exact HY.out.2.2.1.symm) (fun W hk => by rw [bytesOf_str HY.out.2.2.2, ← HY.out.2.2.1]; exact C_blk (blk_kept HI.out.2.2.2.1 hk HI.out.2.2.2.2) (by rw [HY.out.2.2.1]; decide)); rw [← HY.out.1, ← HY.out.2.1] at hx; refine hx.mono ?_; clear hx; rintro e w9 ⟨rfl, hs9, hk9⟩; dsimp only; have H9 := Aside0.mk (And.intro (HI.out.1.prog0 hk9 hs9.bl) (And.intro hs9 (And.intro (blk_kept HI.out.2.2.1 hk9 HA.out.2.1) (blk_kept HI.out.2.2.2.1 hk9 HI.out.2.2.2.2)))); have a1' : w9.cell? ⟨g19, 1, none⟩ = some (.int .i64 qi) := (blk_cell H9.out.2.2.1 1).trans rfl; have hcv := conv_nums (wd := w9) (c := 128) (n := 128) HY.out.2.2.2 HY.out.2.2.1.symm (C_blk H9.out.2.2.2 (by rw [HY.out.2.2.1]; decide)) (Below.refl _ _); clear a1 a2 hs9 hk9))
          | ((with_reducible refine gate_dst (N := 187) rfl ?_); refine box_load (v := .slice Av nv cv) (D := D) (g := ga) ?hg (.tmp 12) ?ho ?hx ?hb ?_; (case hg => rfl); (case ho => rfl); (case hx => rfl); (case hb => exact H9.out.1.a))
          | (go_at_call 18; go_loud (have hx := r_write H9.out.1.bl H9.out.1.vr HI.out.2.1.ok qi (strOfNums pb); rw [← HY.out.1, ← HY.out.2.1] at hx; refine hx.mono ?_; clear hx a1' hcv; rintro e wx ⟨vx, rfl, hrx, hbx, hkx⟩; obtain ⟨Ax, cx, rfl, _, _⟩ := Kd.R_reads hrx; dsimp only; obtain ⟨na, hna⟩ : ∃ x, x = D'.L.length := ⟨_, rfl⟩; rw [← hna] at hrx ⊢; have hlt := H9.out.1; have Hx := Aside0.mk (And.intro hrx (And.intro hbx (And.intro hkx (hlt.a.kept hkx (fun h => (hlt.vo ga h).1 rfl))))); clear hrx hbx hkx hlt hna))
          | ((with_reducible refine gate_store (ty := 30) (x := .tmp 12) (y := .tmp 193) rfl ?_); refine box_put (D' := D') ?hg (.tmp 12) (.tmp 193) ?ho (g := ga) (n := na) (c := cx) (A := Ax) ?hx ?hy Hx.out.2.2.2 ?_; (case hg => rfl); (case ho => rfl); (case hx => rfl); (case hy => rfl); go_loud (intro wa hba hka hbla hsa; have hgg := H9.out.1.g; have Ha := Aside0.mk (And.intro hba (And.intro hka (hbla _ _ hgg.1 Hx.out.2.1))); clear hba hka hbla hsa hgg)))
        go_meet
        case rel =>
          have hX := H9.out.1
          have hP := hX.wr Hx.out.2.2.1 Hx.out.1 Ha.out.2.1 Ha.out.1 Ha.out.2.2
          refine ⟨y, _, _, _, _, _, _, _, D', refl_ L, rfl, rfl, ⟨hP, .inr ⟨gl, L, rfl, ?_, rfl, HS.out.2.2⟩⟩⟩
          have s1 := H9.out.2.1.kept Hx.out.2.2.1 (fun k he hv => (hX.vo k hv).2.2.1 he) Hx.out.2.1
          exact s1.kept Ha.out.2.1 (fun k he e => hX.ea (by rw [← e]; exact he)) Ha.out.2.2
end Go.Proofs.Ytnajdnhgoakgaaa.Blk
end
section
namespace Go.Proofs.Ytnajdnhgoakgaaa.Blk
open Go.RowKit Go.Proofs.YtnajdnhgoakgaaaW.PrintWords Go.Proofs.YtnajdnhgoakgaaaW.PrintLast Go.Proofs.YtnajdnhgoakgaaaW.PrintMore Go.Proofs.Ytnajdnhgoakgaaa.Mem Go.Proofs.Ytnajdnhgoakgaaa.Open Go.Proofs.Ytnajdnhgoakgaaa.Wal
set_option linter.unusedVariables false
set_option linter.unusedSimpArgs false
set_option maxRecDepth 100000
set_option maxHeartbeats 8000000
theorem kind_open {w w7 : World} {fr n l : Int} {m c i : Nat} {ad : Addr} {gd ga gb gl g19 : Nat} {er : Int} {E : Nat → Prop} {Av Au : Option Addr} {nv cv nu cu : Nat} {D : DM} {L : Wal.LM} {B : Option Addr} {bl bc : Nat} {qk qi qn qt q7 : Int} {qb : List Int}
    (hl : 0 ≤ l ∧ l ≤ 18446744073709551615) (hqe : bits .and .i64 qk 7 = q7)
    (HS : Aside0 (P9 w w7 E ga gb (.slice Av nv cv) (.slice Au nu cu) D (refl_ L) ∧ Wal.Sys w w7 E gd gl D L ∧ Nz L))
    (HA : Aside0 (Act9Box w7 g19 qk qi B bl bc qn qt ∧ (¬ E g19 ∧ g19 ≠ ga ∧ g19 ≠ gb ∧ ¬ Own (.slice Av nv cv) g19 ∧ ¬ Own (.slice Au nu cu) g19 ∧ w.heap.size ≤ g19)))
    (HO : Aside0 ((⟨qk, qi, qb, qn, qt⟩ : A9).Ok ∧ Kd.C (Kd.int .u8) w B qb.length qb ∧ bl = qb.length ∧ bl ≤ bc ∧ bl ≤ 500))
    (a0 : w7.cell? ⟨g19, 0, none⟩ = some (.int .i64 qk)) (a1 : w7.cell? ⟨g19, 1, none⟩ = some (.int .i64 qi)) (a2 : w7.cell? ⟨g19, 2, none⟩ = some (.slice B bl bc)) (a3 : w7.cell? ⟨g19, 3, none⟩ = some (.int .i64 qn)) (a4 : w7.cell? ⟨g19, 4, none⟩ = some (.int .i64 qt)) (k0 : q7 ≠ 0) (k1 : q7 ≠ 1) (k2 : q7 ≠ 2) (k3 : q7 ≠ 3) (k4 : q7 ≠ 4) (k7 : q7 ≠ 7)
    (c8 c20 c21 c22 c23 c24 c25 c26 c27 c28 c29 c30 c31 c32 c33 c34 c35 c36 c37 c38 c39 c40 c41 c42 c43 c44 c45 c46 c47 c48 c49 c50 c51 c52 c53 c54 c55 c57 c58 c59 c60 c61 c62 c63 c64 c65 c66 c67 c68 c69 c70 c71 c72 c73 c74 c75 c76 c77 c78 c79 c80 c82 c83 c84 c85 c86 c87 c88 c89 c90 c91 c92 c93 c94 c95 c96 c97 c98 c99 c100 c101 c102 c103 c104 c105 c106 c107 c108 c109 c110 c111 c112 c113 c114 c115 c116 c117 c118 c119 c120 c121 c122 c123 c124 c125 c126 c127 c128 c129 c130 c131 c132 c133 c134 c135 c136 c137 c138 c139 c140 c141 c142 c143 c144 c145 c146 c147 c148 c149 c150 c151 c152 c153 c154 c155 c156 c157 c158 c159 c160 c161 c162 c163 c164 c165 c166 c167 c168 c169 c170 c171 c172 c173 c174 c175 c176 c177 c178 c179 c180 c181 c182 c183 c184 c185 c186 c187 c188 c189 c190 c191 c192 c193 c194 c195 c196 c197 c198 c199 c200 c201 c202 c203 c204 c205 c206 c207 c208 c209 c210 c211 c212 c213 c214 c215 c216 c217 c218 c219 c220 c221 c222 c223 c224 c225 c226 c227 c228 c229 c230 c231 c232 c233 c234 c235 c236 c237 c238 c239 : Value) (J K' : Act → World → Prop) (Q1 : Exit → Act → World → Prop)
    (hJ : ∀ (a' : Act) (w' : World), (∃ u8 u14 u15 u17 u20 u21 u57 u58 u59 u60 u61 u62 u63 u64 u65 u66 u67 u68 u69 u70 u71 u72 u73 u74 u75 u76 u77 u78 u79 u80 u82 u83 u84 u85 u86 u87 u88 u89 u90 u91 u92 u93 u94 u95 u96 u97 u98 u99 u100 u101 u102 u103 u104 u105 u106 u107 u108 u109 u110 u111 u112 u113 u114 u115 u116 u117 u118 u119 u120 u121 u122 u123 u124 u125 u126 u127 u128 u129 u130 u131 u132 u133 u134 u135 u136 u137 u138 u139 u140 u141 u142 u143 u144 u145 u146 u147 u148 u149 u150 u151 u152 u153 u154 u155 u156 u157 u158 u159 u160 u161 u162 u163 u164 u165 u166 u167 u168 u169 u170 u171 u172 u173 u174 u175 u176 u177 u178 u179 u180 u181 u182 u183 u184 u185 u186 u187 u188 u189 u190 u191 u192 u193 u194 u195 u196 u197 u198 u199 u200 u201 u202 u203 u204 u205 u206 u207 u208 u209 u210 u211 u212 u213 u214 u215 u216 u217 u218 u219 u220 u221 u222 u223 u224 u225 u226 u227 u228 u229 u230 u231 u232 u233 u234 u235 u236 u237 u238 u239 : Value, (∃ (er : Int) (E : Nat → Prop) (Av Au : Option Addr) (nv cv nu cu : Nat) (D : DM) (R : RL), u15 = .int .i64 er ∧ u17 = .int .i64 er ∧ Aside0 (P9 w w' E ga gb (.slice Av nv cv) (.slice Au nu cu) D R ∧ LogV w w' E gd u14 D R)) ∧ a' = ⟨#[.int .i64 fr, .int .i64 n, .int .u64 l, .slice (some ad) m c, undef, undef, undef, undef, u8, .bool true, .pointer (some ⟨gd, 0, none⟩), .int .i64 0, .pointer (some ⟨ga, 0, none⟩), .int .i64 0, u14, u15, .pointer (some ⟨gb, 0, none⟩), u17, .int .i64 (i : Int), .pointer (some ⟨g19, 0, none⟩), u20, u21, c22, c23, c24, c25, c26, c27, c28, c29, c30, c31, c32, c33, c34, c35, c36, c37, c38, c39, c40, c41, c42, c43, c44, c45, c46, c47, c48, c49, c50, c51, c52, c53, c54, c55, .bool false, u57, u58, u59, u60, u61, u62, u63, u64, u65, u66, u67, u68, u69, u70, u71, u72, u73, u74, u75, u76, u77, u78, u79, u80, .int .i64 q7, u82, u83, u84, u85, u86, u87, u88, u89, u90, u91, u92, u93, u94, u95, u96, u97, u98, u99, u100, u101, u102, u103, u104, u105, u106, u107, u108, u109, u110, u111, u112, u113, u114, u115, u116, u117, u118, u119, u120, u121, u122, u123, u124, u125, u126, u127, u128, u129, u130, u131, u132, u133, u134, u135, u136, u137, u138, u139, u140, u141, u142, u143, u144, u145, u146, u147, u148, u149, u150, u151, u152, u153, u154, u155, u156, u157, u158, u159, u160, u161, u162, u163, u164, u165, u166, u167, u168, u169, u170, u171, u172, u173, u174, u175, u176, u177, u178, u179, u180, u181, u182, u183, u184, u185, u186, u187, u188, u189, u190, u191, u192, u193, u194, u195, u196, u197, u198, u199, u200, u201, u202, u203, u204, u205, u206, u207, u208, u209, u210, u211, u212, u213, u214, u215, u216, u217, u218, u219, u220, u221, u222, u223, u224, u225, u226, u227, u228, u229, u230, u231, u232, u233, u234, u235, u236, u237, u238, u239], []⟩) → J a' w') (hK : ∀ (a' : Act) (w' : World), Met J a' w' → K' a' w') :
    Code.wp Try.prog kcode (Exit.then K' Q1) ⟨#[.int .i64 fr, .int .i64 n, .int .u64 l, .slice (some ad) m c, undef, undef, undef, undef, c8, .bool true, .pointer (some ⟨gd, 0, none⟩), .int .i64 0, .pointer (some ⟨ga, 0, none⟩), .int .i64 0, .pointer (some ⟨gl, 0, none⟩), .int .i64 er, .pointer (some ⟨gb, 0, none⟩), .int .i64 er, .int .i64 (i : Int), .pointer (some ⟨g19, 0, none⟩), c20, c21, c22, c23, c24, c25, c26, c27, c28, c29, c30, c31, c32, c33, c34, c35, c36, c37, c38, c39, c40, c41, c42, c43, c44, c45, c46, c47, c48, c49, c50, c51, c52, c53, c54, c55, .bool false, c57, c58, c59, c60, c61, c62, c63, c64, c65, c66, c67, c68, c69, c70, c71, c72, c73, c74, c75, c76, c77, c78, c79, c80, .int .i64 q7, c82, c83, c84, c85, c86, c87, c88, c89, c90, c91, c92, c93, c94, c95, c96, c97, c98, c99, c100, c101, c102, c103, c104, c105, c106, c107, c108, c109, c110, c111, c112, c113, c114, c115, c116, c117, c118, c119, c120, c121, c122, c123, c124, c125, c126, c127, c128, c129, c130, c131, c132, c133, c134, c135, c136, c137, c138, c139, c140, c141, c142, c143, c144, c145, c146, c147, c148, c149, c150, c151, c152, c153, c154, c155, c156, c157, c158, c159, c160, c161, c162, c163, c164, c165, c166, c167, c168, c169, c170, c171, c172, c173, c174, c175, c176, c177, c178, c179, c180, c181, c182, c183, c184, c185, c186, c187, c188, c189, c190, c191, c192, c193, c194, c195, c196, c197, c198, c199, c200, c201, c202, c203, c204, c205, c206, c207, c208, c209, c210, c211, c212, c213, c214, c215, c216, c217, c218, c219, c220, c221, c222, c223, c224, c225, c226, c227, c228, c229, c230, c231, c232, c233, c234, c235, c236, c237, c238, c239], []⟩ w7 := by
  conv => arg 2; whnf
  clear hl a1 a2 a3 a4 HO
  have e0 : (q7 == 0) = false := beq_eq_false_iff_ne.2 k0
  have e1 : (q7 == 1) = false := beq_eq_false_iff_ne.2 k1
  have e2 : (q7 == 2) = false := beq_eq_false_iff_ne.2 k2
  have e3 : (q7 == 3) = false := beq_eq_false_iff_ne.2 k3
  have e4 : (q7 == 4) = false := beq_eq_false_iff_ne.2 k4
  have e7 : (q7 == 7) = false := beq_eq_false_iff_ne.2 k7
  clear k0 k1 k2 k3 k4 k7
  obtain ⟨D', hD'⟩ : ∃ x, x = D.restart := ⟨_, rfl⟩
  obtain ⟨er', her'⟩ : ∃ x, x = allE D' fr n := ⟨_, rfl⟩
  obtain ⟨R', hR'⟩ : ∃ x, x = openR D' fr n := ⟨_, rfl⟩
  have HY := Aside0.mk (And.intro hD' (And.intro her' hR'))
  clear hD' her' hR'
  go_upto_region 24 with (first
    | (go_at_call 23; go_loud (have hx := HS.out.2.1.dk.restart; rw [← HY.out.1] at hx; refine hx.mono ?_; clear hx; rintro e w8 ⟨rfl, hd8, hk8⟩; dsimp only; have H8 := Aside0.mk (And.intro (HS.out.1.prog0 hk8 hd8.bl) hd8); clear a0 hd8 hk8))
    | ((with_reducible refine gate_dst (N := 104) rfl ?_); refine box_load (v := .slice Av nv cv) (D := D) (g := ga) ?hg (.tmp 12) ?ho ?hx ?hb ?_; (case hg => rfl); (case ho => rfl); (case hx => rfl); (case hb => exact H8.out.1.a))
    | (go_at_call 24; go_loud (have hx := r_restart H8.out.1.bl H8.out.1.vr; rw [← HY.out.1] at hx; refine hx.mono ?_; clear hx; rintro e w9 ⟨v9, rfl, hr9, hb9, hk9⟩; obtain ⟨A9, c9, rfl, _, _⟩ := Kd.R_reads hr9; dsimp only; obtain ⟨na, hna⟩ : ∃ x, x = D'.L.length := ⟨_, rfl⟩; rw [← hna] at hr9 ⊢; have hlt := H8.out.1; have H9 := Aside0.mk (And.intro hr9 (And.intro hb9 (And.intro hk9 (hlt.a.kept hk9 (fun h => (hlt.vo ga h).1 rfl))))); have HN := Aside0.mk hna; clear hr9 hb9 hk9 hlt hna))
    | ((with_reducible refine gate_store (ty := 30) (x := .tmp 12) (y := .tmp 105) rfl ?_); refine box_put (D' := D') ?hg (.tmp 12) (.tmp 105) ?ho (g := ga) (n := na) (c := c9) (A := A9) ?hx ?hy H9.out.2.2.2 ?_; (case hg => rfl); (case ho => rfl); (case hx => rfl); (case hy => rfl); go_loud (intro wa hba hka hbla hsa; have hX := H8.out.1; have hbw := hbla _ _ hX.g.1 H9.out.2.1; have hP := hX.wr H9.out.2.2.1 H9.out.1 hka hba hbw; have hd := (H8.out.2.kept H9.out.2.2.1 (fun k he hv => (hX.vo k hv).2.2.1 he) H9.out.2.1).kept hka (fun k he e => hX.ea (by rw [← e]; exact he)) hbw; have Ha := Aside0.mk (And.intro hP hd); clear hba hka hbla hsa hX hbw hP hd))
    | (go_at_call 36; go_loud (have hx := Ha.out.2.open_ fr n; rw [← HY.out.2.1] at hx; refine hx.mono ?_; clear hx; rintro e wb ⟨pl, rfl, ho1, ho2, hbb⟩; dsimp only; have Hb := Aside0.mk (And.intro (Ha.out.1.prog (Kept.of_below hbb E) (below_step Ha.out.1.bl hbb)) (And.intro ho1 (And.intro ho2 hbb))); clear ho1 ho2 hbb))
    | ((with_reducible refine gate_dst (N := 114) rfl ?_); refine box_load (v := .slice A9 na c9) (D := D') (g := ga) ?hg (.tmp 12) ?ho ?hx ?hb ?_; (case hg => rfl); (case ho => rfl); (case hx => rfl); (case hb => exact Hb.out.1.a))
    | (go_at_call 42; go_loud (have hv := Kd.R_reads' Hb.out.1.vr; have hx := ropen_calls (w := wb) (D := D') Ha.out.2.ok (A := A9) (c := c9) hv.2.2 (by have h1 := hv.1; have h2 := hv.2.1; have h3 := HN.out; omega) fr n; rw [← HY.out.2.1, ← HY.out.2.2, ← HN.out] at hx; refine hx.mono ?_; clear hx hv; rintro e wx ⟨vx, rfl, hrx, hbx⟩; obtain ⟨Ax, cx, rfl, _, _⟩ := Kd.R_reads hrx; dsimp only; obtain ⟨nb, hnb⟩ : ∃ x, x = R'.l.length := ⟨_, rfl⟩; rw [← hnb] at hrx ⊢; have Hx := Aside0.mk (And.intro hrx (And.intro hbx (Hb.out.1.b.below hbx))); clear hrx hbx hnb))
    | ((with_reducible refine gate_store (ty := 75) (x := .tmp 16) (y := .tmp 118) rfl ?_); refine lbox_put (R' := R') ?hg (.tmp 16) (.tmp 118) ?ho (g := gb) (n := nb) (c := cx) (A := Ax) ?hx ?hy Hx.out.2.2 ?_; (case hg => rfl); (case ho => rfl); (case hx => rfl); (case hy => rfl); go_loud (intro wd hbd hkd hbld hsd; have hX := Hb.out.1; have hbw := hbld _ _ (show w.heap.size ≤ gb by have := hX.g; omega) (below_step hX.bl Hx.out.2.1); have hP := hX.opn Hx.out.2.1 Hx.out.1 hkd hbd hbw; have Hd := Aside0.mk (And.intro hP (And.intro hkd hbw)); clear hbd hkd hbld hsd hX hbw hP)))
  have hC : (pl = .pointer none ∧ er' ≠ 0) ∨ ∃ gl, pl = .pointer (some ⟨gl, 0, none⟩) ∧ er' = 0 := by
    by_cases h0 : er' = 0
    · obtain ⟨gl, hpl, hs⟩ := Hb.out.2.2.1 h0
      exact .inr ⟨gl, hpl, h0⟩
    · exact .inl ⟨Hb.out.2.1 h0, h0⟩
  have hV : LogV w wd (Ext E wa wb) gd pl D' R' := by
    have h1 : LogV w wb (Ext E wa wb) gd pl D' R' := by
      by_cases h0 : er' = 0
      · obtain ⟨gl, hpl, hs⟩ := Hb.out.2.2.1 h0
        exact .inr ⟨gl, openM D' fr n, hpl, hs, by rw [HY.out.2.2]; exact if_pos (by rw [← HY.out.2.1]; exact h0), nz_open _ _ _⟩
      · exact .inl ⟨Hb.out.2.1 h0, dk_ext Ha.out.2 Hb.out.2.2.2⟩
    have hX := Hb.out.1
    exact (h1.below Hx.out.2.1).kept Hd.out.2.1 (fun k e he => hX.eb (by rw [← e]; exact he)) Hd.out.2.2
  have HV := Aside0.mk hV
  clear hV
  rcases hC with ⟨rfl, h0⟩ | ⟨gm, rfl, rfl⟩
  · have d1 : (er' != 0) = true := bne_iff_ne.2 h0
    go_wp2
    go_meet
    case rel => exact ⟨er', _, _, _, _, _, _, _, D', R', rfl, rfl, ⟨Hd.out.1, HV.out⟩⟩
  · go_wp2
    go_meet
    case rel => exact ⟨0, _, _, _, _, _, _, _, D', R', rfl, rfl, ⟨Hd.out.1, HV.out⟩⟩
end Go.Proofs.Ytnajdnhgoakgaaa.Blk
end
section
namespace Go.Proofs.Ytnajdnhgoakgaaa.Blk
open Go.RowKit Go.Proofs.YtnajdnhgoakgaaaW.PrintWords Go.Proofs.YtnajdnhgoakgaaaW.PrintLast Go.Proofs.YtnajdnhgoakgaaaW.PrintMore Go.Proofs.Ytnajdnhgoakgaaa.Mem Go.Proofs.Ytnajdnhgoakgaaa.Open Go.Proofs.Ytnajdnhgoakgaaa.Wal
set_option linter.unusedVariables false
set_option linter.unusedSimpArgs false
set_option maxRecDepth 100000
set_option maxHeartbeats 8000000
theorem kind_begin {w w7 : World} {fr n l : Int} {m c i : Nat} {ad : Addr} {gd ga gb gl g19 : Nat} {er : Int} {E : Nat → Prop} {Av Au : Option Addr} {nv cv nu cu : Nat} {D : DM} {L : Wal.LM} {B : Option Addr} {bl bc : Nat} {qk qi qn qt q7 : Int} {qb : List Int}
    (hl : 0 ≤ l ∧ l ≤ 18446744073709551615) (hqe : bits .and .i64 qk 7 = q7)
    (HS : Aside0 (P9 w w7 E ga gb (.slice Av nv cv) (.slice Au nu cu) D (refl_ L) ∧ Wal.Sys w w7 E gd gl D L ∧ Nz L))
    (HA : Aside0 (Act9Box w7 g19 qk qi B bl bc qn qt ∧ (¬ E g19 ∧ g19 ≠ ga ∧ g19 ≠ gb ∧ ¬ Own (.slice Av nv cv) g19 ∧ ¬ Own (.slice Au nu cu) g19 ∧ w.heap.size ≤ g19)))
    (HO : Aside0 ((⟨qk, qi, qb, qn, qt⟩ : A9).Ok ∧ Kd.C (Kd.int .u8) w B qb.length qb ∧ bl = qb.length ∧ bl ≤ bc ∧ bl ≤ 500))
    (a0 : w7.cell? ⟨g19, 0, none⟩ = some (.int .i64 qk)) (a1 : w7.cell? ⟨g19, 1, none⟩ = some (.int .i64 qi)) (a2 : w7.cell? ⟨g19, 2, none⟩ = some (.slice B bl bc)) (a3 : w7.cell? ⟨g19, 3, none⟩ = some (.int .i64 qn)) (a4 : w7.cell? ⟨g19, 4, none⟩ = some (.int .i64 qt)) (k7 : q7 = 7)
    (c8 c20 c21 c22 c23 c24 c25 c26 c27 c28 c29 c30 c31 c32 c33 c34 c35 c36 c37 c38 c39 c40 c41 c42 c43 c44 c45 c46 c47 c48 c49 c50 c51 c52 c53 c54 c55 c57 c58 c59 c60 c61 c62 c63 c64 c65 c66 c67 c68 c69 c70 c71 c72 c73 c74 c75 c76 c77 c78 c79 c80 c82 c83 c84 c85 c86 c87 c88 c89 c90 c91 c92 c93 c94 c95 c96 c97 c98 c99 c100 c101 c102 c103 c104 c105 c106 c107 c108 c109 c110 c111 c112 c113 c114 c115 c116 c117 c118 c119 c120 c121 c122 c123 c124 c125 c126 c127 c128 c129 c130 c131 c132 c133 c134 c135 c136 c137 c138 c139 c140 c141 c142 c143 c144 c145 c146 c147 c148 c149 c150 c151 c152 c153 c154 c155 c156 c157 c158 c159 c160 c161 c162 c163 c164 c165 c166 c167 c168 c169 c170 c171 c172 c173 c174 c175 c176 c177 c178 c179 c180 c181 c182 c183 c184 c185 c186 c187 c188 c189 c190 c191 c192 c193 c194 c195 c196 c197 c198 c199 c200 c201 c202 c203 c204 c205 c206 c207 c208 c209 c210 c211 c212 c213 c214 c215 c216 c217 c218 c219 c220 c221 c222 c223 c224 c225 c226 c227 c228 c229 c230 c231 c232 c233 c234 c235 c236 c237 c238 c239 : Value) (J K' : Act → World → Prop) (Q1 : Exit → Act → World → Prop)
    (hJ : ∀ (a' : Act) (w' : World), (∃ u8 u14 u15 u17 u20 u21 u57 u58 u59 u60 u61 u62 u63 u64 u65 u66 u67 u68 u69 u70 u71 u72 u73 u74 u75 u76 u77 u78 u79 u80 u82 u83 u84 u85 u86 u87 u88 u89 u90 u91 u92 u93 u94 u95 u96 u97 u98 u99 u100 u101 u102 u103 u104 u105 u106 u107 u108 u109 u110 u111 u112 u113 u114 u115 u116 u117 u118 u119 u120 u121 u122 u123 u124 u125 u126 u127 u128 u129 u130 u131 u132 u133 u134 u135 u136 u137 u138 u139 u140 u141 u142 u143 u144 u145 u146 u147 u148 u149 u150 u151 u152 u153 u154 u155 u156 u157 u158 u159 u160 u161 u162 u163 u164 u165 u166 u167 u168 u169 u170 u171 u172 u173 u174 u175 u176 u177 u178 u179 u180 u181 u182 u183 u184 u185 u186 u187 u188 u189 u190 u191 u192 u193 u194 u195 u196 u197 u198 u199 u200 u201 u202 u203 u204 u205 u206 u207 u208 u209 u210 u211 u212 u213 u214 u215 u216 u217 u218 u219 u220 u221 u222 u223 u224 u225 u226 u227 u228 u229 u230 u231 u232 u233 u234 u235 u236 u237 u238 u239 : Value, (∃ (er : Int) (E : Nat → Prop) (Av Au : Option Addr) (nv cv nu cu : Nat) (D : DM) (R : RL), u15 = .int .i64 er ∧ u17 = .int .i64 er ∧ Aside0 (P9 w w' E ga gb (.slice Av nv cv) (.slice Au nu cu) D R ∧ LogV w w' E gd u14 D R)) ∧ a' = ⟨#[.int .i64 fr, .int .i64 n, .int .u64 l, .slice (some ad) m c, undef, undef, undef, undef, u8, .bool true, .pointer (some ⟨gd, 0, none⟩), .int .i64 0, .pointer (some ⟨ga, 0, none⟩), .int .i64 0, u14, u15, .pointer (some ⟨gb, 0, none⟩), u17, .int .i64 (i : Int), .pointer (some ⟨g19, 0, none⟩), u20, u21, c22, c23, c24, c25, c26, c27, c28, c29, c30, c31, c32, c33, c34, c35, c36, c37, c38, c39, c40, c41, c42, c43, c44, c45, c46, c47, c48, c49, c50, c51, c52, c53, c54, c55, .bool false, u57, u58, u59, u60, u61, u62, u63, u64, u65, u66, u67, u68, u69, u70, u71, u72, u73, u74, u75, u76, u77, u78, u79, u80, .int .i64 q7, u82, u83, u84, u85, u86, u87, u88, u89, u90, u91, u92, u93, u94, u95, u96, u97, u98, u99, u100, u101, u102, u103, u104, u105, u106, u107, u108, u109, u110, u111, u112, u113, u114, u115, u116, u117, u118, u119, u120, u121, u122, u123, u124, u125, u126, u127, u128, u129, u130, u131, u132, u133, u134, u135, u136, u137, u138, u139, u140, u141, u142, u143, u144, u145, u146, u147, u148, u149, u150, u151, u152, u153, u154, u155, u156, u157, u158, u159, u160, u161, u162, u163, u164, u165, u166, u167, u168, u169, u170, u171, u172, u173, u174, u175, u176, u177, u178, u179, u180, u181, u182, u183, u184, u185, u186, u187, u188, u189, u190, u191, u192, u193, u194, u195, u196, u197, u198, u199, u200, u201, u202, u203, u204, u205, u206, u207, u208, u209, u210, u211, u212, u213, u214, u215, u216, u217, u218, u219, u220, u221, u222, u223, u224, u225, u226, u227, u228, u229, u230, u231, u232, u233, u234, u235, u236, u237, u238, u239], []⟩) → J a' w') (hK : ∀ (a' : Act) (w' : World), Met J a' w' → K' a' w') :
    Code.wp Try.prog kcode (Exit.then K' Q1) ⟨#[.int .i64 fr, .int .i64 n, .int .u64 l, .slice (some ad) m c, undef, undef, undef, undef, c8, .bool true, .pointer (some ⟨gd, 0, none⟩), .int .i64 0, .pointer (some ⟨ga, 0, none⟩), .int .i64 0, .pointer (some ⟨gl, 0, none⟩), .int .i64 er, .pointer (some ⟨gb, 0, none⟩), .int .i64 er, .int .i64 (i : Int), .pointer (some ⟨g19, 0, none⟩), c20, c21, c22, c23, c24, c25, c26, c27, c28, c29, c30, c31, c32, c33, c34, c35, c36, c37, c38, c39, c40, c41, c42, c43, c44, c45, c46, c47, c48, c49, c50, c51, c52, c53, c54, c55, .bool false, c57, c58, c59, c60, c61, c62, c63, c64, c65, c66, c67, c68, c69, c70, c71, c72, c73, c74, c75, c76, c77, c78, c79, c80, .int .i64 q7, c82, c83, c84, c85, c86, c87, c88, c89, c90, c91, c92, c93, c94, c95, c96, c97, c98, c99, c100, c101, c102, c103, c104, c105, c106, c107, c108, c109, c110, c111, c112, c113, c114, c115, c116, c117, c118, c119, c120, c121, c122, c123, c124, c125, c126, c127, c128, c129, c130, c131, c132, c133, c134, c135, c136, c137, c138, c139, c140, c141, c142, c143, c144, c145, c146, c147, c148, c149, c150, c151, c152, c153, c154, c155, c156, c157, c158, c159, c160, c161, c162, c163, c164, c165, c166, c167, c168, c169, c170, c171, c172, c173, c174, c175, c176, c177, c178, c179, c180, c181, c182, c183, c184, c185, c186, c187, c188, c189, c190, c191, c192, c193, c194, c195, c196, c197, c198, c199, c200, c201, c202, c203, c204, c205, c206, c207, c208, c209, c210, c211, c212, c213, c214, c215, c216, c217, c218, c219, c220, c221, c222, c223, c224, c225, c226, c227, c228, c229, c230, c231, c232, c233, c234, c235, c236, c237, c238, c239], []⟩ w7 := by
  conv => arg 2; whnf
  subst k7
  clear a1 a2 a3 a4 HO
  obtain ⟨er', her'⟩ : ∃ x, x = allE D fr n := ⟨_, rfl⟩
  obtain ⟨R', hR'⟩ : ∃ x, x = beginR D fr n l := ⟨_, rfl⟩
  have HY := Aside0.mk (And.intro hl (And.intro her' hR'))
  clear hl her' hR'
  go_upto_region 24 with (first
    | (go_at_call 29; go_loud (have hx := HS.out.2.1.dk.begin_ fr n l HY.out.1.1 HY.out.1.2; rw [← HY.out.2.1] at hx; refine hx.mono ?_; clear hx; rintro e wb ⟨pl, rfl, ho1, ho2, hbb⟩; dsimp only; have Hb := Aside0.mk (And.intro (HS.out.1.prog (Kept.of_below hbb E) (below_step HS.out.1.bl hbb)) (And.intro ho1 (And.intro ho2 hbb))); clear a0 ho1 ho2 hbb))
    | ((with_reducible refine gate_dst (N := 95) rfl ?_); refine box_load (v := .slice Av nv cv) (D := D) (g := ga) ?hg (.tmp 12) ?ho ?hx ?hb ?_; (case hg => rfl); (case ho => rfl); (case hx => rfl); (case hb => exact Hb.out.1.a))
    | (go_at_call 44; go_loud (have hv := Kd.R_reads' Hb.out.1.vr; have hx := rbegin_calls (w := wb) (D := D) HS.out.2.1.ok (A := Av) (c := cv) hv.2.2 (by have h1 := hv.1; have h2 := hv.2.1; omega) fr n l; rw [← HY.out.2.1, ← HY.out.2.2, ← hv.1] at hx; refine hx.mono ?_; clear hx hv; rintro e wx ⟨vx, rfl, hrx, hbx⟩; obtain ⟨Ax, cx, rfl, _, _⟩ := Kd.R_reads hrx; dsimp only; obtain ⟨nb, hnb⟩ : ∃ x, x = R'.l.length := ⟨_, rfl⟩; rw [← hnb] at hrx ⊢; have Hx := Aside0.mk (And.intro hrx (And.intro hbx (Hb.out.1.b.below hbx))); clear hrx hbx hnb))
    | ((with_reducible refine gate_store (ty := 75) (x := .tmp 16) (y := .tmp 100) rfl ?_); refine lbox_put (R' := R') ?hg (.tmp 16) (.tmp 100) ?ho (g := gb) (n := nb) (c := cx) (A := Ax) ?hx ?hy Hx.out.2.2 ?_; (case hg => rfl); (case ho => rfl); (case hx => rfl); (case hy => rfl); go_loud (intro wd hbd hkd hbld hsd; have hX := Hb.out.1; have hbw := hbld _ _ (show w.heap.size ≤ gb by have := hX.g; omega) (below_step hX.bl Hx.out.2.1); have hP := hX.opn Hx.out.2.1 Hx.out.1 hkd hbd hbw; have Hd := Aside0.mk (And.intro hP (And.intro hkd hbw)); clear hbd hkd hbld hsd hX hbw hP)))
  have hC : (pl = .pointer none ∧ er' ≠ 0) ∨ ∃ gl, pl = .pointer (some ⟨gl, 0, none⟩) ∧ er' = 0 := by
    by_cases h0 : er' = 0
    · obtain ⟨gl, hpl, hs⟩ := Hb.out.2.2.1 h0
      exact .inr ⟨gl, hpl, h0⟩
    · exact .inl ⟨Hb.out.2.1 h0, h0⟩
  have hV : LogV w wd (Ext E w7 wb) gd pl D R' := by
    have h1 : LogV w wb (Ext E w7 wb) gd pl D R' := by
      by_cases h0 : er' = 0
      · obtain ⟨gl, hpl, hs⟩ := Hb.out.2.2.1 h0
        exact .inr ⟨gl, beginM D fr n l, hpl, hs, by rw [HY.out.2.2]; exact if_pos (by rw [← HY.out.2.1]; exact h0), nz_begin _ _ _ _⟩
      · exact .inl ⟨Hb.out.2.1 h0, dk_ext HS.out.2.1.dk Hb.out.2.2.2⟩
    have hX := Hb.out.1
    exact (h1.below Hx.out.2.1).kept Hd.out.2.1 (fun k e he => hX.eb (by rw [← e]; exact he)) Hd.out.2.2
  have HV := Aside0.mk hV
  clear hV
  rcases hC with ⟨rfl, h0⟩ | ⟨gm, rfl, rfl⟩
  · have d1 : (er' != 0) = true := bne_iff_ne.2 h0
    go_wp2
    go_meet
    case rel => exact ⟨er', _, _, _, _, _, _, _, D, R', rfl, rfl, ⟨Hd.out.1, HV.out⟩⟩
  · go_wp2
    go_meet
    case rel => exact ⟨0, _, _, _, _, _, _, _, D, R', rfl, rfl, ⟨Hd.out.1, HV.out⟩⟩
end Go.Proofs.Ytnajdnhgoakgaaa.Blk
end
section
namespace Go.Proofs.Ytnajdnhgoakgaaa.Blk
open Go.RowKit Go.Proofs.YtnajdnhgoakgaaaW.PrintWords Go.Proofs.YtnajdnhgoakgaaaW.PrintLast Go.Proofs.YtnajdnhgoakgaaaW.PrintMore Go.Proofs.Ytnajdnhgoakgaaa.Mem Go.Proofs.Ytnajdnhgoakgaaa.Open Go.Proofs.Ytnajdnhgoakgaaa.Wal
set_option linter.unusedVariables false
set_option linter.unusedSimpArgs false
set_option maxRecDepth 100000
set_option maxHeartbeats 8000000
theorem kinds {w w7 : World} {fr n l : Int} {m c i : Nat} {ad : Addr} {gd ga gb gl g19 : Nat} {er : Int} {E : Nat → Prop} {Av Au : Option Addr} {nv cv nu cu : Nat} {D : DM} {L : Wal.LM} {B : Option Addr} {bl bc : Nat} {qk qi qn qt q7 : Int} {qb : List Int}
    (hl : 0 ≤ l ∧ l ≤ 18446744073709551615) (hqe : bits .and .i64 qk 7 = q7)
    (HS : Aside0 (P9 w w7 E ga gb (.slice Av nv cv) (.slice Au nu cu) D (refl_ L) ∧ Wal.Sys w w7 E gd gl D L ∧ Nz L))
    (HA : Aside0 (Act9Box w7 g19 qk qi B bl bc qn qt ∧ (¬ E g19 ∧ g19 ≠ ga ∧ g19 ≠ gb ∧ ¬ Own (.slice Av nv cv) g19 ∧ ¬ Own (.slice Au nu cu) g19 ∧ w.heap.size ≤ g19)))
    (HO : Aside0 ((⟨qk, qi, qb, qn, qt⟩ : A9).Ok ∧ Kd.C (Kd.int .u8) w B qb.length qb ∧ bl = qb.length ∧ bl ≤ bc ∧ bl ≤ 500))
    (a0 : w7.cell? ⟨g19, 0, none⟩ = some (.int .i64 qk)) (a1 : w7.cell? ⟨g19, 1, none⟩ = some (.int .i64 qi)) (a2 : w7.cell? ⟨g19, 2, none⟩ = some (.slice B bl bc)) (a3 : w7.cell? ⟨g19, 3, none⟩ = some (.int .i64 qn)) (a4 : w7.cell? ⟨g19, 4, none⟩ = some (.int .i64 qt)) 
    (c8 c20 c21 c22 c23 c24 c25 c26 c27 c28 c29 c30 c31 c32 c33 c34 c35 c36 c37 c38 c39 c40 c41 c42 c43 c44 c45 c46 c47 c48 c49 c50 c51 c52 c53 c54 c55 c57 c58 c59 c60 c61 c62 c63 c64 c65 c66 c67 c68 c69 c70 c71 c72 c73 c74 c75 c76 c77 c78 c79 c80 c82 c83 c84 c85 c86 c87 c88 c89 c90 c91 c92 c93 c94 c95 c96 c97 c98 c99 c100 c101 c102 c103 c104 c105 c106 c107 c108 c109 c110 c111 c112 c113 c114 c115 c116 c117 c118 c119 c120 c121 c122 c123 c124 c125 c126 c127 c128 c129 c130 c131 c132 c133 c134 c135 c136 c137 c138 c139 c140 c141 c142 c143 c144 c145 c146 c147 c148 c149 c150 c151 c152 c153 c154 c155 c156 c157 c158 c159 c160 c161 c162 c163 c164 c165 c166 c167 c168 c169 c170 c171 c172 c173 c174 c175 c176 c177 c178 c179 c180 c181 c182 c183 c184 c185 c186 c187 c188 c189 c190 c191 c192 c193 c194 c195 c196 c197 c198 c199 c200 c201 c202 c203 c204 c205 c206 c207 c208 c209 c210 c211 c212 c213 c214 c215 c216 c217 c218 c219 c220 c221 c222 c223 c224 c225 c226 c227 c228 c229 c230 c231 c232 c233 c234 c235 c236 c237 c238 c239 : Value) (J K' : Act → World → Prop) (Q1 : Exit → Act → World → Prop)
    (hJ : ∀ (a' : Act) (w' : World), (∃ u8 u14 u15 u17 u20 u21 u57 u58 u59 u60 u61 u62 u63 u64 u65 u66 u67 u68 u69 u70 u71 u72 u73 u74 u75 u76 u77 u78 u79 u80 u82 u83 u84 u85 u86 u87 u88 u89 u90 u91 u92 u93 u94 u95 u96 u97 u98 u99 u100 u101 u102 u103 u104 u105 u106 u107 u108 u109 u110 u111 u112 u113 u114 u115 u116 u117 u118 u119 u120 u121 u122 u123 u124 u125 u126 u127 u128 u129 u130 u131 u132 u133 u134 u135 u136 u137 u138 u139 u140 u141 u142 u143 u144 u145 u146 u147 u148 u149 u150 u151 u152 u153 u154 u155 u156 u157 u158 u159 u160 u161 u162 u163 u164 u165 u166 u167 u168 u169 u170 u171 u172 u173 u174 u175 u176 u177 u178 u179 u180 u181 u182 u183 u184 u185 u186 u187 u188 u189 u190 u191 u192 u193 u194 u195 u196 u197 u198 u199 u200 u201 u202 u203 u204 u205 u206 u207 u208 u209 u210 u211 u212 u213 u214 u215 u216 u217 u218 u219 u220 u221 u222 u223 u224 u225 u226 u227 u228 u229 u230 u231 u232 u233 u234 u235 u236 u237 u238 u239 : Value, (∃ (er : Int) (E : Nat → Prop) (Av Au : Option Addr) (nv cv nu cu : Nat) (D : DM) (R : RL), u15 = .int .i64 er ∧ u17 = .int .i64 er ∧ Aside0 (P9 w w' E ga gb (.slice Av nv cv) (.slice Au nu cu) D R ∧ LogV w w' E gd u14 D R)) ∧ a' = ⟨#[.int .i64 fr, .int .i64 n, .int .u64 l, .slice (some ad) m c, undef, undef, undef, undef, u8, .bool true, .pointer (some ⟨gd, 0, none⟩), .int .i64 0, .pointer (some ⟨ga, 0, none⟩), .int .i64 0, u14, u15, .pointer (some ⟨gb, 0, none⟩), u17, .int .i64 (i : Int), .pointer (some ⟨g19, 0, none⟩), u20, u21, c22, c23, c24, c25, c26, c27, c28, c29, c30, c31, c32, c33, c34, c35, c36, c37, c38, c39, c40, c41, c42, c43, c44, c45, c46, c47, c48, c49, c50, c51, c52, c53, c54, c55, .bool false, u57, u58, u59, u60, u61, u62, u63, u64, u65, u66, u67, u68, u69, u70, u71, u72, u73, u74, u75, u76, u77, u78, u79, u80, .int .i64 q7, u82, u83, u84, u85, u86, u87, u88, u89, u90, u91, u92, u93, u94, u95, u96, u97, u98, u99, u100, u101, u102, u103, u104, u105, u106, u107, u108, u109, u110, u111, u112, u113, u114, u115, u116, u117, u118, u119, u120, u121, u122, u123, u124, u125, u126, u127, u128, u129, u130, u131, u132, u133, u134, u135, u136, u137, u138, u139, u140, u141, u142, u143, u144, u145, u146, u147, u148, u149, u150, u151, u152, u153, u154, u155, u156, u157, u158, u159, u160, u161, u162, u163, u164, u165, u166, u167, u168, u169, u170, u171, u172, u173, u174, u175, u176, u177, u178, u179, u180, u181, u182, u183, u184, u185, u186, u187, u188, u189, u190, u191, u192, u193, u194, u195, u196, u197, u198, u199, u200, u201, u202, u203, u204, u205, u206, u207, u208, u209, u210, u211, u212, u213, u214, u215, u216, u217, u218, u219, u220, u221, u222, u223, u224, u225, u226, u227, u228, u229, u230, u231, u232, u233, u234, u235, u236, u237, u238, u239], []⟩) → J a' w') (hK : ∀ (a' : Act) (w' : World), Met J a' w' → K' a' w') :
    Code.wp Try.prog kcode (Exit.then K' Q1) ⟨#[.int .i64 fr, .int .i64 n, .int .u64 l, .slice (some ad) m c, undef, undef, undef, undef, c8, .bool true, .pointer (some ⟨gd, 0, none⟩), .int .i64 0, .pointer (some ⟨ga, 0, none⟩), .int .i64 0, .pointer (some ⟨gl, 0, none⟩), .int .i64 er, .pointer (some ⟨gb, 0, none⟩), .int .i64 er, .int .i64 (i : Int), .pointer (some ⟨g19, 0, none⟩), c20, c21, c22, c23, c24, c25, c26, c27, c28, c29, c30, c31, c32, c33, c34, c35, c36, c37, c38, c39, c40, c41, c42, c43, c44, c45, c46, c47, c48, c49, c50, c51, c52, c53, c54, c55, .bool false, c57, c58, c59, c60, c61, c62, c63, c64, c65, c66, c67, c68, c69, c70, c71, c72, c73, c74, c75, c76, c77, c78, c79, c80, .int .i64 q7, c82, c83, c84, c85, c86, c87, c88, c89, c90, c91, c92, c93, c94, c95, c96, c97, c98, c99, c100, c101, c102, c103, c104, c105, c106, c107, c108, c109, c110, c111, c112, c113, c114, c115, c116, c117, c118, c119, c120, c121, c122, c123, c124, c125, c126, c127, c128, c129, c130, c131, c132, c133, c134, c135, c136, c137, c138, c139, c140, c141, c142, c143, c144, c145, c146, c147, c148, c149, c150, c151, c152, c153, c154, c155, c156, c157, c158, c159, c160, c161, c162, c163, c164, c165, c166, c167, c168, c169, c170, c171, c172, c173, c174, c175, c176, c177, c178, c179, c180, c181, c182, c183, c184, c185, c186, c187, c188, c189, c190, c191, c192, c193, c194, c195, c196, c197, c198, c199, c200, c201, c202, c203, c204, c205, c206, c207, c208, c209, c210, c211, c212, c213, c214, c215, c216, c217, c218, c219, c220, c221, c222, c223, c224, c225, c226, c227, c228, c229, c230, c231, c232, c233, c234, c235, c236, c237, c238, c239], []⟩ w7 := by
  by_cases h3 : q7 = 3
  · exact kind_stop hl hqe HS HA HO a0 a1 a2 a3 a4 h3 c8 c20 c21 c22 c23 c24 c25 c26 c27 c28 c29 c30 c31 c32 c33 c34 c35 c36 c37 c38 c39 c40 c41 c42 c43 c44 c45 c46 c47 c48 c49 c50 c51 c52 c53 c54 c55 c57 c58 c59 c60 c61 c62 c63 c64 c65 c66 c67 c68 c69 c70 c71 c72 c73 c74 c75 c76 c77 c78 c79 c80 c82 c83 c84 c85 c86 c87 c88 c89 c90 c91 c92 c93 c94 c95 c96 c97 c98 c99 c100 c101 c102 c103 c104 c105 c106 c107 c108 c109 c110 c111 c112 c113 c114 c115 c116 c117 c118 c119 c120 c121 c122 c123 c124 c125 c126 c127 c128 c129 c130 c131 c132 c133 c134 c135 c136 c137 c138 c139 c140 c141 c142 c143 c144 c145 c146 c147 c148 c149 c150 c151 c152 c153 c154 c155 c156 c157 c158 c159 c160 c161 c162 c163 c164 c165 c166 c167 c168 c169 c170 c171 c172 c173 c174 c175 c176 c177 c178 c179 c180 c181 c182 c183 c184 c185 c186 c187 c188 c189 c190 c191 c192 c193 c194 c195 c196 c197 c198 c199 c200 c201 c202 c203 c204 c205 c206 c207 c208 c209 c210 c211 c212 c213 c214 c215 c216 c217 c218 c219 c220 c221 c222 c223 c224 c225 c226 c227 c228 c229 c230 c231 c232 c233 c234 c235 c236 c237 c238 c239 J K' Q1 hJ hK
  by_cases h4 : q7 = 4
  · exact kind_write hl hqe HS HA HO a0 a1 a2 a3 a4 h4 c8 c20 c21 c22 c23 c24 c25 c26 c27 c28 c29 c30 c31 c32 c33 c34 c35 c36 c37 c38 c39 c40 c41 c42 c43 c44 c45 c46 c47 c48 c49 c50 c51 c52 c53 c54 c55 c57 c58 c59 c60 c61 c62 c63 c64 c65 c66 c67 c68 c69 c70 c71 c72 c73 c74 c75 c76 c77 c78 c79 c80 c82 c83 c84 c85 c86 c87 c88 c89 c90 c91 c92 c93 c94 c95 c96 c97 c98 c99 c100 c101 c102 c103 c104 c105 c106 c107 c108 c109 c110 c111 c112 c113 c114 c115 c116 c117 c118 c119 c120 c121 c122 c123 c124 c125 c126 c127 c128 c129 c130 c131 c132 c133 c134 c135 c136 c137 c138 c139 c140 c141 c142 c143 c144 c145 c146 c147 c148 c149 c150 c151 c152 c153 c154 c155 c156 c157 c158 c159 c160 c161 c162 c163 c164 c165 c166 c167 c168 c169 c170 c171 c172 c173 c174 c175 c176 c177 c178 c179 c180 c181 c182 c183 c184 c185 c186 c187 c188 c189 c190 c191 c192 c193 c194 c195 c196 c197 c198 c199 c200 c201 c202 c203 c204 c205 c206 c207 c208 c209 c210 c211 c212 c213 c214 c215 c216 c217 c218 c219 c220 c221 c222 c223 c224 c225 c226 c227 c228 c229 c230 c231 c232 c233 c234 c235 c236 c237 c238 c239 J K' Q1 hJ hK
  by_cases h7 : q7 = 7
  · exact kind_begin hl hqe HS HA HO a0 a1 a2 a3 a4 h7 c8 c20 c21 c22 c23 c24 c25 c26 c27 c28 c29 c30 c31 c32 c33 c34 c35 c36 c37 c38 c39 c40 c41 c42 c43 c44 c45 c46 c47 c48 c49 c50 c51 c52 c53 c54 c55 c57 c58 c59 c60 c61 c62 c63 c64 c65 c66 c67 c68 c69 c70 c71 c72 c73 c74 c75 c76 c77 c78 c79 c80 c82 c83 c84 c85 c86 c87 c88 c89 c90 c91 c92 c93 c94 c95 c96 c97 c98 c99 c100 c101 c102 c103 c104 c105 c106 c107 c108 c109 c110 c111 c112 c113 c114 c115 c116 c117 c118 c119 c120 c121 c122 c123 c124 c125 c126 c127 c128 c129 c130 c131 c132 c133 c134 c135 c136 c137 c138 c139 c140 c141 c142 c143 c144 c145 c146 c147 c148 c149 c150 c151 c152 c153 c154 c155 c156 c157 c158 c159 c160 c161 c162 c163 c164 c165 c166 c167 c168 c169 c170 c171 c172 c173 c174 c175 c176 c177 c178 c179 c180 c181 c182 c183 c184 c185 c186 c187 c188 c189 c190 c191 c192 c193 c194 c195 c196 c197 c198 c199 c200 c201 c202 c203 c204 c205 c206 c207 c208 c209 c210 c211 c212 c213 c214 c215 c216 c217 c218 c219 c220 c221 c222 c223 c224 c225 c226 c227 c228 c229 c230 c231 c232 c233 c234 c235 c236 c237 c238 c239 J K' Q1 hJ hK
  by_cases k0 : q7 = 0
  · exact kind_add hl hqe HS HA HO a0 a1 a2 a3 a4 (.inl k0) c8 c20 c21 c22 c23 c24 c25 c26 c27 c28 c29 c30 c31 c32 c33 c34 c35 c36 c37 c38 c39 c40 c41 c42 c43 c44 c45 c46 c47 c48 c49 c50 c51 c52 c53 c54 c55 c57 c58 c59 c60 c61 c62 c63 c64 c65 c66 c67 c68 c69 c70 c71 c72 c73 c74 c75 c76 c77 c78 c79 c80 c82 c83 c84 c85 c86 c87 c88 c89 c90 c91 c92 c93 c94 c95 c96 c97 c98 c99 c100 c101 c102 c103 c104 c105 c106 c107 c108 c109 c110 c111 c112 c113 c114 c115 c116 c117 c118 c119 c120 c121 c122 c123 c124 c125 c126 c127 c128 c129 c130 c131 c132 c133 c134 c135 c136 c137 c138 c139 c140 c141 c142 c143 c144 c145 c146 c147 c148 c149 c150 c151 c152 c153 c154 c155 c156 c157 c158 c159 c160 c161 c162 c163 c164 c165 c166 c167 c168 c169 c170 c171 c172 c173 c174 c175 c176 c177 c178 c179 c180 c181 c182 c183 c184 c185 c186 c187 c188 c189 c190 c191 c192 c193 c194 c195 c196 c197 c198 c199 c200 c201 c202 c203 c204 c205 c206 c207 c208 c209 c210 c211 c212 c213 c214 c215 c216 c217 c218 c219 c220 c221 c222 c223 c224 c225 c226 c227 c228 c229 c230 c231 c232 c233 c234 c235 c236 c237 c238 c239 J K' Q1 hJ hK
  by_cases k1 : q7 = 1
  · exact kind_add hl hqe HS HA HO a0 a1 a2 a3 a4 (.inr (.inl k1)) c8 c20 c21 c22 c23 c24 c25 c26 c27 c28 c29 c30 c31 c32 c33 c34 c35 c36 c37 c38 c39 c40 c41 c42 c43 c44 c45 c46 c47 c48 c49 c50 c51 c52 c53 c54 c55 c57 c58 c59 c60 c61 c62 c63 c64 c65 c66 c67 c68 c69 c70 c71 c72 c73 c74 c75 c76 c77 c78 c79 c80 c82 c83 c84 c85 c86 c87 c88 c89 c90 c91 c92 c93 c94 c95 c96 c97 c98 c99 c100 c101 c102 c103 c104 c105 c106 c107 c108 c109 c110 c111 c112 c113 c114 c115 c116 c117 c118 c119 c120 c121 c122 c123 c124 c125 c126 c127 c128 c129 c130 c131 c132 c133 c134 c135 c136 c137 c138 c139 c140 c141 c142 c143 c144 c145 c146 c147 c148 c149 c150 c151 c152 c153 c154 c155 c156 c157 c158 c159 c160 c161 c162 c163 c164 c165 c166 c167 c168 c169 c170 c171 c172 c173 c174 c175 c176 c177 c178 c179 c180 c181 c182 c183 c184 c185 c186 c187 c188 c189 c190 c191 c192 c193 c194 c195 c196 c197 c198 c199 c200 c201 c202 c203 c204 c205 c206 c207 c208 c209 c210 c211 c212 c213 c214 c215 c216 c217 c218 c219 c220 c221 c222 c223 c224 c225 c226 c227 c228 c229 c230 c231 c232 c233 c234 c235 c236 c237 c238 c239 J K' Q1 hJ hK
  by_cases k2 : q7 = 2
  · exact kind_add hl hqe HS HA HO a0 a1 a2 a3 a4 (.inr (.inr k2)) c8 c20 c21 c22 c23 c24 c25 c26 c27 c28 c29 c30 c31 c32 c33 c34 c35 c36 c37 c38 c39 c40 c41 c42 c43 c44 c45 c46 c47 c48 c49 c50 c51 c52 c53 c54 c55 c57 c58 c59 c60 c61 c62 c63 c64 c65 c66 c67 c68 c69 c70 c71 c72 c73 c74 c75 c76 c77 c78 c79 c80 c82 c83 c84 c85 c86 c87 c88 c89 c90 c91 c92 c93 c94 c95 c96 c97 c98 c99 c100 c101 c102 c103 c104 c105 c106 c107 c108 c109 c110 c111 c112 c113 c114 c115 c116 c117 c118 c119 c120 c121 c122 c123 c124 c125 c126 c127 c128 c129 c130 c131 c132 c133 c134 c135 c136 c137 c138 c139 c140 c141 c142 c143 c144 c145 c146 c147 c148 c149 c150 c151 c152 c153 c154 c155 c156 c157 c158 c159 c160 c161 c162 c163 c164 c165 c166 c167 c168 c169 c170 c171 c172 c173 c174 c175 c176 c177 c178 c179 c180 c181 c182 c183 c184 c185 c186 c187 c188 c189 c190 c191 c192 c193 c194 c195 c196 c197 c198 c199 c200 c201 c202 c203 c204 c205 c206 c207 c208 c209 c210 c211 c212 c213 c214 c215 c216 c217 c218 c219 c220 c221 c222 c223 c224 c225 c226 c227 c228 c229 c230 c231 c232 c233 c234 c235 c236 c237 c238 c239 J K' Q1 hJ hK
  · exact kind_open hl hqe HS HA HO a0 a1 a2 a3 a4 k0 k1 k2 h3 h4 h7 c8 c20 c21 c22 c23 c24 c25 c26 c27 c28 c29 c30 c31 c32 c33 c34 c35 c36 c37 c38 c39 c40 c41 c42 c43 c44 c45 c46 c47 c48 c49 c50 c51 c52 c53 c54 c55 c57 c58 c59 c60 c61 c62 c63 c64 c65 c66 c67 c68 c69 c70 c71 c72 c73 c74 c75 c76 c77 c78 c79 c80 c82 c83 c84 c85 c86 c87 c88 c89 c90 c91 c92 c93 c94 c95 c96 c97 c98 c99 c100 c101 c102 c103 c104 c105 c106 c107 c108 c109 c110 c111 c112 c113 c114 c115 c116 c117 c118 c119 c120 c121 c122 c123 c124 c125 c126 c127 c128 c129 c130 c131 c132 c133 c134 c135 c136 c137 c138 c139 c140 c141 c142 c143 c144 c145 c146 c147 c148 c149 c150 c151 c152 c153 c154 c155 c156 c157 c158 c159 c160 c161 c162 c163 c164 c165 c166 c167 c168 c169 c170 c171 c172 c173 c174 c175 c176 c177 c178 c179 c180 c181 c182 c183 c184 c185 c186 c187 c188 c189 c190 c191 c192 c193 c194 c195 c196 c197 c198 c199 c200 c201 c202 c203 c204 c205 c206 c207 c208 c209 c210 c211 c212 c213 c214 c215 c216 c217 c218 c219 c220 c221 c222 c223 c224 c225 c226 c227 c228 c229 c230 c231 c232 c233 c234 c235 c236 c237 c238 c239 J K' Q1 hJ hK
end Go.Proofs.Ytnajdnhgoakgaaa.Blk
end
