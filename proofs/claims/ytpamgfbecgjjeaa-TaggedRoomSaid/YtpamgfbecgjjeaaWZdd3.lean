/-
  The walk of joining.
-/
import Derived.Test.YtpamgfbecgjjeaaProg
import Derived.Test.YtpamgfbecgjjeaaWZdd2
namespace Go.Proofs.Ytpamgfbecgjjeaa
set_option linter.unusedVariables false
set_option linter.unusedSimpArgs false
open Go Go.RowKit

theorem tb_z90 : zeroI Try.prog 90 = some (.agg #[.int .i64 0, .int .i64 0, .int .i64 0, .int .i64 0, .int .i64 0, .int .i64 0]) := by kernel_rfl
theorem tb_size89 : (Try.prog.info? 89).map (·.size) = some 2 := by kernel_rfl
theorem tb_build90_0_1_2 {f : Nat → Value} {w : World} {d : Option Nat} {ty : TypeId} {ps : String} {af : Array Edge} {g : Option (Nat × Bool)} {x0 x1 x2 : Operand} {c0_0 c0_1 c1_0 c1_1 c2_0 c2_1 : Value} (h0 : evF f x0 = .agg #[c0_0, c0_1]) (h1 : evF f x1 = .agg #[c1_0, c1_1]) (h2 : evF f x2 = .agg #[c2_0, c2_1]) :
    (execOp (evF f) ⟨d, .build 90 #[(0, x0), (1, x1), (2, x2)], ty, ps, af, g⟩).run Try.prog w = .ok (.value (.agg #[c0_0, c0_1, c1_0, c1_1, c2_0, c2_1])) w := by
  obtain ⟨i0, hi0, hz0⟩ := Option.bind_eq_some_iff.1 (show (Try.prog.info? 90).bind (·.zero) = _ from tb_z90)
  obtain ⟨j89, hj89, hs89⟩ := Option.map_eq_some_iff.1 tb_size89
  simp [execOp, h0, h1, h2, Instr.build, zeroValue, typeInfo, sizeOf, hi0, hz0, run_underlying Try.underlying90, Instr.fill, cells_agg, hj89, hs89]
theorem tb_c33 : callB Try.prog 33 = true := by kernel_rfl
theorem tb_c70 : callB Try.prog 70 = true := by kernel_rfl
theorem tb_c71 : callB Try.prog 71 = true := by kernel_rfl

theorem jx_part {f0 f1 g0 g1 i : Nat} (hi : i < 3) (w : World) : (part 89 #[.int .i64 (f1 : Int), .int .i64 (g0 : Int), .int .i64 (f0 : Int), .int .i64 (g1 : Int), .int .i64 (f1 : Int), .int .i64 (g1 : Int)] (i * 2)).run Try.prog w = .ok (.agg #[.int .i64 ((pxN f0 f1 i : Nat) : Int), .int .i64 ((pyN g0 g1 i : Nat) : Int)]) w := by
  obtain ⟨j0, hj0, hs0⟩ := Option.map_eq_some_iff.1 (show (Try.prog.info? 89).map (·.size) = some 2 by kernel_rfl)
  have : i = 0 ∨ i = 1 ∨ i = 2 := by omega
  rcases this with rfl | rfl | rfl <;> simp [part, isAgg, sizeOf, typeInfo, hj0, hs0, run_underlying Try.underlying89] <;> exact ⟨rfl, rfl⟩
theorem jx_size (w : World) : (sizeOf 89).run Try.prog w = .ok 2 w := by
  obtain ⟨j0, hj0, hs0⟩ := Option.map_eq_some_iff.1 (show (Try.prog.info? 89).map (·.size) = some 2 by kernel_rfl)
  simp [sizeOf, typeInfo, hj0, hs0]

set_option maxRecDepth 10000 in
theorem C_joinH (ge gh n : Nat) (N ba bm bz bd bx R : Nat) (ns : List Nd) (dl : List ((Nat × Nat) × Int)) (f0 f1 g0 g1 l : Nat) (w : World) (ih : DoAt ge gh opJ n) (hN0 : N ≤ w.heap.size) (hz : At w bz #[.pointer (some ⟨ba, 0, none⟩)] 100) (hbd : At w bd #[.pointer (some ⟨bz, 0, none⟩), .func (.func ge) #[] #[], .func (.func gh) #[] #[], .map (some bx)] 94) (hD : Dia 147 150 N ba bm R w ns) (hdn : MapT key2 keyI w bx dl) (hdone : Done opJ.res ns dl) (lox : N ≤ bx) (hxm : bx ≠ bm) (v0 : f0 < ns.length + 2) (v1 : f1 < ns.length + 2) (v2 : g0 < ns.length + 2) (v3 : g1 < ns.length + 2) (k0 : l < lvl ns f0) (k1 : l < lvl ns f1) (k2 : l < lvl ns g0) (k3 : l < lvl ns g1) (h24 : l < 24) (hn : 24 - l ≤ n) :
    FnG Try.prog 71 #[.pointer (some ⟨bd, 0, none⟩), .agg #[.int .i64 (f0 : Int), .int .i64 (f1 : Int)], .agg #[.int .i64 (g0 : Int), .int .i64 (g1 : Int)]] w fun v w' => PD 147 150 N ba bm R bx opJ.res w ns (opJ.hcst ns l f0 f1 g0 g1) (l + 1) (opJ.resH (M ns f0) (M ns f1) (M ns g0) (M ns g1)) v w' := by
 refine FnG_intro (n := 58) Try.func71 rfl rfl (Nat.le_of_ble_eq_true rfl) ?_
 have hB : Below N w w := Below.refl _ _
 have hX : Dx 150 N [bx, ba, bm] w w := Dx.refl
 have hwn := hD.wf
 refine WC_seq (fun K1 hK2 => ?_)
 refine WC_region ?_
 refine WL_step (dd := some 4) rfl rfl rfl (Y_box (c := #[_, _]) rfl rfl (fun b0_0 W3 hb4 hE5 hm0_0 => ?_))
 have lo_b0_0 : N ≤ b0_0 := hb4 ▸ (Nat.le_trans hN0 (Below.size hB))
 clear hb4
 replace hz := hE5.at hz
 replace hbd := hE5.at hbd
 replace hD := Dia.ext hE5 hD
 replace hdn := hE5.mapT hdn
 replace hX := Dx.trans hX (Dx.ext hE5)
 replace hB := below_ext hB hE5 hN0
 clear hE5
 refine WL_step (dd := some 5) rfl rfl rfl (Y_box (c := #[_, _]) rfl rfl (fun b0_1 W6 hb7 hE8 hm0_1 => ?_))
 have lo_b0_1 : N ≤ b0_1 := hb7 ▸ (Nat.le_trans hN0 (Below.size hB))
 have ne_b0_0_b0_1 : b0_0 ≠ b0_1 := Nat.ne_of_lt (hb7 ▸ hm0_0.lt)
 clear hb7
 replace hz := hE8.at hz
 replace hbd := hE8.at hbd
 replace hD := Dia.ext hE8 hD
 replace hdn := hE8.mapT hdn
 replace hX := Dx.trans hX (Dx.ext hE8)
 replace hB := below_ext hB hE8 hN0
 replace hm0_0 := hE8.at hm0_0
 clear hE8
 refine WL_val (dd := some 6) rfl rfl rfl (r_assign (v := .int .i64 0) rfl) ?_
 refine WL_val (dd := some 7) rfl rfl rfl (r_assign (v := .int .i64 0) rfl) ?_
 refine WL_nil ?_
 refine hK2 _ _ ?_
 clear hK2 K1
 refine WC_seq (fun K9 hK10 => ?_)
 refine WC_region ?_
 refine WL_val (dd := some 8) rfl rfl rfl (r_assign (v := .int .i64 0) rfl) ?_
 refine WL_nil ?_
 refine hK10 _ _ ?_
 clear hK10 K9
 refine WC_seq (fun K11 hK12 => ?_)
 refine WC_seq (fun K13 hK14 => ?_)
 refine WC_region ?_
 refine WL_val (dd := some 13) rfl rfl rfl (r_idxA rfl rfl tb_ar89 (by omega) (by omega)) ?_
 refine WL_val (dd := some 14) rfl rfl rfl (r_load1 (v := .int .i64 _) rfl tb_sc3 (At.cell hm0_0 rfl)) ?_
 refine WL_val (dd := some 15) rfl rfl rfl (r_idxA rfl rfl tb_ar89 (by omega) (by omega)) ?_
 refine WL_val (dd := some 16) rfl rfl rfl (r_load1 (v := .int .i64 _) rfl tb_sc3 (At.cell hm0_1 rfl)) ?_
 refine WL_val (dd := some 17) rfl rfl rfl (tb_build89_0_1 (h0 := rfl) (k0 := rfl) (h1 := rfl) (k1 := rfl) (c0_0 := .int .i64 _) (c1_0 := .int .i64 _)) ?_
 refine WL_val (dd := some 18) rfl rfl rfl (r_idxA rfl rfl tb_ar89 (by omega) (by omega)) ?_
 refine WL_val (dd := some 19) rfl rfl rfl (r_load1 (v := .int .i64 _) rfl tb_sc3 (At.cell hm0_0 rfl)) ?_
 refine WL_val (dd := some 20) rfl rfl rfl (r_idxA rfl rfl tb_ar89 (by omega) (by omega)) ?_
 refine WL_val (dd := some 21) rfl rfl rfl (r_load1 (v := .int .i64 _) rfl tb_sc3 (At.cell hm0_1 rfl)) ?_
 refine WL_val (dd := some 22) rfl rfl rfl (tb_build89_0_1 (h0 := rfl) (k0 := rfl) (h1 := rfl) (k1 := rfl) (c0_0 := .int .i64 _) (c1_0 := .int .i64 _)) ?_
 refine WL_val (dd := some 23) rfl rfl rfl (r_idxA rfl rfl tb_ar89 (by omega) (by omega)) ?_
 refine WL_val (dd := some 24) rfl rfl rfl (r_load1 (v := .int .i64 _) rfl tb_sc3 (At.cell hm0_0 rfl)) ?_
 refine WL_val (dd := some 25) rfl rfl rfl (r_idxA rfl rfl tb_ar89 (by omega) (by omega)) ?_
 refine WL_val (dd := some 26) rfl rfl rfl (r_load1 (v := .int .i64 _) rfl tb_sc3 (At.cell hm0_1 rfl)) ?_
 refine WL_val (dd := some 27) rfl rfl rfl (tb_build89_0_1 (h0 := rfl) (k0 := rfl) (h1 := rfl) (k1 := rfl) (c0_0 := .int .i64 _) (c1_0 := .int .i64 _)) ?_
 refine WL_val (dd := some 28) rfl rfl rfl (tb_build90_0_1_2 (h0 := rfl) (h1 := rfl) (h2 := rfl) ) ?_
 refine WL_val (dd := some 29) rfl rfl rfl (r_move (v := .int .i64 0) rfl) ?_
 refine WL_nil ?_
 refine hK14 _ _ ?_
 clear hK14 K13
 refine WC_block ?_
 refine WC_loop (σ := (Nat) × (Nat) × (List Nd) × (List ((Nat × Nat) × Int))) [6, 7, 8, 10, 11, 12, 29, 30, 31, 32, 33, 34, 35, 36, 37, 38, 39, 40, 41, 42, 43, 44, 45, 46, 47, 48, 49, 50, 51, 52, 53, 54, 55, 56] (fun (i, out, nsc, dlc) => [(29, .int .i64 (i : Int)), (8, .int .i64 (out : Int))]) (fun sg W => match sg with | (i, out, nsc, dlc) => (At W bz _ 100) ∧ (At W bd _ 94) ∧ (Dx 150 N [bx, ba, bm] w W) ∧ (Below N w W) ∧ (At W b0_0 _ 89) ∧ (At W b0_1 _ 89) ∧ (Dia 147 150 N ba bm R W nsc) ∧ (MapT key2 keyI W bx dlc) ∧ (i ≤ 3) ∧ (Done opJ.res nsc dlc) ∧ (Got ns nsc R (cJs ns l f0 f1 g0 g1 i) (l + 1) (JU (M ns f0) (M ns f1) (M ns g0) (M ns g1) i) out 0) ∧ (True)) (fun (i, out, nsc, dlc) => 3 - i) ((0, 0, ns, dl)) ⟨rfl, rfl, trivial⟩ ⟨hz, hbd, hX, hB, hm0_0, hm0_1, hD, hdn, (Nat.zero_le _), hdone, (Got.same (by omega) (by rw [lvl0]; omega) (JU_0 _ _ _ _ ns)), trivial⟩ ?_
 clear hz hbd hD hdn hX hB hm0_0 hm0_1
 rintro ⟨i, out, nsc, dlc⟩ g16 W15 ⟨hz, hbd, hX, hB, hm0_0, hm0_1, hD, hdn, hi, hdone, hg, _⟩ J17 hJ18
 refine WC_seq (fun K19 hK20 => ?_)
 refine WC_region ?_
 refine WL_val (dd := some 30) rfl rfl rfl (r_lss rfl rfl) ?_
 refine WL_nil ?_
 refine hK20 _ _ ?_
 clear hK20 K19
 refine WC_seq (fun K21 hK22 => ?_)
 refine WC_cond (b := _) rfl (fun hc0 => ?_) (fun hc0 => ?_)
 ·
  try with_reducible replace hc0 := of_decide_eq_true hc0
  refine WC_skip ?_
  refine hK22 _ _ ?_
  clear hK22 K21
  refine WC_seq (fun K23 hK24 => ?_)
  refine WC_block ?_
  refine WC_seq (fun K25 hK26 => ?_)
  have hBo27 := hB
  replace hB := Below.refl W15.heap.size W15
  have hcw := hD.wf
  have hpx : pxN f0 f1 i < ns.length + 2 := by rcases px_cases (show i < 3 by omega) f0 f1 with e | e <;> rw [e] <;> assumption
  have hpy : pyN g0 g1 i < ns.length + 2 := by rcases py_cases (show i < 3 by omega) g0 g1 with e | e <;> rw [e] <;> assumption
  have klx : l < lvl ns (pxN f0 f1 i) := by rcases px_cases (show i < 3 by omega) f0 f1 with e | e <;> rw [e] <;> assumption
  have kly : l < lvl ns (pyN g0 g1 i) := by rcases py_cases (show i < 3 by omega) g0 g1 with e | e <;> rw [e] <;> assumption
  obtain ⟨x1, x2, x3⟩ := hg.old hpx
  obtain ⟨y1, y2, y3⟩ := hg.old hpy
  obtain ⟨o1, o2, o3⟩ := hg.ok rfl
  refine WC_region ?_
  refine WL_val (dd := some 31) rfl rfl rfl (r_indexP rfl rfl Try.underlying90 (by omega) (jx_size _) (jx_part (by omega) _)) ?_
  refine WL_step (dd := some 10) rfl rfl rfl (Y_alloc tb_z89 rfl (fun b4_1 W28 hb29 hE30 hm4_1 => ?_))
  have lo_b4_1 : W15.heap.size ≤ b4_1 := hb29 ▸ (Below.size hB)
  clear hb29
  replace hB := below_ext hB hE30 (Nat.le_refl _)
  clear hE30
  refine WL_step (dd := none) rfl rfl rfl (Y_storeW rfl rfl tb_ag89 rfl hm4_1 rfl (by rfl) (fun W31 hG32 hm33 => ?_))
  replace hB := below_grown hB hG32 (Nat.le_refl _) (fun j hj => by cases hj; exact lo_b4_1)
  clear hG32 hm4_1
  have hm4_1 := hm33
  clear hm33
  refine WL_nil ?_
  refine hK26 _ _ ?_
  clear hK26 K25
  refine WC_seq (fun K34 hK35 => ?_)
  replace hz := Below.atI hB hz
  replace hbd := Below.atI hB hbd
  replace hX := Dx.trans hX (Dx.below hB)
  replace hm0_0 := Below.atI hB hm0_0
  replace hm0_1 := Below.atI hB hm0_1
  replace hD := Dia.below hB hD
  replace hdn := Below.mapI hB hdn
  have hzs := Nat.le_trans hN0 (Below.size hBo27)
  replace lo_b4_1 := Nat.le_trans hzs lo_b4_1
  replace hB := Below.trans hBo27 (Below.mono hB hzs)
  clear hBo27 hzs
  refine WC_region ?_
  refine WL_val (dd := some 33) rfl rfl rfl (r_move (v := .pointer (some ⟨bd, 0, none⟩)) rfl) ?_
  refine WL_val (dd := some 34) rfl rfl rfl (r_idxA rfl rfl tb_ar89 (by omega) (by omega)) ?_
  refine WL_val (dd := some 35) rfl rfl rfl (r_load1 (v := .int .i64 _) rfl tb_sc3 (At.cell hm4_1 rfl)) ?_
  refine WL_val (dd := some 36) rfl rfl rfl (r_idxA rfl rfl tb_ar89 (by omega) (by omega)) ?_
  refine WL_val (dd := some 37) rfl rfl rfl (r_load1 (v := .int .i64 _) rfl tb_sc3 (At.cell hm4_1 rfl)) ?_
  refine WL_callG (dd := some 38) rfl rfl rfl (r_call3 tb_c72 (v0 := .pointer (some ⟨bd, 0, none⟩)) rfl (v1 := .int .i64 _) rfl (v2 := .int .i64 _) rfl) (ih N ba bm bz bd bx R nsc dlc (pxN f0 f1 i) (pyN g0 g1 i) _ (Nat.le_trans hN0 (Below.size hB)) hz hbd hD hdn hdone lox hxm x1 y1 (by rw [x3, y3]; omega)) (fun v5_5 W36 hP5_5 => ?_)
  obtain ⟨ns5_5, id5_5, er5_5, dl5_5, rfl, hx5_5, hDn5_5, hg5_5, hdn5_5, hdone5_5⟩ := hP5_5
  replace hz := At.dxm hD hdn hx5_5 hz (by decide) (by decide)
  replace hbd := At.dxm hD hdn hx5_5 hbd (by decide) (by decide)
  replace hX := Dx.trans hX hx5_5
  replace hB := Below.dx hB (Nat.le_refl _) hN0 hx5_5
  replace hm0_0 := At.dxm hD hdn hx5_5 hm0_0 (by decide) (by decide)
  replace hm0_1 := At.dxm hD hdn hx5_5 hm0_1 (by decide) (by decide)
  replace hm4_1 := At.dxm hD hdn hx5_5 hm4_1 (by decide) (by decide)
  replace hD := hDn5_5
  replace hdn := hdn5_5
  replace hdone := hdone5_5
  refine WL_val (dd := some 32) rfl rfl rfl (r_move (v := .tuple #[.int .i64 (id5_5 : Int), .int .i64 er5_5]) rfl) ?_
  refine WL_val (dd := some 39) rfl rfl rfl (r_ext2_0 (h := rfl)) ?_
  refine WL_val (dd := some 40) rfl rfl rfl (r_ext2_1 (h := rfl)) ?_
  refine WL_val (dd := some 11) rfl rfl rfl (r_assign (v := .int .i64 _) rfl) ?_
  refine WL_val (dd := some 12) rfl rfl rfl (r_assign (v := .int .i64 _) rfl) ?_
  refine WL_nil ?_
  refine hK35 _ _ ?_
  clear hK35 K34
  refine WC_seq (fun K38 hK39 => ?_)
  refine WC_seq (fun K40 hK41 => ?_)
  refine WC_region ?_
  refine WL_val (dd := some 41) rfl rfl rfl (r_move (v := .int .i64 _) rfl) ?_
  refine WL_val (dd := some 42) rfl rfl rfl (r_eql rfl rfl) ?_
  refine WL_nil ?_
  refine hK41 _ _ ?_
  clear hK41 K40
  refine WC_cond (b := _) rfl (fun hc1 => ?_) (fun hc1 => ?_)
  ·
   try with_reducible replace hc1 := of_decide_eq_true hc1
   have he1 : er5_5 = 0 := hc1
   subst he1
   obtain ⟨d1, d2, d3⟩ := hg5_5.ok rfl
   obtain ⟨q1, q2, q3⟩ := hg5_5.old o1
   have hw1 := hD.wf
   refine WC_region ?_
   refine WL_val (dd := some 44) rfl rfl rfl (r_move (v := .pointer (some ⟨bd, 0, none⟩)) rfl) ?_
   refine WL_val (dd := some 45) rfl rfl rfl (r_nilCheck_ptr rfl) ?_
   refine WL_val (dd := some 46) rfl rfl rfl (r_fieldAddr (b := _) (o := _) rfl tb_fo94_0) ?_
   refine WL_val (dd := some 47) rfl rfl rfl (r_load1 (v := .pointer (some ⟨bz, 0, none⟩)) rfl tb_sc24 (At.cell hbd rfl)) ?_
   refine WL_val (dd := some 48) rfl rfl rfl (r_move (v := .int .i64 _) rfl) ?_
   refine WL_val (dd := some 49) rfl rfl rfl (r_move (v := .int .i64 _) rfl) ?_
   refine WL_callG (dd := some 50) rfl rfl rfl (r_call3 tb_c33 (v0 := .pointer (some ⟨bz, 0, none⟩)) rfl (v1 := .int .i64 _) rfl (v2 := .int .i64 _) rfl) (C___zdd_Zdd__Union N ba bm bz R ns5_5 out id5_5 _ (Nat.le_trans hN0 (Below.size hB)) hz hD q1 d1) (fun v7_6 W42 hP7_6 => ?_)
   obtain ⟨ns7_6, id7_6, er7_6, rfl, hx7_6, hDn7_6, hg7_6⟩ := hP7_6
   replace hz := At.dx hD hx7_6 hz (by decide) (by decide)
   replace hbd := At.dx hD hx7_6 hbd (by decide) (by decide)
   replace hX := Dx.trans hX (Dx.toX hx7_6)
   replace hB := Below.dx hB (Nat.le_refl _) hN0 hx7_6
   replace hm0_0 := At.dx hD hx7_6 hm0_0 (by decide) (by decide)
   replace hm0_1 := At.dx hD hx7_6 hm0_1 (by decide) (by decide)
   replace hdn := MapT.dx hD hx7_6 hdn hxm
   replace hm4_1 := At.dx hD hx7_6 hm4_1 (by decide) (by decide)
   replace hD := hDn7_6
   have hgj := j2_got hwn hcw hw1 (show i < 3 by omega) h24 v0 v1 v2 v3 k0 k1 k2 k3 hg hg5_5 hg7_6
   replace hdone := hdone.pre hg7_6.pre
   refine WL_val (dd := some 43) rfl rfl rfl (r_move (v := .tuple #[.int .i64 (id7_6 : Int), .int .i64 er7_6]) rfl) ?_
   refine WL_val (dd := some 51) rfl rfl rfl (r_ext2_0 (h := rfl)) ?_
   refine WL_val (dd := some 52) rfl rfl rfl (r_ext2_1 (h := rfl)) ?_
   refine WL_val (dd := some 8) rfl rfl rfl (r_assign (v := .int .i64 _) rfl) ?_
   refine WL_val (dd := some 12) rfl rfl rfl (r_assign (v := .int .i64 _) rfl) ?_
   refine WL_nil ?_
   refine hK39 _ _ ?_
   clear hK39 K38
   refine WC_seq (fun K44 hK45 => ?_)
   refine WC_region ?_
   refine WL_val (dd := some 53) rfl rfl rfl (r_move (v := .int .i64 _) rfl) ?_
   refine WL_val (dd := some 54) rfl rfl rfl (r_neq rfl rfl) ?_
   refine WL_nil ?_
   refine hK45 _ _ ?_
   clear hK45 K44
   refine WC_cond (b := _) rfl (fun hc2 => ?_) (fun hc2 => ?_)
   ·
    try with_reducible replace hc2 := of_decide_eq_true hc2
    refine WC_seq (fun K46 hK47 => ?_)
    refine WC_region ?_
    refine WL_val (dd := some 55) rfl rfl rfl (r_move (v := .int .i64 _) rfl) ?_
    refine WL_val (dd := some 6) rfl rfl rfl (r_assign (v := .int .i64 0) rfl) ?_
    refine WL_val (dd := some 7) rfl rfl rfl (r_assign (v := .int .i64 _) rfl) ?_
    refine WL_nil ?_
    refine hK47 _ _ ?_
    clear hK47 K46
    refine WC_ret ?_
    repeat (first | refine thenQ_ret ?_ | refine blockQ_ret ?_)
    try clear hK24 K23
    try clear hJ18 J17
    try clear hK12 K11
    refine ret_tt (v := .int .i64 0) rfl (v1 := .int .i64 _) rfl ?_
    exact ⟨_, 0, _, _, rfl, hX, hD, Got.fail (hgj) hc2 (by exact cJ_le ns l f0 f1 g0 g1 (show i + 1 ≤ 3 by omega)), hdn, hdone⟩
   ·
    try with_reducible replace hc2 := of_decide_eq_false hc2
    refine WC_skip ?_
    refine hK24 _ _ ?_
    clear hK24 K23
    refine WC_region ?_
    refine WL_val (dd := some 56) rfl rfl rfl (r_addI rfl rfl (by omega) (by omega)) ?_
    refine WL_val (dd := some 29) rfl rfl rfl (r_move (v := .int .i64 _) rfl) ?_
    refine WL_nil ?_
    refine hJ18 _ _ ((i + 1, id7_6, ns7_6, dl5_5)) ?_ ?_ ?_ ?_
    · repeat (first | exact agree.mask _ _ _ | refine agree.updo ?_ rfl _ | refine agree.updL ?_ _ rfl | refine agree.maskS rfl ?_)
    · exact ⟨rfl, rfl, trivial⟩
    · exact ⟨hz, hbd, hX, hB, hm0_0, hm0_1, hD, (by exact hdn), (by omega), hdone, (by have he2 : er7_6 = 0 := Decidable.of_not_not hc2; subst he2; exact hgj), trivial⟩
    · show 3 - (i + 1) < 3 - i; omega
  ·
   try with_reducible replace hc1 := of_decide_eq_false hc1
   refine WC_skip ?_
   refine hK39 _ _ ?_
   clear hK39 K38
   refine WC_seq (fun K48 hK49 => ?_)
   refine WC_region ?_
   refine WL_val (dd := some 53) rfl rfl rfl (r_move (v := .int .i64 _) rfl) ?_
   refine WL_val (dd := some 54) rfl rfl rfl (r_neq rfl rfl) ?_
   refine WL_nil ?_
   refine hK49 _ _ ?_
   clear hK49 K48
   refine WC_cond (b := _) rfl (fun hc2 => ?_) (fun hc2 => ?_)
   ·
    try with_reducible replace hc2 := of_decide_eq_true hc2
    refine WC_seq (fun K50 hK51 => ?_)
    refine WC_region ?_
    refine WL_val (dd := some 55) rfl rfl rfl (r_move (v := .int .i64 _) rfl) ?_
    refine WL_val (dd := some 6) rfl rfl rfl (r_assign (v := .int .i64 0) rfl) ?_
    refine WL_val (dd := some 7) rfl rfl rfl (r_assign (v := .int .i64 _) rfl) ?_
    refine WL_nil ?_
    refine hK51 _ _ ?_
    clear hK51 K50
    refine WC_ret ?_
    repeat (first | refine thenQ_ret ?_ | refine blockQ_ret ?_)
    try clear hK24 K23
    try clear hJ18 J17
    try clear hK12 K11
    refine ret_tt (v := .int .i64 0) rfl (v1 := .int .i64 _) rfl ?_
    exact ⟨_, 0, _, _, rfl, hX, hD, hg.fail2 hg5_5 hc2 (by have e := cJE_pre hg.pre hwn hpx hpy; have k := cJ_do (ns := ns) (l := l) (f0 := f0) (f1 := f1) (g0 := g0) (g1 := g1) (show i < 3 by omega); rw [← e] at k; exact k), hdn, hdone⟩
   ·
    try with_reducible replace hc2 := of_decide_eq_false hc2
    exact absurd hc2 (fun h => h hc1)
 ·
  try with_reducible replace hc0 := of_decide_eq_false hc0
  refine WC_exit ?_
  refine hK12 _ _ ?_
  clear hK22 K21
  clear hJ18 J17
  clear hK12 K11
  refine WC_seq (fun K52 hK53 => ?_)
  obtain rfl : i = 3 := by omega
  refine WC_region ?_
  refine WL_val (dd := some 57) rfl rfl rfl (r_move (v := .int .i64 _) rfl) ?_
  refine WL_val (dd := some 6) rfl rfl rfl (r_assign (v := .int .i64 _) rfl) ?_
  refine WL_val (dd := some 7) rfl rfl rfl (r_assign (v := .int .i64 0) rfl) ?_
  refine WL_nil ?_
  refine hK53 _ _ ?_
  clear hK53 K52
  refine WC_ret ?_
  repeat (first | refine thenQ_ret ?_ | refine blockQ_ret ?_)
  refine ret_tt (v := .int .i64 _) rfl (v1 := .int .i64 0) rfl ?_
  exact ⟨_, _, _, _, rfl, hX, hD, hg.weak (Nat.le_refl _) (JU_3 _ _ _ _), hdn, hdone⟩

theorem DoJ : ∀ n, DoAt 70 71 opJ n := DO_all _ _ opJ opJ_ok (fun f g w => C___zdd_Zdd__Join_1 f g w) tb_c70 tb_c71 fun n ih N ba bm bz bd bx R ns dl f0 f1 g0 g1 l w => C_joinH _ _ n N ba bm bz bd bx R ns dl f0 f1 g0 g1 l w ih

theorem C___zdd_Zdd__Join (N ba bm bz R : Nat) (ns : List Nd) (f g : Nat) (w : World) (hN0 : N ≤ w.heap.size) (hz : At w bz #[.pointer (some ⟨ba, 0, none⟩)] 100) (hD : Dia 147 150 N ba bm R w ns) (hf : f < ns.length + 2) (hg : g < ns.length + 2) :
    FnG Try.prog 23 #[.pointer (some ⟨bz, 0, none⟩), .int .i64 (f : Int), .int .i64 (g : Int)] w fun v w' => PO 147 150 N ba bm R w ns (opJ.cst ns f g) (min (lvl ns f) (lvl ns g)) (opJ.res (M ns f) (M ns g)) v w' := by
 refine FnG_intro (n := 14) Try.func23 rfl rfl (Nat.le_of_ble_eq_true rfl) ?_
 have hB : Below N w w := Below.refl _ _
 have hX : Dx 150 N [ba, bm] w w := Dx.refl
 refine WC_seq (fun K1 hK2 => ?_)
 refine WC_region ?_
 refine WL_val (dd := some 6) rfl rfl rfl (r_assign (v := .int .i64 0) rfl) ?_
 refine WL_val (dd := some 7) rfl rfl rfl (r_assign (v := .int .i64 0) rfl) ?_
 refine WL_nil ?_
 refine hK2 _ _ ?_
 clear hK2 K1
 refine WC_seq (fun K3 hK4 => ?_)
 refine WC_region ?_
 refine WL_val (dd := some 8) rfl rfl rfl (r_move (v := .pointer (some ⟨bz, 0, none⟩)) rfl) ?_
 refine WL_val (dd := some 9) rfl rfl rfl (r_move (v := .int .i64 _) rfl) ?_
 refine WL_val (dd := some 10) rfl rfl rfl (r_move (v := .int .i64 _) rfl) ?_
 refine WL_callG (dd := some 11) rfl rfl rfl (r_call5 tb_c69 (v0 := .pointer (some ⟨bz, 0, none⟩)) rfl (v1 := .int .i64 _) rfl (v2 := .int .i64 _) rfl (v3 := .func (.func 70) #[] #[]) rfl (v4 := .func (.func 71) #[] #[]) rfl) (C___zdd_Zdd__both _ _ opJ N ba bm bz R ns f g _ hN0 hz hD hf hg DoJ) (fun v1_3 W5 hP1_3 => ?_)
 obtain ⟨ns1_3, id1_3, er1_3, rfl, hx1_3, hDn1_3, hg1_3⟩ := hP1_3
 replace hz := At.dx hD hx1_3 hz (by decide) (by decide)
 replace hX := Dx.trans hX (hx1_3)
 replace hB := Below.dx hB (Nat.le_refl _) hN0 hx1_3
 replace hD := hDn1_3
 refine WL_val (dd := some 12) rfl rfl rfl (r_ext2_0 (h := rfl)) ?_
 refine WL_val (dd := some 13) rfl rfl rfl (r_ext2_1 (h := rfl)) ?_
 refine WL_val (dd := some 6) rfl rfl rfl (r_assign (v := .int .i64 _) rfl) ?_
 refine WL_val (dd := some 7) rfl rfl rfl (r_assign (v := .int .i64 _) rfl) ?_
 refine WL_nil ?_
 refine hK4 _ _ ?_
 clear hK4 K3
 refine WC_ret ?_
 repeat (first | refine thenQ_ret ?_ | refine blockQ_ret ?_)
 refine ret_tt (v := .int .i64 _) rfl (v1 := .int .i64 _) rfl ?_
 exact ⟨_, _, _, rfl, hX, hD, hg1_3⟩

end Go.Proofs.Ytpamgfbecgjjeaa
