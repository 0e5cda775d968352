/-
  The walks of the statements about thinning.
-/
import Derived.Test.YtdbcijijhhbkaaaProg
import Derived.Test.YtdbcijijhhbkaaaWPlain
import Derived.Test.YtdbcijijhhbkaaaWSame
import Derived.Test.YtdbcijijhhbkaaaThin3
namespace Go.Proofs.Ytdbcijijhhbkaaa
set_option linter.unusedVariables false
set_option linter.unusedSimpArgs false
open Go Go.RowKit

theorem tb_build24_0 {f : Nat → Value} {w : World} {d : Option Nat} {ty : TypeId} {ps : String} {af : Array Edge} {g : Option (Nat × Bool)} {x0 : Operand} {c0_0 : Value} (h0 : evF f x0 = c0_0) (k0 : c0_0.cells = #[c0_0]) :
    (execOp (evF f) ⟨d, .build 24 #[(0, x0)], ty, ps, af, g⟩).run Try.prog w = .ok (.value (.agg #[c0_0, .int .u64 0, .int .u64 0, .int .u64 0])) w := by
  obtain ⟨i0, hi0, hz0⟩ := Option.bind_eq_some_iff.1 (show (Try.prog.info? 24).bind (·.zero) = _ from tb_z24)
  obtain ⟨j22, hj22, hs22⟩ := Option.map_eq_some_iff.1 tb_size22
  simp [execOp, h0, k0, Instr.build, zeroValue, typeInfo, sizeOf, hi0, hz0, run_underlying Try.underlying24, Instr.fill, cells_agg, hj22, hs22]
theorem tb_zs24 : (zeroI Try.prog 24).map (fun z => z.cells.size) = some 4 := by kernel_rfl
theorem tb_z64 : zeroI Try.prog 64 = some (.agg #[.int .i64 0, .slice none 0 0, .slice none 0 0]) := by kernel_rfl
theorem tb_size62 : (Try.prog.info? 62).map (·.size) = some 1 := by kernel_rfl
theorem tb_build64_0_1_2 {f : Nat → Value} {w : World} {d : Option Nat} {ty : TypeId} {ps : String} {af : Array Edge} {g : Option (Nat × Bool)} {x0 x1 x2 : Operand} {c0_0 c1_0 c2_0 : Value} (h0 : evF f x0 = c0_0) (k0 : c0_0.cells = #[c0_0]) (h1 : evF f x1 = c1_0) (k1 : c1_0.cells = #[c1_0]) (h2 : evF f x2 = c2_0) (k2 : c2_0.cells = #[c2_0]) :
    (execOp (evF f) ⟨d, .build 64 #[(0, x0), (1, x1), (2, x2)], ty, ps, af, g⟩).run Try.prog w = .ok (.value (.agg #[c0_0, c1_0, c2_0])) w := by
  obtain ⟨i0, hi0, hz0⟩ := Option.bind_eq_some_iff.1 (show (Try.prog.info? 64).bind (·.zero) = _ from tb_z64)
  obtain ⟨j3, hj3, hs3⟩ := Option.map_eq_some_iff.1 tb_size3
  obtain ⟨j62, hj62, hs62⟩ := Option.map_eq_some_iff.1 tb_size62
  simp [execOp, h0, k0, h1, k1, h2, k2, Instr.build, zeroValue, typeInfo, sizeOf, hi0, hz0, run_underlying Try.underlying64, Instr.fill, cells_agg, hj3, hs3, hj62, hs62]
theorem tb_build34_0 {f : Nat → Value} {w : World} {d : Option Nat} {ty : TypeId} {ps : String} {af : Array Edge} {g : Option (Nat × Bool)} {x0 : Operand} {c0_0 : Value} (h0 : evF f x0 = c0_0) (k0 : c0_0.cells = #[c0_0]) :
    (execOp (evF f) ⟨d, .build 34 #[(0, x0)], ty, ps, af, g⟩).run Try.prog w = .ok (.value (.agg #[c0_0, .int .u8 0])) w := by
  obtain ⟨i0, hi0, hz0⟩ := Option.bind_eq_some_iff.1 (show (Try.prog.info? 34).bind (·.zero) = _ from tb_z34)
  obtain ⟨j5, hj5, hs5⟩ := Option.map_eq_some_iff.1 tb_size5
  simp [execOp, h0, k0, Instr.build, zeroValue, typeInfo, sizeOf, hi0, hz0, run_underlying Try.underlying34, Instr.fill, cells_agg, hj5, hs5]
theorem tb_build79_1 {f : Nat → Value} {w : World} {d : Option Nat} {ty : TypeId} {ps : String} {af : Array Edge} {g : Option (Nat × Bool)} {x0 : Operand} {c0_0 : Value} (h0 : evF f x0 = c0_0) (k0 : c0_0.cells = #[c0_0]) :
    (execOp (evF f) ⟨d, .build 79 #[(1, x0)], ty, ps, af, g⟩).run Try.prog w = .ok (.value (.agg #[.int .u8 0, .int .u8 0, c0_0])) w := by
  obtain ⟨i0, hi0, hz0⟩ := Option.bind_eq_some_iff.1 (show (Try.prog.info? 79).bind (·.zero) = _ from tb_z79)
  obtain ⟨j5, hj5, hs5⟩ := Option.map_eq_some_iff.1 tb_size5
  obtain ⟨j34, hj34, hs34⟩ := Option.map_eq_some_iff.1 tb_size34
  simp [execOp, h0, k0, Instr.build, zeroValue, typeInfo, sizeOf, hi0, hz0, run_underlying Try.underlying79, Instr.fill, cells_agg, hj5, hs5, hj34, hs34]
theorem tb_c73 : callB Try.prog 73 = true := by kernel_rfl
theorem tb_c77 : callB Try.prog 77 = true := by kernel_rfl
theorem tb_c74 : callB Try.prog 74 = true := by kernel_rfl

set_option maxRecDepth 10000 in
theorem C_drawknifelaw16_knows  (w : World) :
    Fn Try.prog 72 #[] w fun v w' => v = .bool true := by
 refine Fn_intro (n := 62) Try.func72 rfl rfl (Nat.le_of_ble_eq_true rfl) ?_
 have hB : Below w.heap.size w w := Below.refl _ _
 refine WC_seq (fun K1 hK2 => ?_)
 refine WC_region ?_
 refine WL_val (dd := some 0) rfl rfl rfl (r_assign (v := .bool false) rfl) ?_
 refine WL_nil ?_
 refine hK2 _ _ ?_
 clear hK2 K1
 refine WC_seq (fun K3 hK4 => ?_)
 refine WC_region ?_
 refine WL_val (dd := some 6) (v := setV 3) rfl rfl rfl (tb_build24_0 (h0 := rfl) (k0 := rfl) (c0_0 := .int .u64 3)) ?_
 refine WL_step (dd := some 7) rfl rfl rfl (Y_lit1 (u := .agg #[_, _, _, _]) rfl tb_el62 tb_zs24 rfl (by decide) (by decide) (fun b1_1 W5 hb6 hE7 hm1_1 => ?_))
 have lo_b1_1 : w.heap.size ≤ b1_1 := hb6 ▸ (Below.size hB)
 clear hb6
 replace hB := below_ext hB hE7 (Nat.le_refl _)
 clear hE7
 refine WL_val (dd := some 8) (v := setV 3) rfl rfl rfl (tb_build24_0 (h0 := rfl) (k0 := rfl) (c0_0 := .int .u64 3)) ?_
 refine WL_step (dd := some 9) rfl rfl rfl (Y_lit1 (u := .agg #[_, _, _, _]) rfl tb_el62 tb_zs24 rfl (by decide) (by decide) (fun b1_3 W8 hb9 hE10 hm1_3 => ?_))
 have lo_b1_3 : w.heap.size ≤ b1_3 := hb9 ▸ (Below.size hB)
 have ne_b1_1_b1_3 : b1_1 ≠ b1_3 := Nat.ne_of_lt (hb9 ▸ hm1_1.lt)
 clear hb9
 replace hB := below_ext hB hE10 (Nat.le_refl _)
 replace hm1_1 := hE10.at hm1_1
 clear hE10
 have ho11 := own_lit1 (enc := encS) (a := 3) hm1_1 rfl rfl lo_b1_1
 clear hm1_1
 have ho12 := own_lit1 (enc := encS) (a := 3) hm1_3 rfl rfl lo_b1_3
 clear hm1_3
 refine WL_val (dd := some 10) rfl rfl rfl (tb_build64_0_1_2 (h0 := rfl) (k0 := rfl) (h1 := rfl) (k1 := rfl) (h2 := rfl) (k2 := rfl) (c0_0 := .int .i64 1) (c1_0 := .slice (some ⟨b1_1, 0, none⟩) 1 1) (c2_0 := .slice (some ⟨b1_3, 0, none⟩) 1 1)) ?_
 refine WL_step (dd := some 1) rfl rfl rfl (Y_alloc tb_z64 rfl (fun b1_5 W13 hb14 hE15 hm1_5 => ?_))
 have lo_b1_5 : w.heap.size ≤ b1_5 := hb14 ▸ (Below.size hB)
 clear hb14
 replace hB := below_ext hB hE15 (Nat.le_refl _)
 replace ho11 := hE15.ow ho11
 replace ho12 := hE15.ow ho12
 clear hE15
 refine WL_step (dd := none) rfl rfl rfl (Y_storeW rfl rfl tb_ag64 rfl hm1_5 rfl (by rfl) (fun W16 hG17 hm18 => ?_))
 replace hB := below_grown hB hG17 (Nat.le_refl _) (fun j hj => by cases hj; exact lo_b1_5)
 replace ho11 := OwT.grownAt ho11 hm1_5 hG17 (by decide)
 replace ho12 := OwT.grownAt ho12 hm1_5 hG17 (by decide)
 clear hG17 hm1_5
 have hm1_5 := hm18
 clear hm18
 refine WL_nil ?_
 refine hK4 _ _ ?_
 clear hK4 K3
 refine WC_seq (fun K19 hK20 => ?_)
 refine WC_region ?_
 refine WL_val (dd := some 12) rfl rfl rfl (r_loadW rfl tb_ag64 rfl hm1_5) ?_
 refine WL_val (dd := some 13) rfl rfl rfl (tb_build34_0 (h0 := rfl) (k0 := rfl) (c0_0 := .int .u8 1)) ?_
 refine WL_val (dd := some 14) rfl rfl rfl (tb_build79_0_1 (h0 := rfl) (h1 := rfl) (k1 := rfl) (c1_0 := .int .u8 1)) ?_
 refine WL_val (dd := some 15) rfl rfl rfl (tb_build79_1 (h0 := rfl) (k0 := rfl) (c0_0 := .int .u8 1)) ?_
 refine WL_step (dd := some 16) rfl rfl rfl (Y_lit2 (u0 := .agg #[_, _, _]) (u1 := .agg #[_, _, _]) rfl rfl tb_el65 tb_zs79 rfl rfl (by decide) (by decide) (fun b2_4 W21 hb22 hE23 hm2_4 => ?_))
 have lo_b2_4 : w.heap.size ≤ b2_4 := hb22 ▸ (Below.size hB)
 clear hb22
 replace hB := below_ext hB hE23 (Nat.le_refl _)
 replace ho11 := hE23.ow ho11
 replace ho12 := hE23.ow ho12
 replace hm1_5 := hE23.at hm1_5
 clear hE23
 have ho2_4 := own_lit2 (enc := encR) (sz := 3) (a0 := ⟨⟨1, 0⟩, 1⟩) (a1 := ⟨⟨0, 0⟩, 1⟩) hm2_4 rfl rfl rfl rfl lo_b2_4
 clear hm2_4
 refine WL_call (dd := some 17) rfl rfl rfl (r_call2 tb_c73 (v0 := .agg #[_, _, _]) rfl (v1 := .slice (some ⟨b2_4, 0, none⟩) 2 2) rfl) (C_thin_Thin KT _ _ _ KL _ ho11.sl ho12.sl ho2_4.sl (by decide) rowb_KL (by decide)) (fun v2_5 W24 hE25 hP2_5 => ?_)
 have hlt26 := OwT.lt2 ho2_4
 have hsz27 := (Below.size hB)
 replace hB := below_ext hB hE25 (Nat.le_refl _)
 replace ho11 := hE25.ow ho11
 replace ho12 := hE25.ow ho12
 replace hm1_5 := hE25.at hm1_5
 replace ho2_4 := hE25.ow ho2_4
 clear hE25
 obtain ⟨x_hP2_5, er_hP2_5, l_hP2_5, rfl, ho_hP2_5, hc_hP2_5⟩ := own_res hP2_5
 replace ho_hP2_5 := OwT.mono ho_hP2_5 hsz27
 obtain ⟨her, hle⟩ : er_hP2_5 = 0 ∧ l_hP2_5 = [⟨⟨0, 0⟩, 1⟩] := hc_hP2_5.elim (fun h => ⟨h.2.1, h.2.2.trans thin_KT⟩) (fun h => absurd h.1 (by rw [cov_KT]; decide))
 subst her
 subst hle
 clear hsz27
 refine WL_val (dd := some 11) rfl rfl rfl (r_move (v := .tuple #[x_hP2_5, .int .i64 _]) rfl) ?_
 refine WL_val (dd := some 18) rfl rfl rfl (r_ext2_0 (h := rfl)) ?_
 refine WL_val (dd := some 19) rfl rfl rfl (r_ext2_1 (h := rfl)) ?_
 refine WL_val (dd := some 2) rfl rfl rfl (r_assign (v := x_hP2_5) rfl) ?_
 refine WL_val (dd := some 3) rfl rfl rfl (r_assign (v := .int .i64 _) rfl) ?_
 refine WL_nil ?_
 refine hK20 _ _ ?_
 clear hK20 K19
 refine WC_seq (fun K28 hK29 => ?_)
 refine WC_region ?_
 refine WL_val (dd := some 21) rfl rfl rfl (r_loadW rfl tb_ag64 rfl hm1_5) ?_
 refine WL_call (dd := some 22) rfl rfl rfl (r_call1 tb_c77 (v0 := .agg #[_, _, _]) rfl) (C_thin_Plain KT _ _ _ ho11.sl ho12.sl) (fun v3_1 W30 hE31 hP3_1 => ?_)
 have hlt32 := OwT.lt2 ho2_4
 have hlt33 := OwT.lt2 ho_hP2_5
 have hsz34 := (Below.size hB)
 replace hB := below_ext hB hE31 (Nat.le_refl _)
 replace ho11 := hE31.ow ho11
 replace ho12 := hE31.ow ho12
 replace hm1_5 := hE31.at hm1_5
 replace ho2_4 := hE31.ow ho2_4
 replace ho_hP2_5 := hE31.ow ho_hP2_5
 clear hE31
 obtain ⟨x_hP3_1, er_hP3_1, l_hP3_1, rfl, ho_hP3_1, hc_hP3_1⟩ := own_res hP3_1
 replace ho_hP3_1 := OwT.mono ho_hP3_1 hsz34
 obtain ⟨her, hle⟩ : er_hP3_1 = 0 ∧ l_hP3_1 = [⟨⟨0, 0⟩, 1⟩] := hc_hP3_1.elim (fun h => ⟨h.2.1, h.2.2.trans plain_KT⟩) (fun h => absurd h.1 (by rw [right_KT]; decide))
 subst her
 subst hle
 clear hsz34
 refine WL_val (dd := some 20) rfl rfl rfl (r_move (v := .tuple #[x_hP3_1, .int .i64 _]) rfl) ?_
 refine WL_val (dd := some 23) rfl rfl rfl (r_ext2_0 (h := rfl)) ?_
 refine WL_val (dd := some 24) rfl rfl rfl (r_ext2_1 (h := rfl)) ?_
 refine WL_val (dd := some 4) rfl rfl rfl (r_assign (v := x_hP3_1) rfl) ?_
 refine WL_val (dd := some 5) rfl rfl rfl (r_assign (v := .int .i64 _) rfl) ?_
 refine WL_nil ?_
 refine hK29 _ _ ?_
 clear hK29 K28
 refine WC_seq (fun K35 hK36 => ?_)
 refine WC_draw Ext tb_mix (fun W37 hE38 => ?_)
 replace hB := below_ext hB hE38 (Nat.le_refl _)
 replace ho11 := hE38.ow ho11
 replace ho12 := hE38.ow ho12
 replace hm1_5 := hE38.at hm1_5
 replace ho2_4 := hE38.ow ho2_4
 replace ho_hP2_5 := hE38.ow ho_hP2_5
 replace ho_hP3_1 := hE38.ow ho_hP3_1
 have hS := Ext.refl W37
 refine WT_take (dd := some 25) 0 rfl (by kernel_rfl) (by kernel_rfl) (by kernel_rfl) rfl rfl rfl (fun _wq _hq => r_move (v := x_hP2_5) rfl) hS ?_
 refine WT_take (dd := some 26) 1 rfl (by kernel_rfl) (by kernel_rfl) (by kernel_rfl) rfl rfl rfl (fun _wq hq => r_lenS (v := x_hP2_5) rfl ((hq.ow ho_hP2_5)).sl tb_el65) hS ?_
 refine WT_take (dd := some 27) 2 rfl (by kernel_rfl) (by kernel_rfl) (by kernel_rfl) rfl rfl rfl (fun _wq _hq => r_eql rfl rfl) hS ?_
 refine WT_split (dd := some 28) 3 rfl (by kernel_rfl) (by kernel_rfl) (by kernel_rfl) rfl rfl rfl (fun wq hq => r_move (v := .bool _) rfl) hS (fun hs4_3 => ?_) (fun hs4_3 => ?_)
 ·
  try with_reducible replace hs4_3 := of_decide_eq_true hs4_3
  refine WT_take (dd := some 29) 4 rfl (by kernel_rfl) (by kernel_rfl) (by kernel_rfl) rfl rfl rfl (fun _wq _hq => r_move (v := x_hP2_5) rfl) hS ?_
  refine WT_take (dd := some 30) 5 rfl (by kernel_rfl) (by kernel_rfl) (by kernel_rfl) rfl rfl rfl (fun _wq hq => r_idxS (j := 0) (v := x_hP2_5) rfl ((hq.ow ho_hP2_5)).sl rfl tb_el65 (by omega) (by first | omega | (simp only [flagsTo_len, litsTo_len, firstF_len, ptF_len, setF_len]; omega))) hS ?_
  refine WT_take (dd := some 31) 6 rfl (by kernel_rfl) (by kernel_rfl) (by kernel_rfl) rfl rfl rfl (fun _wq hq => r_load3 rfl tb_ag79 (SlT.cell (j := 0) ((hq.ow ho_hP2_5)).sl encR_len ⟨⟨0, 0⟩, 0⟩ (by omega) (by first | omega | (simp only [flagsTo_len, litsTo_len, firstF_len, ptF_len, setF_len]; omega)) 0 rfl) (SlT.cell (j := 0) ((hq.ow ho_hP2_5)).sl encR_len ⟨⟨0, 0⟩, 0⟩ (by omega) (by first | omega | (simp only [flagsTo_len, litsTo_len, firstF_len, ptF_len, setF_len]; omega)) 1 rfl) (SlT.cell (j := 0) ((hq.ow ho_hP2_5)).sl encR_len ⟨⟨0, 0⟩, 0⟩ (by omega) (by first | omega | (simp only [flagsTo_len, litsTo_len, firstF_len, ptF_len, setF_len]; omega)) 2 rfl)) hS ?_
  refine WT_take (dd := some 32) 7 rfl (by kernel_rfl) (by kernel_rfl) (by kernel_rfl) rfl rfl rfl (fun _wq _hq => tb_build79_1 (h0 := rfl) (k0 := rfl) (c0_0 := .int .u8 1)) hS ?_
  refine WT_take (dd := some 33) 8 rfl (by kernel_rfl) (by kernel_rfl) (by kernel_rfl) rfl rfl rfl (fun _wq _hq => tb_eq79 rfl rfl) hS ?_
  refine WT_take (dd := some 34) 9 rfl (by kernel_rfl) (by kernel_rfl) (by kernel_rfl) rfl rfl rfl (fun _wq _hq => r_pick_t rfl (v := .bool _) rfl) hS ?_
  refine WT_split (dd := some 35) 10 rfl (by kernel_rfl) (by kernel_rfl) (by kernel_rfl) rfl rfl rfl (fun wq hq => r_move (v := .bool _) rfl) hS (fun hs4_10 => ?_) (fun hs4_10 => ?_)
  ·
   try with_reducible replace hs4_10 := of_decide_eq_true hs4_10
   refine WT_take (dd := some 36) 11 rfl (by kernel_rfl) (by kernel_rfl) (by kernel_rfl) rfl rfl rfl (fun _wq _hq => r_move (v := .int .i64 _) rfl) hS ?_
   refine WT_take (dd := some 37) 12 rfl (by kernel_rfl) (by kernel_rfl) (by kernel_rfl) rfl rfl rfl (fun _wq _hq => r_eql rfl rfl) hS ?_
   refine WT_take (dd := some 38) 13 rfl (by kernel_rfl) (by kernel_rfl) (by kernel_rfl) rfl rfl rfl (fun _wq _hq => r_pick_t rfl (v := .bool _) rfl) hS ?_
   refine WT_split (dd := some 39) 14 rfl (by kernel_rfl) (by kernel_rfl) (by kernel_rfl) rfl rfl rfl (fun wq hq => r_move (v := .bool _) rfl) hS (fun hs4_14 => ?_) (fun hs4_14 => ?_)
   ·
    try with_reducible replace hs4_14 := of_decide_eq_true hs4_14
    refine WT_take (dd := some 40) 15 rfl (by kernel_rfl) (by kernel_rfl) (by kernel_rfl) rfl rfl rfl (fun _wq _hq => r_move (v := x_hP3_1) rfl) hS ?_
    refine WT_take (dd := some 41) 16 rfl (by kernel_rfl) (by kernel_rfl) (by kernel_rfl) rfl rfl rfl (fun _wq hq => r_lenS (v := x_hP3_1) rfl ((hq.ow ho_hP3_1)).sl tb_el65) hS ?_
    refine WT_take (dd := some 42) 17 rfl (by kernel_rfl) (by kernel_rfl) (by kernel_rfl) rfl rfl rfl (fun _wq _hq => r_eql rfl rfl) hS ?_
    refine WT_take (dd := some 43) 18 rfl (by kernel_rfl) (by kernel_rfl) (by kernel_rfl) rfl rfl rfl (fun _wq _hq => r_pick_t rfl (v := .bool _) rfl) hS ?_
    refine WT_split (dd := some 44) 19 rfl (by kernel_rfl) (by kernel_rfl) (by kernel_rfl) rfl rfl rfl (fun wq hq => r_move (v := .bool _) rfl) hS (fun hs4_19 => ?_) (fun hs4_19 => ?_)
    ·
     try with_reducible replace hs4_19 := of_decide_eq_true hs4_19
     refine WT_take (dd := some 45) 20 rfl (by kernel_rfl) (by kernel_rfl) (by kernel_rfl) rfl rfl rfl (fun _wq _hq => r_move (v := x_hP3_1) rfl) hS ?_
     refine WT_take (dd := some 46) 21 rfl (by kernel_rfl) (by kernel_rfl) (by kernel_rfl) rfl rfl rfl (fun _wq hq => r_idxS (j := 0) (v := x_hP3_1) rfl ((hq.ow ho_hP3_1)).sl rfl tb_el65 (by omega) (by first | omega | (simp only [flagsTo_len, litsTo_len, firstF_len, ptF_len, setF_len]; omega))) hS ?_
     refine WT_take (dd := some 47) 22 rfl (by kernel_rfl) (by kernel_rfl) (by kernel_rfl) rfl rfl rfl (fun _wq hq => r_load3 rfl tb_ag79 (SlT.cell (j := 0) ((hq.ow ho_hP3_1)).sl encR_len ⟨⟨0, 0⟩, 0⟩ (by omega) (by first | omega | (simp only [flagsTo_len, litsTo_len, firstF_len, ptF_len, setF_len]; omega)) 0 rfl) (SlT.cell (j := 0) ((hq.ow ho_hP3_1)).sl encR_len ⟨⟨0, 0⟩, 0⟩ (by omega) (by first | omega | (simp only [flagsTo_len, litsTo_len, firstF_len, ptF_len, setF_len]; omega)) 1 rfl) (SlT.cell (j := 0) ((hq.ow ho_hP3_1)).sl encR_len ⟨⟨0, 0⟩, 0⟩ (by omega) (by first | omega | (simp only [flagsTo_len, litsTo_len, firstF_len, ptF_len, setF_len]; omega)) 2 rfl)) hS ?_
     refine WT_take (dd := some 48) 23 rfl (by kernel_rfl) (by kernel_rfl) (by kernel_rfl) rfl rfl rfl (fun _wq _hq => r_move (v := x_hP2_5) rfl) hS ?_
     refine WT_take (dd := some 49) 24 rfl (by kernel_rfl) (by kernel_rfl) (by kernel_rfl) rfl rfl rfl (fun _wq hq => r_idxS (j := 0) (v := x_hP2_5) rfl ((hq.ow ho_hP2_5)).sl rfl tb_el65 (by omega) (by first | omega | (simp only [flagsTo_len, litsTo_len, firstF_len, ptF_len, setF_len]; omega))) hS ?_
     refine WT_take (dd := some 50) 25 rfl (by kernel_rfl) (by kernel_rfl) (by kernel_rfl) rfl rfl rfl (fun _wq hq => r_load3 rfl tb_ag79 (SlT.cell (j := 0) ((hq.ow ho_hP2_5)).sl encR_len ⟨⟨0, 0⟩, 0⟩ (by omega) (by first | omega | (simp only [flagsTo_len, litsTo_len, firstF_len, ptF_len, setF_len]; omega)) 0 rfl) (SlT.cell (j := 0) ((hq.ow ho_hP2_5)).sl encR_len ⟨⟨0, 0⟩, 0⟩ (by omega) (by first | omega | (simp only [flagsTo_len, litsTo_len, firstF_len, ptF_len, setF_len]; omega)) 1 rfl) (SlT.cell (j := 0) ((hq.ow ho_hP2_5)).sl encR_len ⟨⟨0, 0⟩, 0⟩ (by omega) (by first | omega | (simp only [flagsTo_len, litsTo_len, firstF_len, ptF_len, setF_len]; omega)) 2 rfl)) hS ?_
     refine WT_take (dd := some 51) 26 rfl (by kernel_rfl) (by kernel_rfl) (by kernel_rfl) rfl rfl rfl (fun _wq _hq => tb_eq79 rfl rfl) hS ?_
     refine WT_take (dd := some 52) 27 rfl (by kernel_rfl) (by kernel_rfl) (by kernel_rfl) rfl rfl rfl (fun _wq _hq => r_pick_t rfl (v := .bool _) rfl) hS ?_
     refine WT_split (dd := some 53) 28 rfl (by kernel_rfl) (by kernel_rfl) (by kernel_rfl) rfl rfl rfl (fun wq hq => r_move (v := .bool _) rfl) hS (fun hs4_28 => ?_) (fun hs4_28 => ?_)
     ·
      try with_reducible replace hs4_28 := of_decide_eq_true hs4_28
      refine WT_take (dd := some 54) 29 rfl (by kernel_rfl) (by kernel_rfl) (by kernel_rfl) rfl rfl rfl (fun _wq _hq => r_move (v := .int .i64 _) rfl) hS ?_
      refine WT_take (dd := some 55) 30 rfl (by kernel_rfl) (by kernel_rfl) (by kernel_rfl) rfl rfl rfl (fun _wq _hq => r_eql rfl rfl) hS ?_
      refine WT_take (dd := some 56) 31 rfl (by kernel_rfl) (by kernel_rfl) (by kernel_rfl) rfl rfl rfl (fun _wq _hq => r_pick_t rfl (v := .bool _) rfl) hS ?_
      refine WT_split (dd := some 57) 32 rfl (by kernel_rfl) (by kernel_rfl) (by kernel_rfl) rfl rfl rfl (fun wq hq => r_move (v := .bool _) rfl) hS (fun hs4_32 => ?_) (fun hs4_32 => ?_)
      ·
       try with_reducible replace hs4_32 := of_decide_eq_true hs4_32
       refine WT_take (dd := some 58) 33 rfl (by kernel_rfl) (by kernel_rfl) (by kernel_rfl) rfl rfl rfl (fun _wq hq => r_loadW rfl tb_ag64 rfl (hq.at hm1_5)) hS ?_
       refine WT_take (dd := some 59) 34 rfl (by kernel_rfl) (by kernel_rfl) (by kernel_rfl) rfl rfl rfl (fun _wq _hq => r_move (v := x_hP2_5) rfl) hS ?_
       refine WT_one (dd := some 60) 35 (by kernel_rfl) rfl rfl rfl rfl (Yd.call (r_call2 tb_c74 (v0 := .agg #[_, _, _]) rfl (v1 := x_hP2_5) rfl) (C_thin_Needed KT _ _ _ [⟨⟨0, 0⟩, 1⟩] _ ho11.sl ho12.sl ho_hP2_5.sl (by decide) rowb_K1 (by decide)) (fun v4_35 W39 hE40 hP4_35 => ⟨.inl (hS.trans hE40), ?_⟩))
       have hsz41 := (Below.size hB)
       have sv42_hB := hB
       have sv42_ho11 := ho11
       have sv42_ho12 := ho12
       have sv42_hm1_5 := hm1_5
       have sv42_ho2_4 := ho2_4
       have sv42_ho_hP2_5 := ho_hP2_5
       have sv42_ho_hP3_1 := ho_hP3_1
       replace hB := below_ext hB hE40 (Nat.le_refl _)
       replace ho11 := hE40.ow ho11
       replace ho12 := hE40.ow ho12
       replace hm1_5 := hE40.at hm1_5
       replace ho2_4 := hE40.ow ho2_4
       replace ho_hP2_5 := hE40.ow ho_hP2_5
       replace ho_hP3_1 := hE40.ow ho_hP3_1
       replace hS := hS.trans hE40
       clear hE40
       clear hsz41
       obtain rfl := hP4_35
       refine WT_take (dd := some 61) 36 rfl (by kernel_rfl) (by kernel_rfl) (by kernel_rfl) rfl rfl rfl (fun _wq _hq => r_pick_t rfl (v := .bool _) rfl) hS ?_
       refine WT_take (dd := some 0) 37 rfl (by kernel_rfl) (by kernel_rfl) (by kernel_rfl) rfl rfl rfl (fun _wq _hq => r_assign (v := .bool _) rfl) hS ?_
       refine WT_done (by kernel_rfl) ?_
       try clear sv42_hB sv42_ho11 sv42_ho12 sv42_hm1_5 sv42_ho2_4 sv42_ho_hP2_5 sv42_ho_hP3_1
       refine hK36 _ _ ?_
       clear hK36 K35
       refine WC_ret ?_
       repeat (first | refine thenQ_ret ?_ | refine blockQ_ret ?_)
       refine ret_t (v := .bool _) rfl ?_
       refine ⟨hB, ?_⟩
       exact congrArg Value.bool needed_KT
      ·
       try with_reducible replace hs4_32 := of_decide_eq_false hs4_32
       first | exact absurd (by decide +kernel) hs4_32 | exact absurd hs4_32 (by decide +kernel)
     ·
      try with_reducible replace hs4_28 := of_decide_eq_false hs4_28
      first | exact absurd (by decide +kernel) hs4_28 | exact absurd hs4_28 (by decide +kernel)
    ·
     try with_reducible replace hs4_19 := of_decide_eq_false hs4_19
     first | exact absurd (by decide +kernel) hs4_19 | exact absurd hs4_19 (by decide +kernel)
   ·
    try with_reducible replace hs4_14 := of_decide_eq_false hs4_14
    first | exact absurd (by decide +kernel) hs4_14 | exact absurd hs4_14 (by decide +kernel)
  ·
   try with_reducible replace hs4_10 := of_decide_eq_false hs4_10
   first | exact absurd (by decide +kernel) hs4_10 | exact absurd hs4_10 (by decide +kernel)
 ·
  try with_reducible replace hs4_3 := of_decide_eq_false hs4_3
  first | exact absurd (by decide +kernel) hs4_3 | exact absurd hs4_3 (by decide +kernel)

end Go.Proofs.Ytdbcijijhhbkaaa
