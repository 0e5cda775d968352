/-
  The walks of the statements about thinning.
-/
import Derived.Test.YtdbcijijhhbkaaaProg
import Derived.Test.YtdbcijijhhbkaaaWPlain
import Derived.Test.YtdbcijijhhbkaaaWSame
import Derived.Test.YtdbcijijhhbkaaaThin3
namespace Go.Proofs.Ytdbcijijhhbkaaa
set_option linter.unusedVariables false
set_option linter.unusedSimpArgs false
open Go Go.RowKit

theorem tb_c57 : callB Try.prog 57 = true := by kernel_rfl
theorem tb_build24_0 {f : Nat → Value} {w : World} {d : Option Nat} {ty : TypeId} {ps : String} {af : Array Edge} {g : Option (Nat × Bool)} {x0 : Operand} {c0_0 : Value} (h0 : evF f x0 = c0_0) (k0 : c0_0.cells = #[c0_0]) :
    (execOp (evF f) ⟨d, .build 24 #[(0, x0)], ty, ps, af, g⟩).run Try.prog w = .ok (.value (.agg #[c0_0, .int .u64 0, .int .u64 0, .int .u64 0])) w := by
  obtain ⟨i0, hi0, hz0⟩ := Option.bind_eq_some_iff.1 (show (Try.prog.info? 24).bind (·.zero) = _ from tb_z24)
  obtain ⟨j22, hj22, hs22⟩ := Option.map_eq_some_iff.1 tb_size22
  simp [execOp, h0, k0, Instr.build, zeroValue, typeInfo, sizeOf, hi0, hz0, run_underlying Try.underlying24, Instr.fill, cells_agg, hj22, hs22]
theorem tb_zs24 : (zeroI Try.prog 24).map (fun z => z.cells.size) = some 4 := by kernel_rfl
theorem tb_z64 : zeroI Try.prog 64 = some (.agg #[.int .i64 0, .slice none 0 0, .slice none 0 0]) := by kernel_rfl
theorem tb_size62 : (Try.prog.info? 62).map (·.size) = some 1 := by kernel_rfl
theorem tb_build64_0_1_2 {f : Nat → Value} {w : World} {d : Option Nat} {ty : TypeId} {ps : String} {af : Array Edge} {g : Option (Nat × Bool)} {x0 x1 x2 : Operand} {c0_0 c1_0 c2_0 : Value} (h0 : evF f x0 = c0_0) (k0 : c0_0.cells = #[c0_0]) (h1 : evF f x1 = c1_0) (k1 : c1_0.cells = #[c1_0]) (h2 : evF f x2 = c2_0) (k2 : c2_0.cells = #[c2_0]) :
    (execOp (evF f) ⟨d, .build 64 #[(0, x0), (1, x1), (2, x2)], ty, ps, af, g⟩).run Try.prog w = .ok (.value (.agg #[c0_0, c1_0, c2_0])) w := by
  obtain ⟨i0, hi0, hz0⟩ := Option.bind_eq_some_iff.1 (show (Try.prog.info? 64).bind (·.zero) = _ from tb_z64)
  obtain ⟨j3, hj3, hs3⟩ := Option.map_eq_some_iff.1 tb_size3
  obtain ⟨j62, hj62, hs62⟩ := Option.map_eq_some_iff.1 tb_size62
  simp [execOp, h0, k0, h1, k1, h2, k2, Instr.build, zeroValue, typeInfo, sizeOf, hi0, hz0, run_underlying Try.underlying64, Instr.fill, cells_agg, hj3, hs3, hj62, hs62]
theorem tb_build34_0 {f : Nat → Value} {w : World} {d : Option Nat} {ty : TypeId} {ps : String} {af : Array Edge} {g : Option (Nat × Bool)} {x0 : Operand} {c0_0 : Value} (h0 : evF f x0 = c0_0) (k0 : c0_0.cells = #[c0_0]) :
    (execOp (evF f) ⟨d, .build 34 #[(0, x0)], ty, ps, af, g⟩).run Try.prog w = .ok (.value (.agg #[c0_0, .int .u8 0])) w := by
  obtain ⟨i0, hi0, hz0⟩ := Option.bind_eq_some_iff.1 (show (Try.prog.info? 34).bind (·.zero) = _ from tb_z34)
  obtain ⟨j5, hj5, hs5⟩ := Option.map_eq_some_iff.1 tb_size5
  simp [execOp, h0, k0, Instr.build, zeroValue, typeInfo, sizeOf, hi0, hz0, run_underlying Try.underlying34, Instr.fill, cells_agg, hj5, hs5]
theorem tb_build79_1 {f : Nat → Value} {w : World} {d : Option Nat} {ty : TypeId} {ps : String} {af : Array Edge} {g : Option (Nat × Bool)} {x0 : Operand} {c0_0 : Value} (h0 : evF f x0 = c0_0) (k0 : c0_0.cells = #[c0_0]) :
    (execOp (evF f) ⟨d, .build 79 #[(1, x0)], ty, ps, af, g⟩).run Try.prog w = .ok (.value (.agg #[.int .u8 0, .int .u8 0, c0_0])) w := by
  obtain ⟨i0, hi0, hz0⟩ := Option.bind_eq_some_iff.1 (show (Try.prog.info? 79).bind (·.zero) = _ from tb_z79)
  obtain ⟨j5, hj5, hs5⟩ := Option.map_eq_some_iff.1 tb_size5
  obtain ⟨j34, hj34, hs34⟩ := Option.map_eq_some_iff.1 tb_size34
  simp [execOp, h0, k0, Instr.build, zeroValue, typeInfo, sizeOf, hi0, hz0, run_underlying Try.underlying79, Instr.fill, cells_agg, hj5, hs5, hj34, hs34]
theorem tb_c73 : callB Try.prog 73 = true := by kernel_rfl
theorem tb_c77 : callB Try.prog 77 = true := by kernel_rfl
theorem tb_c74 : callB Try.prog 74 = true := by kernel_rfl
theorem tb_c56 : callB Try.prog 56 = true := by kernel_rfl
theorem tb_c71 : callB Try.prog 71 = true := by kernel_rfl
theorem tb_c72 : callB Try.prog 72 = true := by kernel_rfl
theorem tb_c75 : callB Try.prog 75 = true := by kernel_rfl
theorem tb_c60 : callB Try.prog 60 = true := by kernel_rfl
theorem tb_c76 : callB Try.prog 76 = true := by kernel_rfl
theorem tb_c64 : callB Try.prog 64 = true := by kernel_rfl
theorem tb_c63 : callB Try.prog 63 = true := by kernel_rfl

theorem C_drawknifelaw16_great (S : Sp) (onV mayV : Value) (xa : Value) (l : List Rw) (w : World) (hon : SlT encS 4 w onV S.on) (hmay : SlT encS 4 w mayV S.may) (hl : SlT encR 3 w xa l) :
    Fn Try.prog 71 #[.agg #[.int .i64 S.n, onV, mayV], xa] w fun v w' => v = .bool (great16 S l) := by
 refine Fn_intro (n := 12) Try.func71 rfl rfl (Nat.le_of_ble_eq_true rfl) ?_
 have hB : Below w.heap.size w w := Below.refl _ _
 refine WC_seq (fun K1 hK2 => ?_)
 refine WC_region ?_
 refine WL_step (dd := some 2) rfl rfl rfl (Y_box (c := #[_, _, _]) rfl rfl (fun b0_0 W3 hb4 hE5 hm0_0 => ?_))
 have lo_b0_0 : w.heap.size ≤ b0_0 := hb4 ▸ (Below.size hB)
 clear hb4
 replace hB := below_ext hB hE5 (Nat.le_refl _)
 clear hE5
 refine WL_val (dd := some 4) rfl rfl rfl (r_assign (v := .bool false) rfl) ?_
 refine WL_nil ?_
 refine hK2 _ _ ?_
 clear hK2 K1
 refine WC_seq (fun K6 hK7 => ?_)
 refine WC_region ?_
 refine WL_val (dd := some 5) rfl rfl rfl (r_loadW rfl tb_ag64 rfl hm0_0) ?_
 refine WL_call (dd := some 6) rfl rfl rfl (r_call1 tb_c57 (v0 := .agg #[_, _, _]) rfl) (C_drawknifelaw10_Great S _ _  _ (Below.slT hB hon) (Below.slT hB hmay) ) (fun v1_1 W8 hE9 hP1_1 => ?_)
 have hsz10 := (Below.size hB)
 replace hB := below_ext hB hE9 (Nat.le_refl _)
 replace hm0_0 := hE9.at hm0_0
 clear hE9
 clear hsz10
 obtain rfl := hP1_1
 refine WL_split (dd := some 7) rfl rfl rfl (r_move (v := .bool _) rfl) (fun hs1_2 => ?_) (fun hs1_2 => ?_)
 ·
  try with_reducible replace hs1_2 := of_decide_eq_true hs1_2
  refine WL_skip (dd := some 8) rfl rfl rfl ?_
  refine WL_skip (dd := some 9) rfl rfl rfl ?_
  refine WL_skip (dd := some 10) rfl rfl rfl ?_
  refine WL_val (dd := some 11) rfl rfl rfl (r_pick_t rfl (v := .bool true) rfl) ?_
  refine WL_val (dd := some 4) rfl rfl rfl (r_assign (v := .bool true) rfl) ?_
  refine WL_nil ?_
  refine hK7 _ _ ?_
  clear hK7 K6
  refine WC_ret ?_
  repeat (first | refine thenQ_ret ?_ | refine blockQ_ret ?_)
  refine ret_t (v := .bool true) rfl ?_
  refine ⟨hB, ?_⟩
  first | exact congrArg Value.bool (g16_1 hs1_2) | exact congrArg Value.bool (g16_2 hs1_2)
 ·
  try with_reducible replace hs1_2 := of_decide_eq_false hs1_2
  refine WL_val (dd := some 8) rfl rfl rfl (r_move (v := xa) rfl) ?_
  refine WL_val (dd := some 9) rfl rfl rfl (r_lenS (v := xa) rfl (Below.slT hB hl) tb_el65) ?_
  refine WL_val (dd := some 10) rfl rfl rfl (r_gtr rfl rfl) ?_
  refine WL_val (dd := some 11) rfl rfl rfl (r_pick_f rfl (v := .bool _) rfl) ?_
  refine WL_val (dd := some 4) rfl rfl rfl (r_assign (v := .bool _) rfl) ?_
  refine WL_nil ?_
  refine hK7 _ _ ?_
  clear hK7 K6
  refine WC_ret ?_
  repeat (first | refine thenQ_ret ?_ | refine blockQ_ret ?_)
  refine ret_t (v := .bool _) rfl ?_
  refine ⟨hB, ?_⟩
  first | exact congrArg Value.bool (g16_1 hs1_2) | exact congrArg Value.bool (g16_2 hs1_2)

set_option maxRecDepth 10000 in
theorem C_drawknifelaw16_knows  (w : World) :
    Fn Try.prog 72 #[] w fun v w' => v = .bool true := by
 refine Fn_intro (n := 62) Try.func72 rfl rfl (Nat.le_of_ble_eq_true rfl) ?_
 have hB : Below w.heap.size w w := Below.refl _ _
 refine WC_seq (fun K1 hK2 => ?_)
 refine WC_region ?_
 refine WL_val (dd := some 0) rfl rfl rfl (r_assign (v := .bool false) rfl) ?_
 refine WL_nil ?_
 refine hK2 _ _ ?_
 clear hK2 K1
 refine WC_seq (fun K3 hK4 => ?_)
 refine WC_region ?_
 refine WL_val (dd := some 6) (v := setV 3) rfl rfl rfl (tb_build24_0 (h0 := rfl) (k0 := rfl) (c0_0 := .int .u64 3)) ?_
 refine WL_step (dd := some 7) rfl rfl rfl (Y_lit1 (u := .agg #[_, _, _, _]) rfl tb_el62 tb_zs24 rfl (by decide) (by decide) (fun b1_1 W5 hb6 hE7 hm1_1 => ?_))
 have lo_b1_1 : w.heap.size ≤ b1_1 := hb6 ▸ (Below.size hB)
 clear hb6
 replace hB := below_ext hB hE7 (Nat.le_refl _)
 clear hE7
 refine WL_val (dd := some 8) (v := setV 3) rfl rfl rfl (tb_build24_0 (h0 := rfl) (k0 := rfl) (c0_0 := .int .u64 3)) ?_
 refine WL_step (dd := some 9) rfl rfl rfl (Y_lit1 (u := .agg #[_, _, _, _]) rfl tb_el62 tb_zs24 rfl (by decide) (by decide) (fun b1_3 W8 hb9 hE10 hm1_3 => ?_))
 have lo_b1_3 : w.heap.size ≤ b1_3 := hb9 ▸ (Below.size hB)
 have ne_b1_1_b1_3 : b1_1 ≠ b1_3 := Nat.ne_of_lt (hb9 ▸ hm1_1.lt)
 clear hb9
 replace hB := below_ext hB hE10 (Nat.le_refl _)
 replace hm1_1 := hE10.at hm1_1
 clear hE10
 have ho11 := own_lit1 (enc := encS) (a := 3) hm1_1 rfl rfl lo_b1_1
 clear hm1_1
 have ho12 := own_lit1 (enc := encS) (a := 3) hm1_3 rfl rfl lo_b1_3
 clear hm1_3
 refine WL_val (dd := some 10) rfl rfl rfl (tb_build64_0_1_2 (h0 := rfl) (k0 := rfl) (h1 := rfl) (k1 := rfl) (h2 := rfl) (k2 := rfl) (c0_0 := .int .i64 1) (c1_0 := .slice (some ⟨b1_1, 0, none⟩) 1 1) (c2_0 := .slice (some ⟨b1_3, 0, none⟩) 1 1)) ?_
 refine WL_step (dd := some 1) rfl rfl rfl (Y_alloc tb_z64 rfl (fun b1_5 W13 hb14 hE15 hm1_5 => ?_))
 have lo_b1_5 : w.heap.size ≤ b1_5 := hb14 ▸ (Below.size hB)
 clear hb14
 replace hB := below_ext hB hE15 (Nat.le_refl _)
 replace ho11 := hE15.ow ho11
 replace ho12 := hE15.ow ho12
 clear hE15
 refine WL_step (dd := none) rfl rfl rfl (Y_storeW rfl rfl tb_ag64 rfl hm1_5 rfl (by rfl) (fun W16 hG17 hm18 => ?_))
 replace hB := below_grown hB hG17 (Nat.le_refl _) (fun j hj => by cases hj; exact lo_b1_5)
 replace ho11 := OwT.grownAt ho11 hm1_5 hG17 (by decide)
 replace ho12 := OwT.grownAt ho12 hm1_5 hG17 (by decide)
 clear hG17 hm1_5
 have hm1_5 := hm18
 clear hm18
 refine WL_nil ?_
 refine hK4 _ _ ?_
 clear hK4 K3
 refine WC_seq (fun K19 hK20 => ?_)
 refine WC_region ?_
 refine WL_val (dd := some 12) rfl rfl rfl (r_loadW rfl tb_ag64 rfl hm1_5) ?_
 refine WL_val (dd := some 13) rfl rfl rfl (tb_build34_0 (h0 := rfl) (k0 := rfl) (c0_0 := .int .u8 1)) ?_
 refine WL_val (dd := some 14) rfl rfl rfl (tb_build79_0_1 (h0 := rfl) (h1 := rfl) (k1 := rfl) (c1_0 := .int .u8 1)) ?_
 refine WL_val (dd := some 15) rfl rfl rfl (tb_build79_1 (h0 := rfl) (k0 := rfl) (c0_0 := .int .u8 1)) ?_
 refine WL_step (dd := some 16) rfl rfl rfl (Y_lit2 (u0 := .agg #[_, _, _]) (u1 := .agg #[_, _, _]) rfl rfl tb_el65 tb_zs79 rfl rfl (by decide) (by decide) (fun b2_4 W21 hb22 hE23 hm2_4 => ?_))
 have lo_b2_4 : w.heap.size ≤ b2_4 := hb22 ▸ (Below.size hB)
 clear hb22
 replace hB := below_ext hB hE23 (Nat.le_refl _)
 replace ho11 := hE23.ow ho11
 replace ho12 := hE23.ow ho12
 replace hm1_5 := hE23.at hm1_5
 clear hE23
 have ho2_4 := own_lit2 (enc := encR) (sz := 3) (a0 := ⟨⟨1, 0⟩, 1⟩) (a1 := ⟨⟨0, 0⟩, 1⟩) hm2_4 rfl rfl rfl rfl lo_b2_4
 clear hm2_4
 refine WL_call (dd := some 17) rfl rfl rfl (r_call2 tb_c73 (v0 := .agg #[_, _, _]) rfl (v1 := .slice (some ⟨b2_4, 0, none⟩) 2 2) rfl) (C_thin_Thin KT _ _ _ KL _ ho11.sl ho12.sl ho2_4.sl (by decide) rowb_KL (by decide)) (fun v2_5 W24 hE25 hP2_5 => ?_)
 have hlt26 := OwT.lt2 ho2_4
 have hsz27 := (Below.size hB)
 replace hB := below_ext hB hE25 (Nat.le_refl _)
 replace ho11 := hE25.ow ho11
 replace ho12 := hE25.ow ho12
 replace hm1_5 := hE25.at hm1_5
 replace ho2_4 := hE25.ow ho2_4
 clear hE25
 obtain ⟨x_hP2_5, er_hP2_5, l_hP2_5, rfl, ho_hP2_5, hc_hP2_5⟩ := own_res hP2_5
 replace ho_hP2_5 := OwT.mono ho_hP2_5 hsz27
 obtain ⟨her, hle⟩ : er_hP2_5 = 0 ∧ l_hP2_5 = [⟨⟨0, 0⟩, 1⟩] := hc_hP2_5.elim (fun h => ⟨h.2.1, h.2.2.trans thin_KT⟩) (fun h => absurd h.1 (by rw [cov_KT]; decide))
 subst her
 subst hle
 clear hsz27
 refine WL_val (dd := some 11) rfl rfl rfl (r_move (v := .tuple #[x_hP2_5, .int .i64 _]) rfl) ?_
 refine WL_val (dd := some 18) rfl rfl rfl (r_ext2_0 (h := rfl)) ?_
 refine WL_val (dd := some 19) rfl rfl rfl (r_ext2_1 (h := rfl)) ?_
 refine WL_val (dd := some 2) rfl rfl rfl (r_assign (v := x_hP2_5) rfl) ?_
 refine WL_val (dd := some 3) rfl rfl rfl (r_assign (v := .int .i64 _) rfl) ?_
 refine WL_nil ?_
 refine hK20 _ _ ?_
 clear hK20 K19
 refine WC_seq (fun K28 hK29 => ?_)
 refine WC_region ?_
 refine WL_val (dd := some 21) rfl rfl rfl (r_loadW rfl tb_ag64 rfl hm1_5) ?_
 refine WL_call (dd := some 22) rfl rfl rfl (r_call1 tb_c77 (v0 := .agg #[_, _, _]) rfl) (C_thin_Plain KT _ _ _ ho11.sl ho12.sl) (fun v3_1 W30 hE31 hP3_1 => ?_)
 have hlt32 := OwT.lt2 ho2_4
 have hlt33 := OwT.lt2 ho_hP2_5
 have hsz34 := (Below.size hB)
 replace hB := below_ext hB hE31 (Nat.le_refl _)
 replace ho11 := hE31.ow ho11
 replace ho12 := hE31.ow ho12
 replace hm1_5 := hE31.at hm1_5
 replace ho2_4 := hE31.ow ho2_4
 replace ho_hP2_5 := hE31.ow ho_hP2_5
 clear hE31
 obtain ⟨x_hP3_1, er_hP3_1, l_hP3_1, rfl, ho_hP3_1, hc_hP3_1⟩ := own_res hP3_1
 replace ho_hP3_1 := OwT.mono ho_hP3_1 hsz34
 obtain ⟨her, hle⟩ : er_hP3_1 = 0 ∧ l_hP3_1 = [⟨⟨0, 0⟩, 1⟩] := hc_hP3_1.elim (fun h => ⟨h.2.1, h.2.2.trans plain_KT⟩) (fun h => absurd h.1 (by rw [right_KT]; decide))
 subst her
 subst hle
 clear hsz34
 refine WL_val (dd := some 20) rfl rfl rfl (r_move (v := .tuple #[x_hP3_1, .int .i64 _]) rfl) ?_
 refine WL_val (dd := some 23) rfl rfl rfl (r_ext2_0 (h := rfl)) ?_
 refine WL_val (dd := some 24) rfl rfl rfl (r_ext2_1 (h := rfl)) ?_
 refine WL_val (dd := some 4) rfl rfl rfl (r_assign (v := x_hP3_1) rfl) ?_
 refine WL_val (dd := some 5) rfl rfl rfl (r_assign (v := .int .i64 _) rfl) ?_
 refine WL_nil ?_
 refine hK29 _ _ ?_
 clear hK29 K28
 refine WC_seq (fun K35 hK36 => ?_)
 refine WC_draw Ext tb_mix (fun W37 hE38 => ?_)
 replace hB := below_ext hB hE38 (Nat.le_refl _)
 replace ho11 := hE38.ow ho11
 replace ho12 := hE38.ow ho12
 replace hm1_5 := hE38.at hm1_5
 replace ho2_4 := hE38.ow ho2_4
 replace ho_hP2_5 := hE38.ow ho_hP2_5
 replace ho_hP3_1 := hE38.ow ho_hP3_1
 have hS := Ext.refl W37
 refine WT_take (dd := some 25) 0 rfl (by kernel_rfl) (by kernel_rfl) (by kernel_rfl) rfl rfl rfl (fun _wq _hq => r_move (v := x_hP2_5) rfl) hS ?_
 refine WT_take (dd := some 26) 1 rfl (by kernel_rfl) (by kernel_rfl) (by kernel_rfl) rfl rfl rfl (fun _wq hq => r_lenS (v := x_hP2_5) rfl ((hq.ow ho_hP2_5)).sl tb_el65) hS ?_
 refine WT_take (dd := some 27) 2 rfl (by kernel_rfl) (by kernel_rfl) (by kernel_rfl) rfl rfl rfl (fun _wq _hq => r_eql rfl rfl) hS ?_
 refine WT_split (dd := some 28) 3 rfl (by kernel_rfl) (by kernel_rfl) (by kernel_rfl) rfl rfl rfl (fun wq hq => r_move (v := .bool _) rfl) hS (fun hs4_3 => ?_) (fun hs4_3 => ?_)
 ·
  try with_reducible replace hs4_3 := of_decide_eq_true hs4_3
  refine WT_take (dd := some 29) 4 rfl (by kernel_rfl) (by kernel_rfl) (by kernel_rfl) rfl rfl rfl (fun _wq _hq => r_move (v := x_hP2_5) rfl) hS ?_
  refine WT_take (dd := some 30) 5 rfl (by kernel_rfl) (by kernel_rfl) (by kernel_rfl) rfl rfl rfl (fun _wq hq => r_idxS (j := 0) (v := x_hP2_5) rfl ((hq.ow ho_hP2_5)).sl rfl tb_el65 (by omega) (by first | omega | (simp only [flagsTo_len, litsTo_len, firstF_len, ptF_len, setF_len]; omega))) hS ?_
  refine WT_take (dd := some 31) 6 rfl (by kernel_rfl) (by kernel_rfl) (by kernel_rfl) rfl rfl rfl (fun _wq hq => r_load3 rfl tb_ag79 (SlT.cell (j := 0) ((hq.ow ho_hP2_5)).sl encR_len ⟨⟨0, 0⟩, 0⟩ (by omega) (by first | omega | (simp only [flagsTo_len, litsTo_len, firstF_len, ptF_len, setF_len]; omega)) 0 rfl) (SlT.cell (j := 0) ((hq.ow ho_hP2_5)).sl encR_len ⟨⟨0, 0⟩, 0⟩ (by omega) (by first | omega | (simp only [flagsTo_len, litsTo_len, firstF_len, ptF_len, setF_len]; omega)) 1 rfl) (SlT.cell (j := 0) ((hq.ow ho_hP2_5)).sl encR_len ⟨⟨0, 0⟩, 0⟩ (by omega) (by first | omega | (simp only [flagsTo_len, litsTo_len, firstF_len, ptF_len, setF_len]; omega)) 2 rfl)) hS ?_
  refine WT_take (dd := some 32) 7 rfl (by kernel_rfl) (by kernel_rfl) (by kernel_rfl) rfl rfl rfl (fun _wq _hq => tb_build79_1 (h0 := rfl) (k0 := rfl) (c0_0 := .int .u8 1)) hS ?_
  refine WT_take (dd := some 33) 8 rfl (by kernel_rfl) (by kernel_rfl) (by kernel_rfl) rfl rfl rfl (fun _wq _hq => tb_eq79 rfl rfl) hS ?_
  refine WT_take (dd := some 34) 9 rfl (by kernel_rfl) (by kernel_rfl) (by kernel_rfl) rfl rfl rfl (fun _wq _hq => r_pick_t rfl (v := .bool _) rfl) hS ?_
  refine WT_split (dd := some 35) 10 rfl (by kernel_rfl) (by kernel_rfl) (by kernel_rfl) rfl rfl rfl (fun wq hq => r_move (v := .bool _) rfl) hS (fun hs4_10 => ?_) (fun hs4_10 => ?_)
  ·
   try with_reducible replace hs4_10 := of_decide_eq_true hs4_10
   refine WT_take (dd := some 36) 11 rfl (by kernel_rfl) (by kernel_rfl) (by kernel_rfl) rfl rfl rfl (fun _wq _hq => r_move (v := .int .i64 _) rfl) hS ?_
   refine WT_take (dd := some 37) 12 rfl (by kernel_rfl) (by kernel_rfl) (by kernel_rfl) rfl rfl rfl (fun _wq _hq => r_eql rfl rfl) hS ?_
   refine WT_take (dd := some 38) 13 rfl (by kernel_rfl) (by kernel_rfl) (by kernel_rfl) rfl rfl rfl (fun _wq _hq => r_pick_t rfl (v := .bool _) rfl) hS ?_
   refine WT_split (dd := some 39) 14 rfl (by kernel_rfl) (by kernel_rfl) (by kernel_rfl) rfl rfl rfl (fun wq hq => r_move (v := .bool _) rfl) hS (fun hs4_14 => ?_) (fun hs4_14 => ?_)
   ·
    try with_reducible replace hs4_14 := of_decide_eq_true hs4_14
    refine WT_take (dd := some 40) 15 rfl (by kernel_rfl) (by kernel_rfl) (by kernel_rfl) rfl rfl rfl (fun _wq _hq => r_move (v := x_hP3_1) rfl) hS ?_
    refine WT_take (dd := some 41) 16 rfl (by kernel_rfl) (by kernel_rfl) (by kernel_rfl) rfl rfl rfl (fun _wq hq => r_lenS (v := x_hP3_1) rfl ((hq.ow ho_hP3_1)).sl tb_el65) hS ?_
    refine WT_take (dd := some 42) 17 rfl (by kernel_rfl) (by kernel_rfl) (by kernel_rfl) rfl rfl rfl (fun _wq _hq => r_eql rfl rfl) hS ?_
    refine WT_take (dd := some 43) 18 rfl (by kernel_rfl) (by kernel_rfl) (by kernel_rfl) rfl rfl rfl (fun _wq _hq => r_pick_t rfl (v := .bool _) rfl) hS ?_
    refine WT_split (dd := some 44) 19 rfl (by kernel_rfl) (by kernel_rfl) (by kernel_rfl) rfl rfl rfl (fun wq hq => r_move (v := .bool _) rfl) hS (fun hs4_19 => ?_) (fun hs4_19 => ?_)
    ·
     try with_reducible replace hs4_19 := of_decide_eq_true hs4_19
     refine WT_take (dd := some 45) 20 rfl (by kernel_rfl) (by kernel_rfl) (by kernel_rfl) rfl rfl rfl (fun _wq _hq => r_move (v := x_hP3_1) rfl) hS ?_
     refine WT_take (dd := some 46) 21 rfl (by kernel_rfl) (by kernel_rfl) (by kernel_rfl) rfl rfl rfl (fun _wq hq => r_idxS (j := 0) (v := x_hP3_1) rfl ((hq.ow ho_hP3_1)).sl rfl tb_el65 (by omega) (by first | omega | (simp only [flagsTo_len, litsTo_len, firstF_len, ptF_len, setF_len]; omega))) hS ?_
     refine WT_take (dd := some 47) 22 rfl (by kernel_rfl) (by kernel_rfl) (by kernel_rfl) rfl rfl rfl (fun _wq hq => r_load3 rfl tb_ag79 (SlT.cell (j := 0) ((hq.ow ho_hP3_1)).sl encR_len ⟨⟨0, 0⟩, 0⟩ (by omega) (by first | omega | (simp only [flagsTo_len, litsTo_len, firstF_len, ptF_len, setF_len]; omega)) 0 rfl) (SlT.cell (j := 0) ((hq.ow ho_hP3_1)).sl encR_len ⟨⟨0, 0⟩, 0⟩ (by omega) (by first | omega | (simp only [flagsTo_len, litsTo_len, firstF_len, ptF_len, setF_len]; omega)) 1 rfl) (SlT.cell (j := 0) ((hq.ow ho_hP3_1)).sl encR_len ⟨⟨0, 0⟩, 0⟩ (by omega) (by first | omega | (simp only [flagsTo_len, litsTo_len, firstF_len, ptF_len, setF_len]; omega)) 2 rfl)) hS ?_
     refine WT_take (dd := some 48) 23 rfl (by kernel_rfl) (by kernel_rfl) (by kernel_rfl) rfl rfl rfl (fun _wq _hq => r_move (v := x_hP2_5) rfl) hS ?_
     refine WT_take (dd := some 49) 24 rfl (by kernel_rfl) (by kernel_rfl) (by kernel_rfl) rfl rfl rfl (fun _wq hq => r_idxS (j := 0) (v := x_hP2_5) rfl ((hq.ow ho_hP2_5)).sl rfl tb_el65 (by omega) (by first | omega | (simp only [flagsTo_len, litsTo_len, firstF_len, ptF_len, setF_len]; omega))) hS ?_
     refine WT_take (dd := some 50) 25 rfl (by kernel_rfl) (by kernel_rfl) (by kernel_rfl) rfl rfl rfl (fun _wq hq => r_load3 rfl tb_ag79 (SlT.cell (j := 0) ((hq.ow ho_hP2_5)).sl encR_len ⟨⟨0, 0⟩, 0⟩ (by omega) (by first | omega | (simp only [flagsTo_len, litsTo_len, firstF_len, ptF_len, setF_len]; omega)) 0 rfl) (SlT.cell (j := 0) ((hq.ow ho_hP2_5)).sl encR_len ⟨⟨0, 0⟩, 0⟩ (by omega) (by first | omega | (simp only [flagsTo_len, litsTo_len, firstF_len, ptF_len, setF_len]; omega)) 1 rfl) (SlT.cell (j := 0) ((hq.ow ho_hP2_5)).sl encR_len ⟨⟨0, 0⟩, 0⟩ (by omega) (by first | omega | (simp only [flagsTo_len, litsTo_len, firstF_len, ptF_len, setF_len]; omega)) 2 rfl)) hS ?_
     refine WT_take (dd := some 51) 26 rfl (by kernel_rfl) (by kernel_rfl) (by kernel_rfl) rfl rfl rfl (fun _wq _hq => tb_eq79 rfl rfl) hS ?_
     refine WT_take (dd := some 52) 27 rfl (by kernel_rfl) (by kernel_rfl) (by kernel_rfl) rfl rfl rfl (fun _wq _hq => r_pick_t rfl (v := .bool _) rfl) hS ?_
     refine WT_split (dd := some 53) 28 rfl (by kernel_rfl) (by kernel_rfl) (by kernel_rfl) rfl rfl rfl (fun wq hq => r_move (v := .bool _) rfl) hS (fun hs4_28 => ?_) (fun hs4_28 => ?_)
     ·
      try with_reducible replace hs4_28 := of_decide_eq_true hs4_28
      refine WT_take (dd := some 54) 29 rfl (by kernel_rfl) (by kernel_rfl) (by kernel_rfl) rfl rfl rfl (fun _wq _hq => r_move (v := .int .i64 _) rfl) hS ?_
      refine WT_take (dd := some 55) 30 rfl (by kernel_rfl) (by kernel_rfl) (by kernel_rfl) rfl rfl rfl (fun _wq _hq => r_eql rfl rfl) hS ?_
      refine WT_take (dd := some 56) 31 rfl (by kernel_rfl) (by kernel_rfl) (by kernel_rfl) rfl rfl rfl (fun _wq _hq => r_pick_t rfl (v := .bool _) rfl) hS ?_
      refine WT_split (dd := some 57) 32 rfl (by kernel_rfl) (by kernel_rfl) (by kernel_rfl) rfl rfl rfl (fun wq hq => r_move (v := .bool _) rfl) hS (fun hs4_32 => ?_) (fun hs4_32 => ?_)
      ·
       try with_reducible replace hs4_32 := of_decide_eq_true hs4_32
       refine WT_take (dd := some 58) 33 rfl (by kernel_rfl) (by kernel_rfl) (by kernel_rfl) rfl rfl rfl (fun _wq hq => r_loadW rfl tb_ag64 rfl (hq.at hm1_5)) hS ?_
       refine WT_take (dd := some 59) 34 rfl (by kernel_rfl) (by kernel_rfl) (by kernel_rfl) rfl rfl rfl (fun _wq _hq => r_move (v := x_hP2_5) rfl) hS ?_
       refine WT_one (dd := some 60) 35 (by kernel_rfl) rfl rfl rfl rfl (Yd.call (r_call2 tb_c74 (v0 := .agg #[_, _, _]) rfl (v1 := x_hP2_5) rfl) (C_thin_Needed KT _ _ _ [⟨⟨0, 0⟩, 1⟩] _ ho11.sl ho12.sl ho_hP2_5.sl (by decide) rowb_K1 (by decide)) (fun v4_35 W39 hE40 hP4_35 => ⟨.inl (hS.trans hE40), ?_⟩))
       have hsz41 := (Below.size hB)
       have sv42_hB := hB
       have sv42_ho11 := ho11
       have sv42_ho12 := ho12
       have sv42_hm1_5 := hm1_5
       have sv42_ho2_4 := ho2_4
       have sv42_ho_hP2_5 := ho_hP2_5
       have sv42_ho_hP3_1 := ho_hP3_1
       replace hB := below_ext hB hE40 (Nat.le_refl _)
       replace ho11 := hE40.ow ho11
       replace ho12 := hE40.ow ho12
       replace hm1_5 := hE40.at hm1_5
       replace ho2_4 := hE40.ow ho2_4
       replace ho_hP2_5 := hE40.ow ho_hP2_5
       replace ho_hP3_1 := hE40.ow ho_hP3_1
       replace hS := hS.trans hE40
       clear hE40
       clear hsz41
       obtain rfl := hP4_35
       refine WT_take (dd := some 61) 36 rfl (by kernel_rfl) (by kernel_rfl) (by kernel_rfl) rfl rfl rfl (fun _wq _hq => r_pick_t rfl (v := .bool _) rfl) hS ?_
       refine WT_take (dd := some 0) 37 rfl (by kernel_rfl) (by kernel_rfl) (by kernel_rfl) rfl rfl rfl (fun _wq _hq => r_assign (v := .bool _) rfl) hS ?_
       refine WT_done (by kernel_rfl) ?_
       try clear sv42_hB sv42_ho11 sv42_ho12 sv42_hm1_5 sv42_ho2_4 sv42_ho_hP2_5 sv42_ho_hP3_1
       refine hK36 _ _ ?_
       clear hK36 K35
       refine WC_ret ?_
       repeat (first | refine thenQ_ret ?_ | refine blockQ_ret ?_)
       refine ret_t (v := .bool _) rfl ?_
       refine ⟨hB, ?_⟩
       exact congrArg Value.bool needed_KT
      ·
       try with_reducible replace hs4_32 := of_decide_eq_false hs4_32
       first | exact absurd (by decide +kernel) hs4_32 | exact absurd hs4_32 (by decide +kernel)
     ·
      try with_reducible replace hs4_28 := of_decide_eq_false hs4_28
      first | exact absurd (by decide +kernel) hs4_28 | exact absurd hs4_28 (by decide +kernel)
    ·
     try with_reducible replace hs4_19 := of_decide_eq_false hs4_19
     first | exact absurd (by decide +kernel) hs4_19 | exact absurd hs4_19 (by decide +kernel)
   ·
    try with_reducible replace hs4_14 := of_decide_eq_false hs4_14
    first | exact absurd (by decide +kernel) hs4_14 | exact absurd hs4_14 (by decide +kernel)
  ·
   try with_reducible replace hs4_10 := of_decide_eq_false hs4_10
   first | exact absurd (by decide +kernel) hs4_10 | exact absurd hs4_10 (by decide +kernel)
 ·
  try with_reducible replace hs4_3 := of_decide_eq_false hs4_3
  first | exact absurd (by decide +kernel) hs4_3 | exact absurd hs4_3 (by decide +kernel)

set_option maxRecDepth 10000 in
theorem C_drawknifelaw16_ThinRows (S : Sp) (onV mayV : Value) (xa : Value) (l : List Rw) (w : World) (hon : SlT encS 4 w onV S.on) (hmay : SlT encS 4 w mayV S.may) (hl : SlT encR 3 w xa l) (hlr : RowB l) :
    Fn Try.prog 19 #[.agg #[.int .i64 S.n, onV, mayV], xa] w fun v w' => v = .bool true := by
 refine Fn_intro (n := 73) Try.func19 rfl rfl (Nat.le_of_ble_eq_true rfl) ?_
 have hB : Below w.heap.size w w := Below.refl _ _
 refine WC_seq (fun K1 hK2 => ?_)
 refine WC_region ?_
 refine WL_step (dd := some 2) rfl rfl rfl (Y_box (c := #[_, _, _]) rfl rfl (fun b0_0 W3 hb4 hE5 hm0_0 => ?_))
 have lo_b0_0 : w.heap.size ≤ b0_0 := hb4 ▸ (Below.size hB)
 clear hb4
 replace hB := below_ext hB hE5 (Nat.le_refl _)
 clear hE5
 refine WL_val (dd := some 4) rfl rfl rfl (r_assign (v := .bool false) rfl) ?_
 refine WL_nil ?_
 refine hK2 _ _ ?_
 clear hK2 K1
 refine WC_seq (fun K6 hK7 => ?_)
 refine WC_region ?_
 refine WL_val (dd := some 8) rfl rfl rfl (r_loadW rfl tb_ag64 rfl hm0_0) ?_
 refine WL_call (dd := some 9) rfl rfl rfl (r_call1 tb_c56 (v0 := .agg #[_, _, _]) rfl) (C_drawkniferef04_Right S _ _  _ (Below.slT hB hon) (Below.slT hB hmay) ) (fun v1_1 W8 hE9 hP1_1 => ?_)
 have hsz10 := (Below.size hB)
 replace hB := below_ext hB hE9 (Nat.le_refl _)
 replace hm0_0 := hE9.at hm0_0
 clear hE9
 clear hsz10
 obtain rfl := hP1_1
 refine WL_val (dd := some 5) rfl rfl rfl (r_assign (v := .bool _) rfl) ?_
 refine WL_nil ?_
 refine hK7 _ _ ?_
 clear hK7 K6
 refine WC_seq (fun K11 hK12 => ?_)
 refine WC_seq (fun K13 hK14 => ?_)
 refine WC_region ?_
 refine WL_val (dd := some 10) rfl rfl rfl (r_loadW rfl tb_ag64 rfl hm0_0) ?_
 refine WL_val (dd := some 11) rfl rfl rfl (r_move (v := xa) rfl) ?_
 refine WL_call (dd := some 12) rfl rfl rfl (r_call2 tb_c71 (v0 := .agg #[_, _, _]) rfl (v1 := xa) rfl) (C_drawknifelaw16_great S _ _ _ l _ (Below.slT hB hon) (Below.slT hB hmay) (Below.slT hB hl) ) (fun v2_2 W15 hE16 hP2_2 => ?_)
 have hsz17 := (Below.size hB)
 replace hB := below_ext hB hE16 (Nat.le_refl _)
 replace hm0_0 := hE16.at hm0_0
 clear hE16
 clear hsz17
 obtain rfl := hP2_2
 refine WL_split (dd := some 13) rfl rfl rfl (r_move (v := .bool _) rfl) (fun hs2_3 => ?_) (fun hs2_3 => ?_)
 ·
  try with_reducible replace hs2_3 := of_decide_eq_true hs2_3
  refine WL_skip (dd := some 14) rfl rfl rfl ?_
  refine WL_skip (dd := some 15) rfl rfl rfl ?_
  refine WL_skip (dd := some 16) rfl rfl rfl ?_
  refine WL_skip (dd := some 17) rfl rfl rfl ?_
  refine WL_skip (dd := some 18) rfl rfl rfl ?_
  refine WL_skip (dd := some 19) rfl rfl rfl ?_
  refine WL_val (dd := some 20) rfl rfl rfl (r_pick_t rfl (v := .bool true) rfl) ?_
  refine WL_nil ?_
  refine hK14 _ _ ?_
  clear hK14 K13
  refine WC_cond_true rfl ?_
  refine WC_seq (fun K18 hK19 => ?_)
  refine WC_region ?_
  refine WL_call (dd := some 21) rfl rfl rfl (r_call0 tb_c72) (C_drawknifelaw16_knows _) (fun v3_0 W20 hE21 hP3_0 => ?_)
  have hsz22 := (Below.size hB)
  replace hB := below_ext hB hE21 (Nat.le_refl _)
  replace hm0_0 := hE21.at hm0_0
  clear hE21
  clear hsz22
  obtain rfl := hP3_0
  refine WL_val (dd := some 4) rfl rfl rfl (r_assign (v := .bool _) rfl) ?_
  refine WL_nil ?_
  refine hK19 _ _ ?_
  clear hK19 K18
  refine WC_ret ?_
  repeat (first | refine thenQ_ret ?_ | refine blockQ_ret ?_)
  try clear hK12 K11
  refine ret_t (v := .bool _) rfl ?_
  refine ⟨hB, ?_⟩
  rfl
 ·
  try with_reducible replace hs2_3 := of_decide_eq_false hs2_3
  refine WL_val (dd := some 14) rfl rfl rfl (r_move (v := .bool _) rfl) ?_
  refine WL_split (dd := some 15) rfl rfl rfl (r_move (v := .bool _) rfl) (fun hs2_5 => ?_) (fun hs2_5 => ?_)
  ·
   try with_reducible replace hs2_5 := of_decide_eq_true hs2_5
   refine WL_val (dd := some 16) rfl rfl rfl (r_fieldAddr (b := _) (o := _) rfl tb_fo64_0) ?_
   refine WL_val (dd := some 17) rfl rfl rfl (r_load1 (v := .int .i64 _) rfl tb_sc3 (At.cell hm0_0 rfl)) ?_
   refine WL_val (dd := some 18) rfl rfl rfl (r_gtr rfl rfl) ?_
   refine WL_val (dd := some 19) rfl rfl rfl (r_pick_t rfl (v := .bool _) rfl) ?_
   refine WL_val (dd := some 20) rfl rfl rfl (r_pick_f rfl (v := .bool _) rfl) ?_
   refine WL_nil ?_
   refine hK14 _ _ ?_
   clear hK14 K13
   refine WC_cond (b := _) rfl (fun hc0 => ?_) (fun hc0 => ?_)
   ·
    try with_reducible replace hc0 := of_decide_eq_true hc0
    refine WC_seq (fun K23 hK24 => ?_)
    refine WC_region ?_
    refine WL_call (dd := some 21) rfl rfl rfl (r_call0 tb_c72) (C_drawknifelaw16_knows _) (fun v3_0 W25 hE26 hP3_0 => ?_)
    have hsz27 := (Below.size hB)
    replace hB := below_ext hB hE26 (Nat.le_refl _)
    replace hm0_0 := hE26.at hm0_0
    clear hE26
    clear hsz27
    obtain rfl := hP3_0
    refine WL_val (dd := some 4) rfl rfl rfl (r_assign (v := .bool _) rfl) ?_
    refine WL_nil ?_
    refine hK24 _ _ ?_
    clear hK24 K23
    refine WC_ret ?_
    repeat (first | refine thenQ_ret ?_ | refine blockQ_ret ?_)
    try clear hK12 K11
    refine ret_t (v := .bool _) rfl ?_
    refine ⟨hB, ?_⟩
    rfl
   ·
    try with_reducible replace hc0 := of_decide_eq_false hc0
    refine WC_skip ?_
    refine hK12 _ _ ?_
    clear hK12 K11
    refine WC_seq (fun K28 hK29 => ?_)
    obtain ⟨hg1, hg2, hg3⟩ := g16_no hs2_3
    refine WC_region ?_
    refine WL_val (dd := some 23) rfl rfl rfl (r_loadW rfl tb_ag64 rfl hm0_0) ?_
    refine WL_val (dd := some 24) rfl rfl rfl (r_move (v := xa) rfl) ?_
    refine WL_call (dd := some 25) rfl rfl rfl (r_call2 tb_c73 (v0 := .agg #[_, _, _]) rfl (v1 := xa) rfl) (C_thin_Thin S _ _ _ l _ (Below.slT hB hon) (Below.slT hB hmay) (Below.slT hB hl) (by omega) hlr (by omega)) (fun v4_2 W30 hE31 hP4_2 => ?_)
    have hsz32 := (Below.size hB)
    replace hB := below_ext hB hE31 (Nat.le_refl _)
    replace hm0_0 := hE31.at hm0_0
    clear hE31
    obtain ⟨x_hP4_2, er_hP4_2, l_hP4_2, rfl, ho_hP4_2, hc_hP4_2⟩ := own_res hP4_2
    replace ho_hP4_2 := OwT.mono ho_hP4_2 hsz32
    clear hsz32
    refine WL_val (dd := some 22) rfl rfl rfl (r_move (v := .tuple #[x_hP4_2, .int .i64 _]) rfl) ?_
    refine WL_val (dd := some 26) rfl rfl rfl (r_ext2_0 (h := rfl)) ?_
    refine WL_val (dd := some 27) rfl rfl rfl (r_ext2_1 (h := rfl)) ?_
    refine WL_val (dd := some 6) rfl rfl rfl (r_assign (v := x_hP4_2) rfl) ?_
    refine WL_val (dd := some 7) rfl rfl rfl (r_assign (v := .int .i64 _) rfl) ?_
    refine WL_nil ?_
    refine hK29 _ _ ?_
    clear hK29 K28
    refine WC_seq (fun K33 hK34 => ?_)
    refine WC_seq (fun K35 hK36 => ?_)
    refine WC_region ?_
    refine WL_val (dd := some 28) rfl rfl rfl (r_move (v := .bool _) rfl) ?_
    refine WL_val (dd := some 29) rfl rfl rfl (r_not rfl) ?_
    refine WL_split (dd := some 30) rfl rfl rfl (r_move (v := .bool _) rfl) (fun hs5_2 => ?_) (fun hs5_2 => ?_)
    ·
     try with_reducible replace hs5_2 := of_decide_eq_true hs5_2
     refine WL_skip (dd := some 31) rfl rfl rfl ?_
     refine WL_skip (dd := some 32) rfl rfl rfl ?_
     refine WL_skip (dd := some 33) rfl rfl rfl ?_
     refine WL_skip (dd := some 34) rfl rfl rfl ?_
     refine WL_val (dd := some 35) rfl rfl rfl (r_pick_t rfl (v := .bool true) rfl) ?_
     refine WL_nil ?_
     refine hK36 _ _ ?_
     clear hK36 K35
     refine WC_cond_true rfl ?_
     refine WC_seq (fun K37 hK38 => ?_)
     have hcv : covB S l = false := by first | exact not_t hc1 | exact cov_noR (not_t hs5_2) | exact cov_noR hs2_5
     obtain ⟨q2, q3⟩ := hc_hP4_2.elim (fun h => absurd h.1 (by rw [hcv]; decide)) (fun h => h.2)
     subst q2 q3
     refine WC_region ?_
     refine WL_val (dd := some 36) rfl rfl rfl (r_move (v := x_hP4_2) rfl) ?_
     refine WL_val (dd := some 37) rfl rfl rfl (r_lenS (v := x_hP4_2) rfl ho_hP4_2.sl tb_el65) ?_
     refine WL_val (dd := some 38) rfl rfl rfl (r_eql rfl rfl) ?_
     refine WL_split (dd := some 39) rfl rfl rfl (r_move (v := .bool _) rfl) (fun hs6_3 => ?_) (fun hs6_3 => ?_)
     ·
      try with_reducible replace hs6_3 := of_decide_eq_true hs6_3
      refine WL_val (dd := some 40) rfl rfl rfl (r_move (v := .int .i64 _) rfl) ?_
      refine WL_val (dd := some 41) rfl rfl rfl (r_eql rfl rfl) ?_
      refine WL_val (dd := some 42) rfl rfl rfl (r_pick_t rfl (v := .bool _) rfl) ?_
      refine WL_split (dd := some 43) rfl rfl rfl (r_move (v := .bool _) rfl) (fun hs6_7 => ?_) (fun hs6_7 => ?_)
      ·
       try with_reducible replace hs6_7 := of_decide_eq_true hs6_7
       refine WL_val (dd := some 44) rfl rfl rfl (r_loadW rfl tb_ag64 rfl hm0_0) ?_
       refine WL_val (dd := some 45) rfl rfl rfl (r_move (v := xa) rfl) ?_
       refine WL_call (dd := some 46) rfl rfl rfl (r_call2 tb_c74 (v0 := .agg #[_, _, _]) rfl (v1 := xa) rfl) (C_thin_Needed S _ _ _ l _ (Below.slT hB hon) (Below.slT hB hmay) (Below.slT hB hl) (by omega) hlr (by omega)) (fun v6_10 W39 hE40 hP6_10 => ?_)
       have hsz41 := (Below.size hB)
       replace hB := below_ext hB hE40 (Nat.le_refl _)
       replace hm0_0 := hE40.at hm0_0
       replace ho_hP4_2 := hE40.ow ho_hP4_2
       clear hE40
       clear hsz41
       obtain rfl := hP6_10
       refine WL_val (dd := some 47) rfl rfl rfl (r_not rfl) ?_
       refine WL_val (dd := some 48) rfl rfl rfl (r_pick_t rfl (v := .bool _) rfl) ?_
       refine WL_split (dd := some 49) rfl rfl rfl (r_move (v := .bool _) rfl) (fun hs6_13 => ?_) (fun hs6_13 => ?_)
       ·
        try with_reducible replace hs6_13 := of_decide_eq_true hs6_13
        refine WL_call (dd := some 50) rfl rfl rfl (r_call0 tb_c72) (C_drawknifelaw16_knows _) (fun v6_14 W42 hE43 hP6_14 => ?_)
        have hsz44 := (Below.size hB)
        replace hB := below_ext hB hE43 (Nat.le_refl _)
        replace hm0_0 := hE43.at hm0_0
        replace ho_hP4_2 := hE43.ow ho_hP4_2
        clear hE43
        clear hsz44
        obtain rfl := hP6_14
        refine WL_val (dd := some 51) rfl rfl rfl (r_pick_t rfl (v := .bool _) rfl) ?_
        refine WL_val (dd := some 4) rfl rfl rfl (r_assign (v := .bool _) rfl) ?_
        refine WL_nil ?_
        refine hK38 _ _ ?_
        clear hK38 K37
        refine WC_ret ?_
        repeat (first | refine thenQ_ret ?_ | refine blockQ_ret ?_)
        try clear hK34 K33
        refine ret_t (v := .bool _) rfl ?_
        refine ⟨hB, ?_⟩
        rfl
       ·
        try with_reducible replace hs6_13 := of_decide_eq_false hs6_13
        exact absurd (not_f hs6_13) (by rw [needed_no hcv]; decide)
      ·
       try with_reducible replace hs6_7 := of_decide_eq_false hs6_7
       exact absurd rfl hs6_7
     ·
      try with_reducible replace hs6_3 := of_decide_eq_false hs6_3
      exact absurd rfl hs6_3
    ·
     try with_reducible replace hs5_2 := of_decide_eq_false hs5_2
     refine WL_val (dd := some 31) rfl rfl rfl (r_loadW rfl tb_ag64 rfl hm0_0) ?_
     refine WL_val (dd := some 32) rfl rfl rfl (r_move (v := xa) rfl) ?_
     refine WL_call (dd := some 33) rfl rfl rfl (r_call2 tb_c67 (v0 := .agg #[_, _, _]) rfl (v1 := xa) rfl) (C_drawkniferef04_Covers S _ _ _ l _ (Below.slT hB hon) (Below.slT hB hmay) (Below.slT hB hl) (by omega) hlr (not_f hs5_2)) (fun v5_5 W45 hE46 hP5_5 => ?_)
     have hsz47 := (Below.size hB)
     replace hB := below_ext hB hE46 (Nat.le_refl _)
     replace hm0_0 := hE46.at hm0_0
     replace ho_hP4_2 := hE46.ow ho_hP4_2
     clear hE46
     clear hsz47
     obtain rfl := hP5_5
     refine WL_val (dd := some 34) rfl rfl rfl (r_not rfl) ?_
     refine WL_val (dd := some 35) rfl rfl rfl (r_pick_f rfl (v := .bool _) rfl) ?_
     refine WL_nil ?_
     refine hK36 _ _ ?_
     clear hK36 K35
     refine WC_cond (b := _) rfl (fun hc1 => ?_) (fun hc1 => ?_)
     ·
      try with_reducible replace hc1 := of_decide_eq_true hc1
      refine WC_seq (fun K48 hK49 => ?_)
      have hcv : covB S l = false := by first | exact not_t hc1 | exact cov_noR (not_t hs5_2) | exact cov_noR hs2_5
      obtain ⟨q2, q3⟩ := hc_hP4_2.elim (fun h => absurd h.1 (by rw [hcv]; decide)) (fun h => h.2)
      subst q2 q3
      refine WC_region ?_
      refine WL_val (dd := some 36) rfl rfl rfl (r_move (v := x_hP4_2) rfl) ?_
      refine WL_val (dd := some 37) rfl rfl rfl (r_lenS (v := x_hP4_2) rfl ho_hP4_2.sl tb_el65) ?_
      refine WL_val (dd := some 38) rfl rfl rfl (r_eql rfl rfl) ?_
      refine WL_split (dd := some 39) rfl rfl rfl (r_move (v := .bool _) rfl) (fun hs6_3 => ?_) (fun hs6_3 => ?_)
      ·
       try with_reducible replace hs6_3 := of_decide_eq_true hs6_3
       refine WL_val (dd := some 40) rfl rfl rfl (r_move (v := .int .i64 _) rfl) ?_
       refine WL_val (dd := some 41) rfl rfl rfl (r_eql rfl rfl) ?_
       refine WL_val (dd := some 42) rfl rfl rfl (r_pick_t rfl (v := .bool _) rfl) ?_
       refine WL_split (dd := some 43) rfl rfl rfl (r_move (v := .bool _) rfl) (fun hs6_7 => ?_) (fun hs6_7 => ?_)
       ·
        try with_reducible replace hs6_7 := of_decide_eq_true hs6_7
        refine WL_val (dd := some 44) rfl rfl rfl (r_loadW rfl tb_ag64 rfl hm0_0) ?_
        refine WL_val (dd := some 45) rfl rfl rfl (r_move (v := xa) rfl) ?_
        refine WL_call (dd := some 46) rfl rfl rfl (r_call2 tb_c74 (v0 := .agg #[_, _, _]) rfl (v1 := xa) rfl) (C_thin_Needed S _ _ _ l _ (Below.slT hB hon) (Below.slT hB hmay) (Below.slT hB hl) (by omega) hlr (by omega)) (fun v6_10 W50 hE51 hP6_10 => ?_)
        have hsz52 := (Below.size hB)
        replace hB := below_ext hB hE51 (Nat.le_refl _)
        replace hm0_0 := hE51.at hm0_0
        replace ho_hP4_2 := hE51.ow ho_hP4_2
        clear hE51
        clear hsz52
        obtain rfl := hP6_10
        refine WL_val (dd := some 47) rfl rfl rfl (r_not rfl) ?_
        refine WL_val (dd := some 48) rfl rfl rfl (r_pick_t rfl (v := .bool _) rfl) ?_
        refine WL_split (dd := some 49) rfl rfl rfl (r_move (v := .bool _) rfl) (fun hs6_13 => ?_) (fun hs6_13 => ?_)
        ·
         try with_reducible replace hs6_13 := of_decide_eq_true hs6_13
         refine WL_call (dd := some 50) rfl rfl rfl (r_call0 tb_c72) (C_drawknifelaw16_knows _) (fun v6_14 W53 hE54 hP6_14 => ?_)
         have hsz55 := (Below.size hB)
         replace hB := below_ext hB hE54 (Nat.le_refl _)
         replace hm0_0 := hE54.at hm0_0
         replace ho_hP4_2 := hE54.ow ho_hP4_2
         clear hE54
         clear hsz55
         obtain rfl := hP6_14
         refine WL_val (dd := some 51) rfl rfl rfl (r_pick_t rfl (v := .bool _) rfl) ?_
         refine WL_val (dd := some 4) rfl rfl rfl (r_assign (v := .bool _) rfl) ?_
         refine WL_nil ?_
         refine hK49 _ _ ?_
         clear hK49 K48
         refine WC_ret ?_
         repeat (first | refine thenQ_ret ?_ | refine blockQ_ret ?_)
         try clear hK34 K33
         refine ret_t (v := .bool _) rfl ?_
         refine ⟨hB, ?_⟩
         rfl
        ·
         try with_reducible replace hs6_13 := of_decide_eq_false hs6_13
         exact absurd (not_f hs6_13) (by rw [needed_no hcv]; decide)
       ·
        try with_reducible replace hs6_7 := of_decide_eq_false hs6_7
        exact absurd rfl hs6_7
      ·
       try with_reducible replace hs6_3 := of_decide_eq_false hs6_3
       exact absurd rfl hs6_3
     ·
      try with_reducible replace hc1 := of_decide_eq_false hc1
      refine WC_skip ?_
      refine hK34 _ _ ?_
      clear hK34 K33
      refine WC_seq (fun K56 hK57 => ?_)
      have hcv : covB S l = true := not_f hc1
      obtain ⟨q2, q3⟩ := hc_hP4_2.elim (fun h => h.2) (fun h => absurd hcv (by rw [h.1]; decide))
      subst q2 q3
      have htl := thin_len S l
      refine WC_draw Ext tb_mix (fun W58 hE59 => ?_)
      replace hB := below_ext hB hE59 (Nat.le_refl _)
      replace hm0_0 := hE59.at hm0_0
      replace ho_hP4_2 := hE59.ow ho_hP4_2
      have hS := Ext.refl W58
      refine WT_take (dd := some 52) 0 rfl (by kernel_rfl) (by kernel_rfl) (by kernel_rfl) rfl rfl rfl (fun _wq _hq => r_move (v := x_hP4_2) rfl) hS ?_
      refine WT_take (dd := some 53) 1 rfl (by kernel_rfl) (by kernel_rfl) (by kernel_rfl) rfl rfl rfl (fun _wq hq => r_loadW rfl tb_ag64 rfl (hq.at hm0_0)) hS ?_
      refine WT_take (dd := some 54) 2 rfl (by kernel_rfl) (by kernel_rfl) (by kernel_rfl) rfl rfl rfl (fun _wq _hq => r_move (v := xa) rfl) hS ?_
      refine WT_one (dd := some 55) 3 (by kernel_rfl) rfl rfl rfl rfl (Yd.call (r_call2 tb_c75 (v0 := .agg #[_, _, _]) rfl (v1 := xa) rfl) (C_drawkniferef16_Thin S _ _ _ l _ (Below.slT hB hon) (Below.slT hB hmay) (Below.slT hB hl) (by omega) hlr hcv) (fun v7_3 W60 hE61 hP7_3 => ⟨.inl (hS.trans hE61), ?_⟩))
      have hlt62 := OwT.lt2 ho_hP4_2
      have hsz63 := (Below.size hB)
      have sv64_hB := hB
      have sv64_hm0_0 := hm0_0
      have sv64_ho_hP4_2 := ho_hP4_2
      replace hB := below_ext hB hE61 (Nat.le_refl _)
      replace hm0_0 := hE61.at hm0_0
      replace ho_hP4_2 := hE61.ow ho_hP4_2
      replace hS := hS.trans hE61
      clear hE61
      have hap65 := Apart.new hlt62 hP7_3
      replace hP7_3 := OwT.mono hP7_3 hsz63
      clear hsz63
      refine WT_one (dd := some 56) 4 (by kernel_rfl) rfl rfl rfl rfl (Yd.call (r_call2 tb_c60 (v0 := x_hP4_2) rfl (v1 := v7_3) rfl) (C_drawkniferef10_Same _ _ _ _ _ ho_hP4_2.sl hP7_3.sl (by omega)) (fun v7_4 W66 hE67 hP7_4 => ⟨.inl (hS.trans hE67), ?_⟩))
      have hsz68 := (Below.size hB)
      replace hB := below_ext hB hE67 (Nat.le_refl _)
      replace hm0_0 := hE67.at hm0_0
      replace ho_hP4_2 := hE67.ow ho_hP4_2
      replace hP7_3 := hE67.ow hP7_3
      replace hS := hS.trans hE67
      clear hE67
      clear hsz68
      obtain rfl := hP7_4
      refine WT_split (dd := some 57) 5 rfl (by kernel_rfl) (by kernel_rfl) (by kernel_rfl) rfl rfl rfl (fun wq hq => r_move (v := .bool _) rfl) hS (fun hs7_5 => ?_) (fun hs7_5 => ?_)
      ·
       try with_reducible replace hs7_5 := of_decide_eq_true hs7_5
       refine WT_take (dd := some 58) 6 rfl (by kernel_rfl) (by kernel_rfl) (by kernel_rfl) rfl rfl rfl (fun _wq _hq => r_move (v := .int .i64 _) rfl) hS ?_
       refine WT_take (dd := some 59) 7 rfl (by kernel_rfl) (by kernel_rfl) (by kernel_rfl) rfl rfl rfl (fun _wq _hq => r_eql rfl rfl) hS ?_
       refine WT_take (dd := some 60) 8 rfl (by kernel_rfl) (by kernel_rfl) (by kernel_rfl) rfl rfl rfl (fun _wq _hq => r_pick_t rfl (v := .bool _) rfl) hS ?_
       refine WT_split (dd := some 61) 9 rfl (by kernel_rfl) (by kernel_rfl) (by kernel_rfl) rfl rfl rfl (fun wq hq => r_move (v := .bool _) rfl) hS (fun hs7_9 => ?_) (fun hs7_9 => ?_)
       ·
        try with_reducible replace hs7_9 := of_decide_eq_true hs7_9
        refine WT_take (dd := some 62) 10 rfl (by kernel_rfl) (by kernel_rfl) (by kernel_rfl) rfl rfl rfl (fun _wq hq => r_loadW rfl tb_ag64 rfl (hq.at sv64_hm0_0)) hS ?_
        refine WT_take (dd := some 63) 11 rfl (by kernel_rfl) (by kernel_rfl) (by kernel_rfl) rfl rfl rfl (fun _wq _hq => r_move (v := xa) rfl) hS ?_
        refine WT_take (dd := some 65) 13 rfl (by kernel_rfl) (by kernel_rfl) (by kernel_rfl) rfl rfl rfl (fun _wq hq => r_loadW rfl tb_ag64 rfl (hq.at sv64_hm0_0)) hS ?_
        refine WT_take (dd := some 66) 14 rfl (by kernel_rfl) (by kernel_rfl) (by kernel_rfl) rfl rfl rfl (fun _wq _hq => r_move (v := xa) rfl) hS ?_
        refine WT_one (dd := some 64) 12 (by kernel_rfl) rfl rfl rfl rfl (Yd.call (r_call2 tb_c74 (v0 := .agg #[_, _, _]) rfl (v1 := xa) rfl) (C_thin_Needed S _ _ _ l _ (Below.slT hB hon) (Below.slT hB hmay) (Below.slT hB hl) (by omega) hlr (by omega)) (fun v7_12 W69 hE70 hP7_12 => ⟨.inl (hS.trans hE70), ?_⟩))
        have hsz71 := (Below.size hB)
        replace hB := below_ext hB hE70 (Nat.le_refl _)
        replace hm0_0 := hE70.at hm0_0
        replace ho_hP4_2 := hE70.ow ho_hP4_2
        replace hP7_3 := hE70.ow hP7_3
        replace hS := hS.trans hE70
        clear hE70
        clear hsz71
        obtain rfl := hP7_12
        refine WT_one (dd := some 67) 15 (by kernel_rfl) rfl rfl rfl rfl (Yd.call (r_call2 tb_c76 (v0 := .agg #[_, _, _]) rfl (v1 := xa) rfl) (C_drawkniferef16_Needed S _ _ _ l _ (Below.slT hB hon) (Below.slT hB hmay) (Below.slT hB hl) (by omega) hlr (covB_iff.1 hcv).1) (fun v7_15 W72 hE73 hP7_15 => ⟨.inl (hS.trans hE73), ?_⟩))
        have hsz74 := (Below.size hB)
        replace hB := below_ext hB hE73 (Nat.le_refl _)
        replace hm0_0 := hE73.at hm0_0
        replace ho_hP4_2 := hE73.ow ho_hP4_2
        replace hP7_3 := hE73.ow hP7_3
        replace hS := hS.trans hE73
        clear hE73
        clear hsz74
        obtain rfl := hP7_15
        refine WT_take (dd := some 68) 16 rfl (by kernel_rfl) (by kernel_rfl) (by kernel_rfl) rfl rfl rfl (fun _wq _hq => r_eqlB rfl rfl Try.underlying4) hS ?_
        refine WT_take (dd := some 69) 17 rfl (by kernel_rfl) (by kernel_rfl) (by kernel_rfl) rfl rfl rfl (fun _wq _hq => r_pick_t rfl (v := .bool _) rfl) hS ?_
        refine WT_split (dd := some 70) 18 rfl (by kernel_rfl) (by kernel_rfl) (by kernel_rfl) rfl rfl rfl (fun wq hq => r_move (v := .bool _) rfl) hS (fun hs7_18 => ?_) (fun hs7_18 => ?_)
        ·
         try with_reducible replace hs7_18 := of_decide_eq_true hs7_18
         refine WT_one (dd := some 71) 19 (by kernel_rfl) rfl rfl rfl rfl (Yd.call (r_call0 tb_c72) (C_drawknifelaw16_knows _) (fun v7_19 W75 hE76 hP7_19 => ⟨.inl (hS.trans hE76), ?_⟩))
         have hsz77 := (Below.size hB)
         replace hB := below_ext hB hE76 (Nat.le_refl _)
         replace hm0_0 := hE76.at hm0_0
         replace ho_hP4_2 := hE76.ow ho_hP4_2
         replace hP7_3 := hE76.ow hP7_3
         replace hS := hS.trans hE76
         clear hE76
         clear hsz77
         obtain rfl := hP7_19
         refine WT_take (dd := some 72) 20 rfl (by kernel_rfl) (by kernel_rfl) (by kernel_rfl) rfl rfl rfl (fun _wq _hq => r_pick_t rfl (v := .bool _) rfl) hS ?_
         refine WT_take (dd := some 4) 21 rfl (by kernel_rfl) (by kernel_rfl) (by kernel_rfl) rfl rfl rfl (fun _wq _hq => r_assign (v := .bool _) rfl) hS ?_
         refine WT_done (by kernel_rfl) ?_
         try clear sv64_hB sv64_hm0_0 sv64_ho_hP4_2
         refine hK57 _ _ ?_
         clear hK57 K56
         refine WC_ret ?_
         repeat (first | refine thenQ_ret ?_ | refine blockQ_ret ?_)
         refine ret_t (v := .bool _) rfl ?_
         refine ⟨hB, ?_⟩
         rfl
        ·
         try with_reducible replace hs7_18 := of_decide_eq_false hs7_18
         exact absurd rfl hs7_18
       ·
        try with_reducible replace hs7_9 := of_decide_eq_false hs7_9
        exact absurd rfl hs7_9
      ·
       try with_reducible replace hs7_5 := of_decide_eq_false hs7_5
       first | exact absurd rfl (of_decide_eq_false hs7_5) | exact absurd rfl hs7_5
  ·
   try with_reducible replace hs2_5 := of_decide_eq_false hs2_5
   refine WL_skip (dd := some 16) rfl rfl rfl ?_
   refine WL_skip (dd := some 17) rfl rfl rfl ?_
   refine WL_skip (dd := some 18) rfl rfl rfl ?_
   refine WL_val (dd := some 19) rfl rfl rfl (r_pick_f rfl (v := .bool false) rfl) ?_
   refine WL_val (dd := some 20) rfl rfl rfl (r_pick_f rfl (v := .bool false) rfl) ?_
   refine WL_nil ?_
   refine hK14 _ _ ?_
   clear hK14 K13
   refine WC_cond_false rfl ?_
   refine WC_skip ?_
   refine hK12 _ _ ?_
   clear hK12 K11
   refine WC_seq (fun K78 hK79 => ?_)
   obtain ⟨hg1, hg2, hg3⟩ := g16_no hs2_3
   refine WC_region ?_
   refine WL_val (dd := some 23) rfl rfl rfl (r_loadW rfl tb_ag64 rfl hm0_0) ?_
   refine WL_val (dd := some 24) rfl rfl rfl (r_move (v := xa) rfl) ?_
   refine WL_call (dd := some 25) rfl rfl rfl (r_call2 tb_c73 (v0 := .agg #[_, _, _]) rfl (v1 := xa) rfl) (C_thin_Thin S _ _ _ l _ (Below.slT hB hon) (Below.slT hB hmay) (Below.slT hB hl) (by omega) hlr (by omega)) (fun v4_2 W80 hE81 hP4_2 => ?_)
   have hsz82 := (Below.size hB)
   replace hB := below_ext hB hE81 (Nat.le_refl _)
   replace hm0_0 := hE81.at hm0_0
   clear hE81
   obtain ⟨x_hP4_2, er_hP4_2, l_hP4_2, rfl, ho_hP4_2, hc_hP4_2⟩ := own_res hP4_2
   replace ho_hP4_2 := OwT.mono ho_hP4_2 hsz82
   clear hsz82
   refine WL_val (dd := some 22) rfl rfl rfl (r_move (v := .tuple #[x_hP4_2, .int .i64 _]) rfl) ?_
   refine WL_val (dd := some 26) rfl rfl rfl (r_ext2_0 (h := rfl)) ?_
   refine WL_val (dd := some 27) rfl rfl rfl (r_ext2_1 (h := rfl)) ?_
   refine WL_val (dd := some 6) rfl rfl rfl (r_assign (v := x_hP4_2) rfl) ?_
   refine WL_val (dd := some 7) rfl rfl rfl (r_assign (v := .int .i64 _) rfl) ?_
   refine WL_nil ?_
   refine hK79 _ _ ?_
   clear hK79 K78
   refine WC_seq (fun K83 hK84 => ?_)
   refine WC_seq (fun K85 hK86 => ?_)
   refine WC_region ?_
   refine WL_val (dd := some 28) rfl rfl rfl (r_move (v := .bool _) rfl) ?_
   refine WL_val (dd := some 29) rfl rfl rfl (r_not rfl) ?_
   refine WL_split (dd := some 30) rfl rfl rfl (r_move (v := .bool _) rfl) (fun hs5_2 => ?_) (fun hs5_2 => ?_)
   ·
    try with_reducible replace hs5_2 := of_decide_eq_true hs5_2
    refine WL_skip (dd := some 31) rfl rfl rfl ?_
    refine WL_skip (dd := some 32) rfl rfl rfl ?_
    refine WL_skip (dd := some 33) rfl rfl rfl ?_
    refine WL_skip (dd := some 34) rfl rfl rfl ?_
    refine WL_val (dd := some 35) rfl rfl rfl (r_pick_t rfl (v := .bool true) rfl) ?_
    refine WL_nil ?_
    refine hK86 _ _ ?_
    clear hK86 K85
    refine WC_cond_true rfl ?_
    refine WC_seq (fun K87 hK88 => ?_)
    have hcv : covB S l = false := by first | exact not_t hc1 | exact cov_noR (not_t hs5_2) | exact cov_noR hs2_5
    obtain ⟨q2, q3⟩ := hc_hP4_2.elim (fun h => absurd h.1 (by rw [hcv]; decide)) (fun h => h.2)
    subst q2 q3
    refine WC_region ?_
    refine WL_val (dd := some 36) rfl rfl rfl (r_move (v := x_hP4_2) rfl) ?_
    refine WL_val (dd := some 37) rfl rfl rfl (r_lenS (v := x_hP4_2) rfl ho_hP4_2.sl tb_el65) ?_
    refine WL_val (dd := some 38) rfl rfl rfl (r_eql rfl rfl) ?_
    refine WL_split (dd := some 39) rfl rfl rfl (r_move (v := .bool _) rfl) (fun hs6_3 => ?_) (fun hs6_3 => ?_)
    ·
     try with_reducible replace hs6_3 := of_decide_eq_true hs6_3
     refine WL_val (dd := some 40) rfl rfl rfl (r_move (v := .int .i64 _) rfl) ?_
     refine WL_val (dd := some 41) rfl rfl rfl (r_eql rfl rfl) ?_
     refine WL_val (dd := some 42) rfl rfl rfl (r_pick_t rfl (v := .bool _) rfl) ?_
     refine WL_split (dd := some 43) rfl rfl rfl (r_move (v := .bool _) rfl) (fun hs6_7 => ?_) (fun hs6_7 => ?_)
     ·
      try with_reducible replace hs6_7 := of_decide_eq_true hs6_7
      refine WL_val (dd := some 44) rfl rfl rfl (r_loadW rfl tb_ag64 rfl hm0_0) ?_
      refine WL_val (dd := some 45) rfl rfl rfl (r_move (v := xa) rfl) ?_
      refine WL_call (dd := some 46) rfl rfl rfl (r_call2 tb_c74 (v0 := .agg #[_, _, _]) rfl (v1 := xa) rfl) (C_thin_Needed S _ _ _ l _ (Below.slT hB hon) (Below.slT hB hmay) (Below.slT hB hl) (by omega) hlr (by omega)) (fun v6_10 W89 hE90 hP6_10 => ?_)
      have hsz91 := (Below.size hB)
      replace hB := below_ext hB hE90 (Nat.le_refl _)
      replace hm0_0 := hE90.at hm0_0
      replace ho_hP4_2 := hE90.ow ho_hP4_2
      clear hE90
      clear hsz91
      obtain rfl := hP6_10
      refine WL_val (dd := some 47) rfl rfl rfl (r_not rfl) ?_
      refine WL_val (dd := some 48) rfl rfl rfl (r_pick_t rfl (v := .bool _) rfl) ?_
      refine WL_split (dd := some 49) rfl rfl rfl (r_move (v := .bool _) rfl) (fun hs6_13 => ?_) (fun hs6_13 => ?_)
      ·
       try with_reducible replace hs6_13 := of_decide_eq_true hs6_13
       refine WL_call (dd := some 50) rfl rfl rfl (r_call0 tb_c72) (C_drawknifelaw16_knows _) (fun v6_14 W92 hE93 hP6_14 => ?_)
       have hsz94 := (Below.size hB)
       replace hB := below_ext hB hE93 (Nat.le_refl _)
       replace hm0_0 := hE93.at hm0_0
       replace ho_hP4_2 := hE93.ow ho_hP4_2
       clear hE93
       clear hsz94
       obtain rfl := hP6_14
       refine WL_val (dd := some 51) rfl rfl rfl (r_pick_t rfl (v := .bool _) rfl) ?_
       refine WL_val (dd := some 4) rfl rfl rfl (r_assign (v := .bool _) rfl) ?_
       refine WL_nil ?_
       refine hK88 _ _ ?_
       clear hK88 K87
       refine WC_ret ?_
       repeat (first | refine thenQ_ret ?_ | refine blockQ_ret ?_)
       try clear hK84 K83
       refine ret_t (v := .bool _) rfl ?_
       refine ⟨hB, ?_⟩
       rfl
      ·
       try with_reducible replace hs6_13 := of_decide_eq_false hs6_13
       exact absurd (not_f hs6_13) (by rw [needed_no hcv]; decide)
     ·
      try with_reducible replace hs6_7 := of_decide_eq_false hs6_7
      exact absurd rfl hs6_7
    ·
     try with_reducible replace hs6_3 := of_decide_eq_false hs6_3
     exact absurd rfl hs6_3
   ·
    try with_reducible replace hs5_2 := of_decide_eq_false hs5_2
    refine WL_val (dd := some 31) rfl rfl rfl (r_loadW rfl tb_ag64 rfl hm0_0) ?_
    refine WL_val (dd := some 32) rfl rfl rfl (r_move (v := xa) rfl) ?_
    refine WL_call (dd := some 33) rfl rfl rfl (r_call2 tb_c67 (v0 := .agg #[_, _, _]) rfl (v1 := xa) rfl) (C_drawkniferef04_Covers S _ _ _ l _ (Below.slT hB hon) (Below.slT hB hmay) (Below.slT hB hl) (by omega) hlr (not_f hs5_2)) (fun v5_5 W95 hE96 hP5_5 => ?_)
    have hsz97 := (Below.size hB)
    replace hB := below_ext hB hE96 (Nat.le_refl _)
    replace hm0_0 := hE96.at hm0_0
    replace ho_hP4_2 := hE96.ow ho_hP4_2
    clear hE96
    clear hsz97
    obtain rfl := hP5_5
    refine WL_val (dd := some 34) rfl rfl rfl (r_not rfl) ?_
    refine WL_val (dd := some 35) rfl rfl rfl (r_pick_f rfl (v := .bool _) rfl) ?_
    refine WL_nil ?_
    refine hK86 _ _ ?_
    clear hK86 K85
    refine WC_cond (b := _) rfl (fun hc1 => ?_) (fun hc1 => ?_)
    ·
     try with_reducible replace hc1 := of_decide_eq_true hc1
     refine WC_seq (fun K98 hK99 => ?_)
     have hcv : covB S l = false := by first | exact not_t hc1 | exact cov_noR (not_t hs5_2) | exact cov_noR hs2_5
     obtain ⟨q2, q3⟩ := hc_hP4_2.elim (fun h => absurd h.1 (by rw [hcv]; decide)) (fun h => h.2)
     subst q2 q3
     refine WC_region ?_
     refine WL_val (dd := some 36) rfl rfl rfl (r_move (v := x_hP4_2) rfl) ?_
     refine WL_val (dd := some 37) rfl rfl rfl (r_lenS (v := x_hP4_2) rfl ho_hP4_2.sl tb_el65) ?_
     refine WL_val (dd := some 38) rfl rfl rfl (r_eql rfl rfl) ?_
     refine WL_split (dd := some 39) rfl rfl rfl (r_move (v := .bool _) rfl) (fun hs6_3 => ?_) (fun hs6_3 => ?_)
     ·
      try with_reducible replace hs6_3 := of_decide_eq_true hs6_3
      refine WL_val (dd := some 40) rfl rfl rfl (r_move (v := .int .i64 _) rfl) ?_
      refine WL_val (dd := some 41) rfl rfl rfl (r_eql rfl rfl) ?_
      refine WL_val (dd := some 42) rfl rfl rfl (r_pick_t rfl (v := .bool _) rfl) ?_
      refine WL_split (dd := some 43) rfl rfl rfl (r_move (v := .bool _) rfl) (fun hs6_7 => ?_) (fun hs6_7 => ?_)
      ·
       try with_reducible replace hs6_7 := of_decide_eq_true hs6_7
       refine WL_val (dd := some 44) rfl rfl rfl (r_loadW rfl tb_ag64 rfl hm0_0) ?_
       refine WL_val (dd := some 45) rfl rfl rfl (r_move (v := xa) rfl) ?_
       refine WL_call (dd := some 46) rfl rfl rfl (r_call2 tb_c74 (v0 := .agg #[_, _, _]) rfl (v1 := xa) rfl) (C_thin_Needed S _ _ _ l _ (Below.slT hB hon) (Below.slT hB hmay) (Below.slT hB hl) (by omega) hlr (by omega)) (fun v6_10 W100 hE101 hP6_10 => ?_)
       have hsz102 := (Below.size hB)
       replace hB := below_ext hB hE101 (Nat.le_refl _)
       replace hm0_0 := hE101.at hm0_0
       replace ho_hP4_2 := hE101.ow ho_hP4_2
       clear hE101
       clear hsz102
       obtain rfl := hP6_10
       refine WL_val (dd := some 47) rfl rfl rfl (r_not rfl) ?_
       refine WL_val (dd := some 48) rfl rfl rfl (r_pick_t rfl (v := .bool _) rfl) ?_
       refine WL_split (dd := some 49) rfl rfl rfl (r_move (v := .bool _) rfl) (fun hs6_13 => ?_) (fun hs6_13 => ?_)
       ·
        try with_reducible replace hs6_13 := of_decide_eq_true hs6_13
        refine WL_call (dd := some 50) rfl rfl rfl (r_call0 tb_c72) (C_drawknifelaw16_knows _) (fun v6_14 W103 hE104 hP6_14 => ?_)
        have hsz105 := (Below.size hB)
        replace hB := below_ext hB hE104 (Nat.le_refl _)
        replace hm0_0 := hE104.at hm0_0
        replace ho_hP4_2 := hE104.ow ho_hP4_2
        clear hE104
        clear hsz105
        obtain rfl := hP6_14
        refine WL_val (dd := some 51) rfl rfl rfl (r_pick_t rfl (v := .bool _) rfl) ?_
        refine WL_val (dd := some 4) rfl rfl rfl (r_assign (v := .bool _) rfl) ?_
        refine WL_nil ?_
        refine hK99 _ _ ?_
        clear hK99 K98
        refine WC_ret ?_
        repeat (first | refine thenQ_ret ?_ | refine blockQ_ret ?_)
        try clear hK84 K83
        refine ret_t (v := .bool _) rfl ?_
        refine ⟨hB, ?_⟩
        rfl
       ·
        try with_reducible replace hs6_13 := of_decide_eq_false hs6_13
        exact absurd (not_f hs6_13) (by rw [needed_no hcv]; decide)
      ·
       try with_reducible replace hs6_7 := of_decide_eq_false hs6_7
       exact absurd rfl hs6_7
     ·
      try with_reducible replace hs6_3 := of_decide_eq_false hs6_3
      exact absurd rfl hs6_3
    ·
     try with_reducible replace hc1 := of_decide_eq_false hc1
     refine WC_skip ?_
     refine hK84 _ _ ?_
     clear hK84 K83
     refine WC_seq (fun K106 hK107 => ?_)
     have hcv : covB S l = true := not_f hc1
     obtain ⟨q2, q3⟩ := hc_hP4_2.elim (fun h => h.2) (fun h => absurd hcv (by rw [h.1]; decide))
     subst q2 q3
     have htl := thin_len S l
     refine WC_draw Ext tb_mix (fun W108 hE109 => ?_)
     replace hB := below_ext hB hE109 (Nat.le_refl _)
     replace hm0_0 := hE109.at hm0_0
     replace ho_hP4_2 := hE109.ow ho_hP4_2
     have hS := Ext.refl W108
     refine WT_take (dd := some 52) 0 rfl (by kernel_rfl) (by kernel_rfl) (by kernel_rfl) rfl rfl rfl (fun _wq _hq => r_move (v := x_hP4_2) rfl) hS ?_
     refine WT_take (dd := some 53) 1 rfl (by kernel_rfl) (by kernel_rfl) (by kernel_rfl) rfl rfl rfl (fun _wq hq => r_loadW rfl tb_ag64 rfl (hq.at hm0_0)) hS ?_
     refine WT_take (dd := some 54) 2 rfl (by kernel_rfl) (by kernel_rfl) (by kernel_rfl) rfl rfl rfl (fun _wq _hq => r_move (v := xa) rfl) hS ?_
     refine WT_one (dd := some 55) 3 (by kernel_rfl) rfl rfl rfl rfl (Yd.call (r_call2 tb_c75 (v0 := .agg #[_, _, _]) rfl (v1 := xa) rfl) (C_drawkniferef16_Thin S _ _ _ l _ (Below.slT hB hon) (Below.slT hB hmay) (Below.slT hB hl) (by omega) hlr hcv) (fun v7_3 W110 hE111 hP7_3 => ⟨.inl (hS.trans hE111), ?_⟩))
     have hlt112 := OwT.lt2 ho_hP4_2
     have hsz113 := (Below.size hB)
     have sv114_hB := hB
     have sv114_hm0_0 := hm0_0
     have sv114_ho_hP4_2 := ho_hP4_2
     replace hB := below_ext hB hE111 (Nat.le_refl _)
     replace hm0_0 := hE111.at hm0_0
     replace ho_hP4_2 := hE111.ow ho_hP4_2
     replace hS := hS.trans hE111
     clear hE111
     have hap115 := Apart.new hlt112 hP7_3
     replace hP7_3 := OwT.mono hP7_3 hsz113
     clear hsz113
     refine WT_one (dd := some 56) 4 (by kernel_rfl) rfl rfl rfl rfl (Yd.call (r_call2 tb_c60 (v0 := x_hP4_2) rfl (v1 := v7_3) rfl) (C_drawkniferef10_Same _ _ _ _ _ ho_hP4_2.sl hP7_3.sl (by omega)) (fun v7_4 W116 hE117 hP7_4 => ⟨.inl (hS.trans hE117), ?_⟩))
     have hsz118 := (Below.size hB)
     replace hB := below_ext hB hE117 (Nat.le_refl _)
     replace hm0_0 := hE117.at hm0_0
     replace ho_hP4_2 := hE117.ow ho_hP4_2
     replace hP7_3 := hE117.ow hP7_3
     replace hS := hS.trans hE117
     clear hE117
     clear hsz118
     obtain rfl := hP7_4
     refine WT_split (dd := some 57) 5 rfl (by kernel_rfl) (by kernel_rfl) (by kernel_rfl) rfl rfl rfl (fun wq hq => r_move (v := .bool _) rfl) hS (fun hs7_5 => ?_) (fun hs7_5 => ?_)
     ·
      try with_reducible replace hs7_5 := of_decide_eq_true hs7_5
      refine WT_take (dd := some 58) 6 rfl (by kernel_rfl) (by kernel_rfl) (by kernel_rfl) rfl rfl rfl (fun _wq _hq => r_move (v := .int .i64 _) rfl) hS ?_
      refine WT_take (dd := some 59) 7 rfl (by kernel_rfl) (by kernel_rfl) (by kernel_rfl) rfl rfl rfl (fun _wq _hq => r_eql rfl rfl) hS ?_
      refine WT_take (dd := some 60) 8 rfl (by kernel_rfl) (by kernel_rfl) (by kernel_rfl) rfl rfl rfl (fun _wq _hq => r_pick_t rfl (v := .bool _) rfl) hS ?_
      refine WT_split (dd := some 61) 9 rfl (by kernel_rfl) (by kernel_rfl) (by kernel_rfl) rfl rfl rfl (fun wq hq => r_move (v := .bool _) rfl) hS (fun hs7_9 => ?_) (fun hs7_9 => ?_)
      ·
       try with_reducible replace hs7_9 := of_decide_eq_true hs7_9
       refine WT_take (dd := some 62) 10 rfl (by kernel_rfl) (by kernel_rfl) (by kernel_rfl) rfl rfl rfl (fun _wq hq => r_loadW rfl tb_ag64 rfl (hq.at sv114_hm0_0)) hS ?_
       refine WT_take (dd := some 63) 11 rfl (by kernel_rfl) (by kernel_rfl) (by kernel_rfl) rfl rfl rfl (fun _wq _hq => r_move (v := xa) rfl) hS ?_
       refine WT_take (dd := some 65) 13 rfl (by kernel_rfl) (by kernel_rfl) (by kernel_rfl) rfl rfl rfl (fun _wq hq => r_loadW rfl tb_ag64 rfl (hq.at sv114_hm0_0)) hS ?_
       refine WT_take (dd := some 66) 14 rfl (by kernel_rfl) (by kernel_rfl) (by kernel_rfl) rfl rfl rfl (fun _wq _hq => r_move (v := xa) rfl) hS ?_
       refine WT_one (dd := some 64) 12 (by kernel_rfl) rfl rfl rfl rfl (Yd.call (r_call2 tb_c74 (v0 := .agg #[_, _, _]) rfl (v1 := xa) rfl) (C_thin_Needed S _ _ _ l _ (Below.slT hB hon) (Below.slT hB hmay) (Below.slT hB hl) (by omega) hlr (by omega)) (fun v7_12 W119 hE120 hP7_12 => ⟨.inl (hS.trans hE120), ?_⟩))
       have hsz121 := (Below.size hB)
       replace hB := below_ext hB hE120 (Nat.le_refl _)
       replace hm0_0 := hE120.at hm0_0
       replace ho_hP4_2 := hE120.ow ho_hP4_2
       replace hP7_3 := hE120.ow hP7_3
       replace hS := hS.trans hE120
       clear hE120
       clear hsz121
       obtain rfl := hP7_12
       refine WT_one (dd := some 67) 15 (by kernel_rfl) rfl rfl rfl rfl (Yd.call (r_call2 tb_c76 (v0 := .agg #[_, _, _]) rfl (v1 := xa) rfl) (C_drawkniferef16_Needed S _ _ _ l _ (Below.slT hB hon) (Below.slT hB hmay) (Below.slT hB hl) (by omega) hlr (covB_iff.1 hcv).1) (fun v7_15 W122 hE123 hP7_15 => ⟨.inl (hS.trans hE123), ?_⟩))
       have hsz124 := (Below.size hB)
       replace hB := below_ext hB hE123 (Nat.le_refl _)
       replace hm0_0 := hE123.at hm0_0
       replace ho_hP4_2 := hE123.ow ho_hP4_2
       replace hP7_3 := hE123.ow hP7_3
       replace hS := hS.trans hE123
       clear hE123
       clear hsz124
       obtain rfl := hP7_15
       refine WT_take (dd := some 68) 16 rfl (by kernel_rfl) (by kernel_rfl) (by kernel_rfl) rfl rfl rfl (fun _wq _hq => r_eqlB rfl rfl Try.underlying4) hS ?_
       refine WT_take (dd := some 69) 17 rfl (by kernel_rfl) (by kernel_rfl) (by kernel_rfl) rfl rfl rfl (fun _wq _hq => r_pick_t rfl (v := .bool _) rfl) hS ?_
       refine WT_split (dd := some 70) 18 rfl (by kernel_rfl) (by kernel_rfl) (by kernel_rfl) rfl rfl rfl (fun wq hq => r_move (v := .bool _) rfl) hS (fun hs7_18 => ?_) (fun hs7_18 => ?_)
       ·
        try with_reducible replace hs7_18 := of_decide_eq_true hs7_18
        refine WT_one (dd := some 71) 19 (by kernel_rfl) rfl rfl rfl rfl (Yd.call (r_call0 tb_c72) (C_drawknifelaw16_knows _) (fun v7_19 W125 hE126 hP7_19 => ⟨.inl (hS.trans hE126), ?_⟩))
        have hsz127 := (Below.size hB)
        replace hB := below_ext hB hE126 (Nat.le_refl _)
        replace hm0_0 := hE126.at hm0_0
        replace ho_hP4_2 := hE126.ow ho_hP4_2
        replace hP7_3 := hE126.ow hP7_3
        replace hS := hS.trans hE126
        clear hE126
        clear hsz127
        obtain rfl := hP7_19
        refine WT_take (dd := some 72) 20 rfl (by kernel_rfl) (by kernel_rfl) (by kernel_rfl) rfl rfl rfl (fun _wq _hq => r_pick_t rfl (v := .bool _) rfl) hS ?_
        refine WT_take (dd := some 4) 21 rfl (by kernel_rfl) (by kernel_rfl) (by kernel_rfl) rfl rfl rfl (fun _wq _hq => r_assign (v := .bool _) rfl) hS ?_
        refine WT_done (by kernel_rfl) ?_
        try clear sv114_hB sv114_hm0_0 sv114_ho_hP4_2
        refine hK107 _ _ ?_
        clear hK107 K106
        refine WC_ret ?_
        repeat (first | refine thenQ_ret ?_ | refine blockQ_ret ?_)
        refine ret_t (v := .bool _) rfl ?_
        refine ⟨hB, ?_⟩
        rfl
       ·
        try with_reducible replace hs7_18 := of_decide_eq_false hs7_18
        exact absurd rfl hs7_18
      ·
       try with_reducible replace hs7_9 := of_decide_eq_false hs7_9
       exact absurd rfl hs7_9
     ·
      try with_reducible replace hs7_5 := of_decide_eq_false hs7_5
      first | exact absurd rfl (of_decide_eq_false hs7_5) | exact absurd rfl hs7_5

set_option maxRecDepth 10000 in
theorem C_drawknifelaw16_ThinNeeds (S : Sp) (onV mayV : Value) (xa : Value) (l : List Rw) (w : World) (hon : SlT encS 4 w onV S.on) (hmay : SlT encS 4 w mayV S.may) (hl : SlT encR 3 w xa l) (hlr : RowB l) :
    Fn Try.prog 20 #[.agg #[.int .i64 S.n, onV, mayV], xa] w fun v w' => v = .bool true := by
 refine Fn_intro (n := 104) Try.func20 rfl rfl (Nat.le_of_ble_eq_true rfl) ?_
 have hB : Below w.heap.size w w := Below.refl _ _
 refine WC_seq (fun K1 hK2 => ?_)
 refine WC_region ?_
 refine WL_step (dd := some 2) rfl rfl rfl (Y_box (c := #[_, _, _]) rfl rfl (fun b0_0 W3 hb4 hE5 hm0_0 => ?_))
 have lo_b0_0 : w.heap.size ≤ b0_0 := hb4 ▸ (Below.size hB)
 clear hb4
 replace hB := below_ext hB hE5 (Nat.le_refl _)
 clear hE5
 refine WL_val (dd := some 4) rfl rfl rfl (r_assign (v := .bool false) rfl) ?_
 refine WL_nil ?_
 refine hK2 _ _ ?_
 clear hK2 K1
 refine WC_seq (fun K6 hK7 => ?_)
 refine WC_seq (fun K8 hK9 => ?_)
 refine WC_region ?_
 refine WL_val (dd := some 11) rfl rfl rfl (r_loadW rfl tb_ag64 rfl hm0_0) ?_
 refine WL_val (dd := some 12) rfl rfl rfl (r_move (v := xa) rfl) ?_
 refine WL_call (dd := some 13) rfl rfl rfl (r_call2 tb_c71 (v0 := .agg #[_, _, _]) rfl (v1 := xa) rfl) (C_drawknifelaw16_great S _ _ _ l _ (Below.slT hB hon) (Below.slT hB hmay) (Below.slT hB hl) ) (fun v1_2 W10 hE11 hP1_2 => ?_)
 have hsz12 := (Below.size hB)
 replace hB := below_ext hB hE11 (Nat.le_refl _)
 replace hm0_0 := hE11.at hm0_0
 clear hE11
 clear hsz12
 obtain rfl := hP1_2
 refine WL_split (dd := some 14) rfl rfl rfl (r_move (v := .bool _) rfl) (fun hs1_3 => ?_) (fun hs1_3 => ?_)
 ·
  try with_reducible replace hs1_3 := of_decide_eq_true hs1_3
  refine WL_skip (dd := some 15) rfl rfl rfl ?_
  refine WL_skip (dd := some 16) rfl rfl rfl ?_
  refine WL_skip (dd := some 17) rfl rfl rfl ?_
  refine WL_val (dd := some 18) rfl rfl rfl (r_pick_t rfl (v := .bool true) rfl) ?_
  refine WL_val (dd := some 19) rfl rfl rfl (r_move (v := .bool true) rfl) ?_
  refine WL_skip (dd := some 20) rfl rfl rfl ?_
  refine WL_skip (dd := some 21) rfl rfl rfl ?_
  refine WL_skip (dd := some 22) rfl rfl rfl ?_
  refine WL_skip (dd := some 23) rfl rfl rfl ?_
  refine WL_val (dd := some 24) rfl rfl rfl (r_pick_t rfl (v := .bool true) rfl) ?_
  refine WL_nil ?_
  refine hK9 _ _ ?_
  clear hK9 K8
  refine WC_cond_true rfl ?_
  refine WC_seq (fun K13 hK14 => ?_)
  refine WC_region ?_
  refine WL_call (dd := some 25) rfl rfl rfl (r_call0 tb_c72) (C_drawknifelaw16_knows _) (fun v2_0 W15 hE16 hP2_0 => ?_)
  have hsz17 := (Below.size hB)
  replace hB := below_ext hB hE16 (Nat.le_refl _)
  replace hm0_0 := hE16.at hm0_0
  clear hE16
  clear hsz17
  obtain rfl := hP2_0
  refine WL_val (dd := some 4) rfl rfl rfl (r_assign (v := .bool _) rfl) ?_
  refine WL_nil ?_
  refine hK14 _ _ ?_
  clear hK14 K13
  refine WC_ret ?_
  repeat (first | refine thenQ_ret ?_ | refine blockQ_ret ?_)
  try clear hK7 K6
  refine ret_t (v := .bool _) rfl ?_
  refine ⟨hB, ?_⟩
  rfl
 ·
  try with_reducible replace hs1_3 := of_decide_eq_false hs1_3
  refine WL_val (dd := some 15) rfl rfl rfl (r_fieldAddr (b := _) (o := _) rfl tb_fo64_0) ?_
  refine WL_val (dd := some 16) rfl rfl rfl (r_load1 (v := .int .i64 _) rfl tb_sc3 (At.cell hm0_0 rfl)) ?_
  refine WL_val (dd := some 17) rfl rfl rfl (r_gtr rfl rfl) ?_
  refine WL_val (dd := some 18) rfl rfl rfl (r_pick_f rfl (v := .bool _) rfl) ?_
  refine WL_split (dd := some 19) rfl rfl rfl (r_move (v := .bool _) rfl) (fun hs1_8 => ?_) (fun hs1_8 => ?_)
  ·
   try with_reducible replace hs1_8 := of_decide_eq_true hs1_8
   refine WL_skip (dd := some 20) rfl rfl rfl ?_
   refine WL_skip (dd := some 21) rfl rfl rfl ?_
   refine WL_skip (dd := some 22) rfl rfl rfl ?_
   refine WL_skip (dd := some 23) rfl rfl rfl ?_
   refine WL_val (dd := some 24) rfl rfl rfl (r_pick_t rfl (v := .bool true) rfl) ?_
   refine WL_nil ?_
   refine hK9 _ _ ?_
   clear hK9 K8
   refine WC_cond_true rfl ?_
   refine WC_seq (fun K18 hK19 => ?_)
   refine WC_region ?_
   refine WL_call (dd := some 25) rfl rfl rfl (r_call0 tb_c72) (C_drawknifelaw16_knows _) (fun v2_0 W20 hE21 hP2_0 => ?_)
   have hsz22 := (Below.size hB)
   replace hB := below_ext hB hE21 (Nat.le_refl _)
   replace hm0_0 := hE21.at hm0_0
   clear hE21
   clear hsz22
   obtain rfl := hP2_0
   refine WL_val (dd := some 4) rfl rfl rfl (r_assign (v := .bool _) rfl) ?_
   refine WL_nil ?_
   refine hK19 _ _ ?_
   clear hK19 K18
   refine WC_ret ?_
   repeat (first | refine thenQ_ret ?_ | refine blockQ_ret ?_)
   try clear hK7 K6
   refine ret_t (v := .bool _) rfl ?_
   refine ⟨hB, ?_⟩
   rfl
  ·
   try with_reducible replace hs1_8 := of_decide_eq_false hs1_8
   refine WL_val (dd := some 20) rfl rfl rfl (r_loadW rfl tb_ag64 rfl hm0_0) ?_
   refine WL_val (dd := some 21) rfl rfl rfl (r_move (v := xa) rfl) ?_
   refine WL_call (dd := some 22) rfl rfl rfl (r_call2 tb_c66 (v0 := .agg #[_, _, _]) rfl (v1 := xa) rfl) (C_spec_Covers S _ _ _ l _ (Below.slT hB hon) (Below.slT hB hmay) (Below.slT hB hl) (by have := g16_no hs1_3; omega) hlr (by have := g16_no hs1_3; omega)) (fun v1_11 W23 hE24 hP1_11 => ?_)
   have hsz25 := (Below.size hB)
   replace hB := below_ext hB hE24 (Nat.le_refl _)
   replace hm0_0 := hE24.at hm0_0
   clear hE24
   clear hsz25
   obtain rfl := hP1_11
   refine WL_val (dd := some 23) rfl rfl rfl (r_not rfl) ?_
   refine WL_val (dd := some 24) rfl rfl rfl (r_pick_f rfl (v := .bool _) rfl) ?_
   refine WL_nil ?_
   refine hK9 _ _ ?_
   clear hK9 K8
   refine WC_cond (b := _) rfl (fun hc0 => ?_) (fun hc0 => ?_)
   ·
    try with_reducible replace hc0 := of_decide_eq_true hc0
    refine WC_seq (fun K26 hK27 => ?_)
    refine WC_region ?_
    refine WL_call (dd := some 25) rfl rfl rfl (r_call0 tb_c72) (C_drawknifelaw16_knows _) (fun v2_0 W28 hE29 hP2_0 => ?_)
    have hsz30 := (Below.size hB)
    replace hB := below_ext hB hE29 (Nat.le_refl _)
    replace hm0_0 := hE29.at hm0_0
    clear hE29
    clear hsz30
    obtain rfl := hP2_0
    refine WL_val (dd := some 4) rfl rfl rfl (r_assign (v := .bool _) rfl) ?_
    refine WL_nil ?_
    refine hK27 _ _ ?_
    clear hK27 K26
    refine WC_ret ?_
    repeat (first | refine thenQ_ret ?_ | refine blockQ_ret ?_)
    try clear hK7 K6
    refine ret_t (v := .bool _) rfl ?_
    refine ⟨hB, ?_⟩
    rfl
   ·
    try with_reducible replace hc0 := of_decide_eq_false hc0
    refine WC_skip ?_
    refine hK7 _ _ ?_
    clear hK7 K6
    refine WC_seq (fun K31 hK32 => ?_)
    obtain ⟨hg1, hg2, hg3⟩ := g16_no hs1_3
    have hcv : covB S l = true := not_f hc0
    have htl := thin_len S l
    refine WC_region ?_
    refine WL_val (dd := some 27) rfl rfl rfl (r_loadW rfl tb_ag64 rfl hm0_0) ?_
    refine WL_val (dd := some 28) rfl rfl rfl (r_move (v := xa) rfl) ?_
    refine WL_call (dd := some 29) rfl rfl rfl (r_call2 tb_c73 (v0 := .agg #[_, _, _]) rfl (v1 := xa) rfl) (C_thin_Thin S _ _ _ l _ (Below.slT hB hon) (Below.slT hB hmay) (Below.slT hB hl) (by omega) hlr (by omega)) (fun v3_2 W33 hE34 hP3_2 => ?_)
    have hsz35 := (Below.size hB)
    replace hB := below_ext hB hE34 (Nat.le_refl _)
    replace hm0_0 := hE34.at hm0_0
    clear hE34
    obtain ⟨x_hP3_2, er_hP3_2, l_hP3_2, rfl, ho_hP3_2, hc_hP3_2⟩ := own_res hP3_2
    replace ho_hP3_2 := OwT.mono ho_hP3_2 hsz35
    clear hsz35
    refine WL_val (dd := some 26) rfl rfl rfl (r_move (v := .tuple #[x_hP3_2, .int .i64 _]) rfl) ?_
    refine WL_val (dd := some 30) rfl rfl rfl (r_ext2_0 (h := rfl)) ?_
    refine WL_val (dd := some 31) rfl rfl rfl (r_ext2_1 (h := rfl)) ?_
    refine WL_val (dd := some 5) rfl rfl rfl (r_assign (v := x_hP3_2) rfl) ?_
    refine WL_val (dd := some 6) rfl rfl rfl (r_assign (v := .int .i64 _) rfl) ?_
    refine WL_nil ?_
    refine hK32 _ _ ?_
    clear hK32 K31
    refine WC_seq (fun K36 hK37 => ?_)
    obtain ⟨q2, q3⟩ := hc_hP3_2.elim (fun h => h.2) (fun h => absurd hcv (by rw [h.1]; decide))
    subst q2 q3
    refine WC_region ?_
    refine WL_val (dd := some 33) rfl rfl rfl (r_loadW rfl tb_ag64 rfl hm0_0) ?_
    refine WL_val (dd := some 34) rfl rfl rfl (r_move (v := x_hP3_2) rfl) ?_
    refine WL_call (dd := some 35) rfl rfl rfl (r_call2 tb_c73 (v0 := .agg #[_, _, _]) rfl (v1 := x_hP3_2) rfl) (C_thin_Thin S _ _ _ (thinR S l) _ (Below.slT hB hon) (Below.slT hB hmay) ho_hP3_2.sl (by omega) (thin_b hlr) (by omega)) (fun v4_2 W38 hE39 hP4_2 => ?_)
    have hlt40 := OwT.lt2 ho_hP3_2
    have hsz41 := (Below.size hB)
    replace hB := below_ext hB hE39 (Nat.le_refl _)
    replace hm0_0 := hE39.at hm0_0
    replace ho_hP3_2 := hE39.ow ho_hP3_2
    clear hE39
    obtain ⟨x_hP4_2, er_hP4_2, l_hP4_2, rfl, ho_hP4_2, hc_hP4_2⟩ := own_res hP4_2
    replace ho_hP4_2 := OwT.mono ho_hP4_2 hsz41
    clear hsz41
    refine WL_val (dd := some 32) rfl rfl rfl (r_move (v := .tuple #[x_hP4_2, .int .i64 _]) rfl) ?_
    refine WL_val (dd := some 36) rfl rfl rfl (r_ext2_0 (h := rfl)) ?_
    refine WL_val (dd := some 37) rfl rfl rfl (r_ext2_1 (h := rfl)) ?_
    refine WL_val (dd := some 7) rfl rfl rfl (r_assign (v := x_hP4_2) rfl) ?_
    refine WL_val (dd := some 8) rfl rfl rfl (r_assign (v := .int .i64 _) rfl) ?_
    refine WL_nil ?_
    refine hK37 _ _ ?_
    clear hK37 K36
    refine WC_seq (fun K42 hK43 => ?_)
    obtain ⟨q2, q3⟩ := hc_hP4_2.elim (fun h => h.2) (fun h => absurd (thin_cov hcv) (by rw [h.1]; decide))
    rw [thin_again hcv] at q3
    subst q2 q3
    refine WC_region ?_
    refine WL_val (dd := some 9) rfl rfl rfl (r_assign (v := .int .i64 0) rfl) ?_
    refine WL_nil ?_
    refine hK43 _ _ ?_
    clear hK43 K42
    refine WC_seq (fun K44 hK45 => ?_)
    refine WC_seq (fun K46 hK47 => ?_)
    refine WC_region ?_
    refine WL_val (dd := some 10) rfl rfl rfl (r_assign (v := .int .i64 0) rfl) ?_
    refine WL_nil ?_
    refine hK47 _ _ ?_
    clear hK47 K46
    refine WC_block ?_
    refine WC_loop (σ := (Nat) × (Nat)) [9, 10, 38, 39, 40, 41, 42, 43, 44, 45, 46, 47, 48, 49, 50, 51, 52, 53, 54, 55, 56, 57, 58, 59, 60, 61, 62, 63, 64, 65, 66, 67, 68, 69, 70, 71, 72, 73] (fun (i, a) => [(10, .int .i64 (i : Int)), (9, .int .i64 (a : Int))]) (fun sg W => match sg with | (i, a) => (Below w.heap.size w W) ∧ (At W b0_0 _ 64) ∧ (OwT encR 3 79 W w.heap.size x_hP3_2 _) ∧ (OwT encR 3 79 W w.heap.size x_hP4_2 _) ∧ (i ≤ l.length) ∧ (a ≤ (thinR S l).length) ∧ ((thA S l i).length ≤ a) ∧ (True)) (fun (i, a) => l.length - i) ((0, 0)) ⟨rfl, rfl, trivial⟩ ⟨hB, hm0_0, ho_hP3_2, ho_hP4_2, (Nat.zero_le _), (Nat.zero_le _), (Nat.zero_le _), trivial⟩ ?_
    clear hB hm0_0 ho_hP3_2 ho_hP4_2
    rintro ⟨i, a⟩ g49 W48 ⟨hB, hm0_0, ho_hP3_2, ho_hP4_2, hi, ha, hq, _⟩ J50 hJ51
    refine WC_seq (fun K52 hK53 => ?_)
    refine WC_seq (fun K54 hK55 => ?_)
    refine WC_region ?_
    refine WL_val (dd := some 38) rfl rfl rfl (r_move (v := .int .i64 _) rfl) ?_
    refine WL_val (dd := some 39) rfl rfl rfl (r_move (v := xa) rfl) ?_
    refine WL_val (dd := some 40) rfl rfl rfl (r_lenS (v := xa) rfl (Below.slT hB hl) tb_el65) ?_
    refine WL_val (dd := some 41) rfl rfl rfl (r_lss rfl rfl) ?_
    refine WL_split (dd := some 42) rfl rfl rfl (r_move (v := .bool _) rfl) (fun hs7_4 => ?_) (fun hs7_4 => ?_)
    ·
     try with_reducible replace hs7_4 := of_decide_eq_true hs7_4
     refine WL_val (dd := some 43) rfl rfl rfl (r_move (v := .int .i64 _) rfl) ?_
     refine WL_val (dd := some 44) rfl rfl rfl (r_move (v := x_hP3_2) rfl) ?_
     refine WL_val (dd := some 45) rfl rfl rfl (r_lenS (v := x_hP3_2) rfl ho_hP3_2.sl tb_el65) ?_
     refine WL_val (dd := some 46) rfl rfl rfl (r_lss rfl rfl) ?_
     refine WL_val (dd := some 47) rfl rfl rfl (r_pick_t rfl (v := .bool _) rfl) ?_
     refine WL_nil ?_
     refine hK55 _ _ ?_
     clear hK55 K54
     refine WC_cond (b := _) rfl (fun hc1 => ?_) (fun hc1 => ?_)
     ·
      try with_reducible replace hc1 := of_decide_eq_true hc1
      refine WC_skip ?_
      refine hK53 _ _ ?_
      clear hK53 K52
      refine WC_seq (fun K56 hK57 => ?_)
      refine WC_block ?_
      refine WC_seq (fun K58 hK59 => ?_)
      have hbx := hlr.get (k := i) (by omega)
      have hby := (thin_b (S := S) hlr).get (k := a) (by omega)
      have hst := thA_step S l i
      refine WC_draw Ext tb_mix (fun W60 hE61 => ?_)
      replace hB := below_ext hB hE61 (Nat.le_refl _)
      replace hm0_0 := hE61.at hm0_0
      replace ho_hP3_2 := hE61.ow ho_hP3_2
      replace ho_hP4_2 := hE61.ow ho_hP4_2
      have hS := Ext.refl W60
      refine WT_take (dd := some 50) 0 rfl (by kernel_rfl) (by kernel_rfl) (by kernel_rfl) rfl rfl rfl (fun _wq _hq => r_move (v := xa) rfl) hS ?_
      refine WT_take (dd := some 51) 1 rfl (by kernel_rfl) (by kernel_rfl) (by kernel_rfl) rfl rfl rfl (fun _wq _hq => r_move (v := .int .i64 _) rfl) hS ?_
      refine WT_take (dd := some 52) 2 rfl (by kernel_rfl) (by kernel_rfl) (by kernel_rfl) rfl rfl rfl (fun _wq hq => r_idxS (v := xa) rfl (hq.slT (Below.slT hB hl)) rfl tb_el65 (by omega) (by first | omega | (simp only [flagsTo_len, litsTo_len, firstF_len, ptF_len, setF_len]; omega))) hS ?_
      refine WT_take (dd := some 53) 3 rfl (by kernel_rfl) (by kernel_rfl) (by kernel_rfl) rfl rfl rfl (fun _wq _hq => r_fieldAddr (b := _) (o := _) rfl tb_fo79_0) hS ?_
      refine WT_take (dd := some 54) 4 rfl (by kernel_rfl) (by kernel_rfl) (by kernel_rfl) rfl rfl rfl (fun _wq hq => r_load2 rfl tb_ag34 (SlT.cell (hq.slT (Below.slT hB hl)) encR_len ⟨⟨0, 0⟩, 0⟩ (by omega) (by first | omega | (simp only [flagsTo_len, litsTo_len, firstF_len, ptF_len, setF_len]; omega)) 0 rfl) (SlT.cell (hq.slT (Below.slT hB hl)) encR_len ⟨⟨0, 0⟩, 0⟩ (by omega) (by first | omega | (simp only [flagsTo_len, litsTo_len, firstF_len, ptF_len, setF_len]; omega)) 1 rfl)) hS ?_
      refine WT_take (dd := some 55) 5 rfl (by kernel_rfl) (by kernel_rfl) (by kernel_rfl) rfl rfl rfl (fun _wq _hq => r_move (v := x_hP3_2) rfl) hS ?_
      refine WT_take (dd := some 56) 6 rfl (by kernel_rfl) (by kernel_rfl) (by kernel_rfl) rfl rfl rfl (fun _wq _hq => r_move (v := .int .i64 _) rfl) hS ?_
      refine WT_take (dd := some 57) 7 rfl (by kernel_rfl) (by kernel_rfl) (by kernel_rfl) rfl rfl rfl (fun _wq hq => r_idxS (v := x_hP3_2) rfl ((hq.ow ho_hP3_2)).sl rfl tb_el65 (by omega) (by first | omega | (simp only [flagsTo_len, litsTo_len, firstF_len, ptF_len, setF_len]; omega))) hS ?_
      refine WT_take (dd := some 58) 8 rfl (by kernel_rfl) (by kernel_rfl) (by kernel_rfl) rfl rfl rfl (fun _wq _hq => r_fieldAddr (b := _) (o := _) rfl tb_fo79_0) hS ?_
      refine WT_take (dd := some 59) 9 rfl (by kernel_rfl) (by kernel_rfl) (by kernel_rfl) rfl rfl rfl (fun _wq hq => r_load2 rfl tb_ag34 (SlT.cell ((hq.ow ho_hP3_2)).sl encR_len ⟨⟨0, 0⟩, 0⟩ (by omega) (by first | omega | (simp only [flagsTo_len, litsTo_len, firstF_len, ptF_len, setF_len]; omega)) 0 rfl) (SlT.cell ((hq.ow ho_hP3_2)).sl encR_len ⟨⟨0, 0⟩, 0⟩ (by omega) (by first | omega | (simp only [flagsTo_len, litsTo_len, firstF_len, ptF_len, setF_len]; omega)) 1 rfl)) hS ?_
      refine WT_take (dd := some 60) 10 rfl (by kernel_rfl) (by kernel_rfl) (by kernel_rfl) rfl rfl rfl (fun _wq _hq => tb_eq34 rfl rfl) hS ?_
      refine WT_split (dd := some 61) 11 rfl (by kernel_rfl) (by kernel_rfl) (by kernel_rfl) rfl rfl rfl (fun wq hq => r_move (v := .bool _) rfl) hS (fun hs9_11 => ?_) (fun hs9_11 => ?_)
      ·
       try with_reducible replace hs9_11 := of_decide_eq_true hs9_11
       refine WT_take (dd := some 62) 12 rfl (by kernel_rfl) (by kernel_rfl) (by kernel_rfl) rfl rfl rfl (fun _wq _hq => r_move (v := xa) rfl) hS ?_
       refine WT_take (dd := some 63) 13 rfl (by kernel_rfl) (by kernel_rfl) (by kernel_rfl) rfl rfl rfl (fun _wq _hq => r_move (v := .int .i64 _) rfl) hS ?_
       refine WT_take (dd := some 64) 14 rfl (by kernel_rfl) (by kernel_rfl) (by kernel_rfl) rfl rfl rfl (fun _wq hq => r_idxS (v := xa) rfl (hq.slT (Below.slT hB hl)) rfl tb_el65 (by omega) (by first | omega | (simp only [flagsTo_len, litsTo_len, firstF_len, ptF_len, setF_len]; omega))) hS ?_
       refine WT_take (dd := some 65) 15 rfl (by kernel_rfl) (by kernel_rfl) (by kernel_rfl) rfl rfl rfl (fun _wq hq => r_load3 rfl tb_ag79 (SlT.cell (hq.slT (Below.slT hB hl)) encR_len ⟨⟨0, 0⟩, 0⟩ (by omega) (by first | omega | (simp only [flagsTo_len, litsTo_len, firstF_len, ptF_len, setF_len]; omega)) 0 rfl) (SlT.cell (hq.slT (Below.slT hB hl)) encR_len ⟨⟨0, 0⟩, 0⟩ (by omega) (by first | omega | (simp only [flagsTo_len, litsTo_len, firstF_len, ptF_len, setF_len]; omega)) 1 rfl) (SlT.cell (hq.slT (Below.slT hB hl)) encR_len ⟨⟨0, 0⟩, 0⟩ (by omega) (by first | omega | (simp only [flagsTo_len, litsTo_len, firstF_len, ptF_len, setF_len]; omega)) 2 rfl)) hS ?_
       refine WT_take (dd := some 66) 16 rfl (by kernel_rfl) (by kernel_rfl) (by kernel_rfl) rfl rfl rfl (fun _wq _hq => r_move (v := x_hP3_2) rfl) hS ?_
       refine WT_take (dd := some 67) 17 rfl (by kernel_rfl) (by kernel_rfl) (by kernel_rfl) rfl rfl rfl (fun _wq _hq => r_move (v := .int .i64 _) rfl) hS ?_
       refine WT_take (dd := some 68) 18 rfl (by kernel_rfl) (by kernel_rfl) (by kernel_rfl) rfl rfl rfl (fun _wq hq => r_idxS (v := x_hP3_2) rfl ((hq.ow ho_hP3_2)).sl rfl tb_el65 (by omega) (by first | omega | (simp only [flagsTo_len, litsTo_len, firstF_len, ptF_len, setF_len]; omega))) hS ?_
       refine WT_take (dd := some 69) 19 rfl (by kernel_rfl) (by kernel_rfl) (by kernel_rfl) rfl rfl rfl (fun _wq hq => r_load3 rfl tb_ag79 (SlT.cell ((hq.ow ho_hP3_2)).sl encR_len ⟨⟨0, 0⟩, 0⟩ (by omega) (by first | omega | (simp only [flagsTo_len, litsTo_len, firstF_len, ptF_len, setF_len]; omega)) 0 rfl) (SlT.cell ((hq.ow ho_hP3_2)).sl encR_len ⟨⟨0, 0⟩, 0⟩ (by omega) (by first | omega | (simp only [flagsTo_len, litsTo_len, firstF_len, ptF_len, setF_len]; omega)) 1 rfl) (SlT.cell ((hq.ow ho_hP3_2)).sl encR_len ⟨⟨0, 0⟩, 0⟩ (by omega) (by first | omega | (simp only [flagsTo_len, litsTo_len, firstF_len, ptF_len, setF_len]; omega)) 2 rfl)) hS ?_
       refine WT_one (dd := some 70) 20 (by kernel_rfl) rfl rfl rfl rfl (Yd.call (r_call2 tb_c64 (v0 := .agg #[_, _, _]) rfl (v1 := .agg #[_, _, _]) rfl) (C_drawkniferef10_Holds (l.getD i ⟨⟨0, 0⟩, 0⟩) ((thinR S l).getD a ⟨⟨0, 0⟩, 0⟩) _ hbx hby) (fun v9_20 W62 hE63 hP9_20 => ⟨.inl (hS.trans hE63), ?_⟩))
       have hsz64 := (Below.size hB)
       have sv65_hB := hB
       have sv65_hm0_0 := hm0_0
       have sv65_ho_hP3_2 := ho_hP3_2
       have sv65_ho_hP4_2 := ho_hP4_2
       replace hB := below_ext hB hE63 (Nat.le_refl _)
       replace hm0_0 := hE63.at hm0_0
       replace ho_hP3_2 := hE63.ow ho_hP3_2
       replace ho_hP4_2 := hE63.ow ho_hP4_2
       replace hS := hS.trans hE63
       clear hE63
       clear hsz64
       obtain rfl := hP9_20
       refine WT_take (dd := some 71) 21 rfl (by kernel_rfl) (by kernel_rfl) (by kernel_rfl) rfl rfl rfl (fun _wq _hq => r_pick_t rfl (v := .bool _) rfl) hS ?_
       refine WT_done (by kernel_rfl) ?_
       try clear sv65_hB sv65_hm0_0 sv65_ho_hP3_2 sv65_ho_hP4_2
       refine hK59 _ _ ?_
       clear hK59 K58
       refine WC_cond (b := _) rfl (fun hc2 => ?_) (fun hc2 => ?_)
       ·
        try with_reducible replace hc2 := of_decide_eq_true hc2
        refine WC_region ?_
        refine WL_val (dd := some 72) rfl rfl rfl (r_move (v := .int .i64 _) rfl) ?_
        refine WL_val (dd := some 73) rfl rfl rfl (r_addI rfl rfl (by omega) (by omega)) ?_
        refine WL_val (dd := some 9) rfl rfl rfl (r_assign (v := .int .i64 _) rfl) ?_
        refine WL_nil ?_
        refine hK57 _ _ ?_
        clear hK57 K56
        refine WC_region ?_
        refine WL_val (dd := some 48) rfl rfl rfl (r_move (v := .int .i64 _) rfl) ?_
        refine WL_val (dd := some 49) rfl rfl rfl (r_addI rfl rfl (by omega) (by omega)) ?_
        refine WL_val (dd := some 10) rfl rfl rfl (r_assign (v := .int .i64 _) rfl) ?_
        refine WL_nil ?_
        refine hJ51 _ _ ((i + 1, a + 1)) ?_ ?_ ?_ ?_
        · repeat (first | exact agree.mask _ _ _ | refine agree.updo ?_ rfl _ | refine agree.updL ?_ _ rfl | refine agree.maskS rfl ?_)
        · exact ⟨rfl, rfl, trivial⟩
        · exact ⟨hB, hm0_0, ho_hP3_2, ho_hP4_2, (by omega), (by omega), (by omega), trivial⟩
        · show l.length - (i + 1) < l.length - i; omega
       ·
        try with_reducible replace hc2 := of_decide_eq_false hc2
        refine WC_skip ?_
        refine hK57 _ _ ?_
        clear hK57 K56
        refine WC_region ?_
        refine WL_val (dd := some 48) rfl rfl rfl (r_move (v := .int .i64 _) rfl) ?_
        refine WL_val (dd := some 49) rfl rfl rfl (r_addI rfl rfl (by omega) (by omega)) ?_
        refine WL_val (dd := some 10) rfl rfl rfl (r_assign (v := .int .i64 _) rfl) ?_
        refine WL_nil ?_
        refine hJ51 _ _ ((i + 1, a)) ?_ ?_ ?_ ?_
        · repeat (first | exact agree.mask _ _ _ | refine agree.updo ?_ rfl _ | refine agree.updL ?_ _ rfl | refine agree.maskS rfl ?_)
        · exact ⟨rfl, rfl, trivial⟩
        · exact ⟨hB, hm0_0, ho_hP3_2, ho_hP4_2, (by omega), (by omega), (at_step (by omega) hq (ho_ne hc2)), trivial⟩
        · show l.length - (i + 1) < l.length - i; omega
      ·
       try with_reducible replace hs9_11 := of_decide_eq_false hs9_11
       refine WT_pass (dd := some 62) 12 rfl (by kernel_rfl) (by kernel_rfl) (by kernel_rfl) rfl rfl rfl hS ?_
       refine WT_pass (dd := some 63) 13 rfl (by kernel_rfl) (by kernel_rfl) (by kernel_rfl) rfl rfl rfl hS ?_
       refine WT_pass (dd := some 64) 14 rfl (by kernel_rfl) (by kernel_rfl) (by kernel_rfl) rfl rfl rfl hS ?_
       refine WT_pass (dd := some 65) 15 rfl (by kernel_rfl) (by kernel_rfl) (by kernel_rfl) rfl rfl rfl hS ?_
       refine WT_pass (dd := some 66) 16 rfl (by kernel_rfl) (by kernel_rfl) (by kernel_rfl) rfl rfl rfl hS ?_
       refine WT_pass (dd := some 67) 17 rfl (by kernel_rfl) (by kernel_rfl) (by kernel_rfl) rfl rfl rfl hS ?_
       refine WT_pass (dd := some 68) 18 rfl (by kernel_rfl) (by kernel_rfl) (by kernel_rfl) rfl rfl rfl hS ?_
       refine WT_pass (dd := some 69) 19 rfl (by kernel_rfl) (by kernel_rfl) (by kernel_rfl) rfl rfl rfl hS ?_
       refine WT_pass (dd := some 70) 20 rfl (by kernel_rfl) (by kernel_rfl) (by kernel_rfl) rfl rfl rfl hS ?_
       refine WT_take (dd := some 71) 21 rfl (by kernel_rfl) (by kernel_rfl) (by kernel_rfl) rfl rfl rfl (fun _wq _hq => r_pick_f rfl (v := .bool false) rfl) hS ?_
       refine WT_done (by kernel_rfl) ?_
       refine hK59 _ _ ?_
       clear hK59 K58
       refine WC_cond_false rfl ?_
       refine WC_skip ?_
       refine hK57 _ _ ?_
       clear hK57 K56
       refine WC_region ?_
       refine WL_val (dd := some 48) rfl rfl rfl (r_move (v := .int .i64 _) rfl) ?_
       refine WL_val (dd := some 49) rfl rfl rfl (r_addI rfl rfl (by omega) (by omega)) ?_
       refine WL_val (dd := some 10) rfl rfl rfl (r_assign (v := .int .i64 _) rfl) ?_
       refine WL_nil ?_
       refine hJ51 _ _ ((i + 1, a)) ?_ ?_ ?_ ?_
       · repeat (first | exact agree.mask _ _ _ | refine agree.updo ?_ rfl _ | refine agree.updL ?_ _ rfl | refine agree.maskS rfl ?_)
       · exact ⟨rfl, rfl, trivial⟩
       · exact ⟨hB, hm0_0, ho_hP3_2, ho_hP4_2, (by omega), (by omega), (at_step (by omega) hq (cb_ne hs9_11)), trivial⟩
       · show l.length - (i + 1) < l.length - i; omega
     ·
      try with_reducible replace hc1 := of_decide_eq_false hc1
      refine WC_exit ?_
      refine hK45 _ _ ?_
      clear hK53 K52
      clear hJ51 J50
      clear hK45 K44
      refine WC_seq (fun K66 hK67 => ?_)
      refine WC_region ?_
      refine WL_val (dd := some 74) rfl rfl rfl (r_move (v := .int .i64 _) rfl) ?_
      refine WL_val (dd := some 75) rfl rfl rfl (r_eql rfl rfl) ?_
      refine WL_split (dd := some 76) rfl rfl rfl (r_move (v := .bool _) rfl) (fun hs11_2 => ?_) (fun hs11_2 => ?_)
      ·
       try with_reducible replace hs11_2 := of_decide_eq_true hs11_2
       refine WL_val (dd := some 77) rfl rfl rfl (r_move (v := .int .i64 _) rfl) ?_
       refine WL_val (dd := some 78) rfl rfl rfl (r_eql rfl rfl) ?_
       refine WL_val (dd := some 79) rfl rfl rfl (r_pick_t rfl (v := .bool _) rfl) ?_
       refine WL_split (dd := some 80) rfl rfl rfl (r_move (v := .bool _) rfl) (fun hs11_6 => ?_) (fun hs11_6 => ?_)
       ·
        try with_reducible replace hs11_6 := of_decide_eq_true hs11_6
        refine WL_val (dd := some 81) rfl rfl rfl (r_move (v := .int .i64 _) rfl) ?_
        refine WL_val (dd := some 82) rfl rfl rfl (r_move (v := x_hP3_2) rfl) ?_
        refine WL_val (dd := some 83) rfl rfl rfl (r_lenS (v := x_hP3_2) rfl ho_hP3_2.sl tb_el65) ?_
        refine WL_val (dd := some 84) rfl rfl rfl (r_eql rfl rfl) ?_
        refine WL_val (dd := some 85) rfl rfl rfl (r_pick_t rfl (v := .bool _) rfl) ?_
        refine WL_split (dd := some 86) rfl rfl rfl (r_move (v := .bool _) rfl) (fun hs11_12 => ?_) (fun hs11_12 => ?_)
        ·
         try with_reducible replace hs11_12 := of_decide_eq_true hs11_12
         refine WL_val (dd := some 87) rfl rfl rfl (r_loadW rfl tb_ag64 rfl hm0_0) ?_
         refine WL_val (dd := some 88) rfl rfl rfl (r_move (v := x_hP3_2) rfl) ?_
         refine WL_call (dd := some 89) rfl rfl rfl (r_call2 tb_c76 (v0 := .agg #[_, _, _]) rfl (v1 := x_hP3_2) rfl) (C_drawkniferef16_Needed S _ _ _ (thinR S l) _ (Below.slT hB hon) (Below.slT hB hmay) ho_hP3_2.sl (by omega) (thin_b hlr) (covB_iff.1 hcv).1) (fun v11_15 W68 hE69 hP11_15 => ?_)
         have hsz70 := (Below.size hB)
         replace hB := below_ext hB hE69 (Nat.le_refl _)
         replace hm0_0 := hE69.at hm0_0
         replace ho_hP3_2 := hE69.ow ho_hP3_2
         replace ho_hP4_2 := hE69.ow ho_hP4_2
         clear hE69
         clear hsz70
         obtain rfl := hP11_15
         refine WL_val (dd := some 90) rfl rfl rfl (r_pick_t rfl (v := .bool _) rfl) ?_
         refine WL_split (dd := some 91) rfl rfl rfl (r_move (v := .bool _) rfl) (fun hs11_17 => ?_) (fun hs11_17 => ?_)
         ·
          try with_reducible replace hs11_17 := of_decide_eq_true hs11_17
          refine WL_val (dd := some 92) rfl rfl rfl (r_loadW rfl tb_ag64 rfl hm0_0) ?_
          refine WL_val (dd := some 93) rfl rfl rfl (r_move (v := x_hP3_2) rfl) ?_
          refine WL_call (dd := some 94) rfl rfl rfl (r_call2 tb_c74 (v0 := .agg #[_, _, _]) rfl (v1 := x_hP3_2) rfl) (C_thin_Needed S _ _ _ (thinR S l) _ (Below.slT hB hon) (Below.slT hB hmay) ho_hP3_2.sl (by omega) (thin_b hlr) (by omega)) (fun v11_20 W71 hE72 hP11_20 => ?_)
          have hsz73 := (Below.size hB)
          replace hB := below_ext hB hE72 (Nat.le_refl _)
          replace hm0_0 := hE72.at hm0_0
          replace ho_hP3_2 := hE72.ow ho_hP3_2
          replace ho_hP4_2 := hE72.ow ho_hP4_2
          clear hE72
          clear hsz73
          obtain rfl := hP11_20
          refine WL_val (dd := some 95) rfl rfl rfl (r_pick_t rfl (v := .bool _) rfl) ?_
          refine WL_split (dd := some 96) rfl rfl rfl (r_move (v := .bool _) rfl) (fun hs11_22 => ?_) (fun hs11_22 => ?_)
          ·
           try with_reducible replace hs11_22 := of_decide_eq_true hs11_22
           refine WL_val (dd := some 97) rfl rfl rfl (r_move (v := x_hP3_2) rfl) ?_
           refine WL_val (dd := some 98) rfl rfl rfl (r_move (v := x_hP4_2) rfl) ?_
           refine WL_call (dd := some 99) rfl rfl rfl (r_call2 tb_c60 (v0 := x_hP3_2) rfl (v1 := x_hP4_2) rfl) (C_drawkniferef10_Same _ _ _ _ _ ho_hP3_2.sl ho_hP4_2.sl (by omega)) (fun v11_25 W74 hE75 hP11_25 => ?_)
           have hsz76 := (Below.size hB)
           replace hB := below_ext hB hE75 (Nat.le_refl _)
           replace hm0_0 := hE75.at hm0_0
           replace ho_hP3_2 := hE75.ow ho_hP3_2
           replace ho_hP4_2 := hE75.ow ho_hP4_2
           clear hE75
           clear hsz76
           obtain rfl := hP11_25
           refine WL_val (dd := some 100) rfl rfl rfl (r_pick_t rfl (v := .bool _) rfl) ?_
           refine WL_split (dd := some 101) rfl rfl rfl (r_move (v := .bool _) rfl) (fun hs11_27 => ?_) (fun hs11_27 => ?_)
           ·
            try with_reducible replace hs11_27 := of_decide_eq_true hs11_27
            refine WL_call (dd := some 102) rfl rfl rfl (r_call0 tb_c72) (C_drawknifelaw16_knows _) (fun v11_28 W77 hE78 hP11_28 => ?_)
            have hsz79 := (Below.size hB)
            replace hB := below_ext hB hE78 (Nat.le_refl _)
            replace hm0_0 := hE78.at hm0_0
            replace ho_hP3_2 := hE78.ow ho_hP3_2
            replace ho_hP4_2 := hE78.ow ho_hP4_2
            clear hE78
            clear hsz79
            obtain rfl := hP11_28
            refine WL_val (dd := some 103) rfl rfl rfl (r_pick_t rfl (v := .bool _) rfl) ?_
            refine WL_val (dd := some 4) rfl rfl rfl (r_assign (v := .bool _) rfl) ?_
            refine WL_nil ?_
            refine hK67 _ _ ?_
            clear hK67 K66
            refine WC_ret ?_
            repeat (first | refine thenQ_ret ?_ | refine blockQ_ret ?_)
            refine ret_t (v := .bool _) rfl ?_
            refine ⟨hB, ?_⟩
            rfl
           ·
            try with_reducible replace hs11_27 := of_decide_eq_false hs11_27
            first | exact absurd rfl (of_decide_eq_false hs11_27) | exact absurd rfl hs11_27
          ·
           try with_reducible replace hs11_22 := of_decide_eq_false hs11_22
           exact absurd (thin_needed hcv) (by rw [hs11_22]; decide)
         ·
          try with_reducible replace hs11_17 := of_decide_eq_false hs11_17
          exact absurd (thin_needed hcv) (by rw [hs11_17]; decide)
        ·
         try with_reducible replace hs11_12 := of_decide_eq_false hs11_12
         have hth : (thinR S l).length = (thA S l l.length).length := rfl
         first | omega | (have hil : i = l.length := (by omega); subst hil; omega)
       ·
        try with_reducible replace hs11_6 := of_decide_eq_false hs11_6
        exact absurd rfl hs11_6
      ·
       try with_reducible replace hs11_2 := of_decide_eq_false hs11_2
       exact absurd rfl hs11_2
    ·
     try with_reducible replace hs7_4 := of_decide_eq_false hs7_4
     refine WL_skip (dd := some 43) rfl rfl rfl ?_
     refine WL_skip (dd := some 44) rfl rfl rfl ?_
     refine WL_skip (dd := some 45) rfl rfl rfl ?_
     refine WL_skip (dd := some 46) rfl rfl rfl ?_
     refine WL_val (dd := some 47) rfl rfl rfl (r_pick_f rfl (v := .bool false) rfl) ?_
     refine WL_nil ?_
     refine hK55 _ _ ?_
     clear hK55 K54
     refine WC_cond_false rfl ?_
     refine WC_exit ?_
     refine hK45 _ _ ?_
     clear hK53 K52
     clear hJ51 J50
     clear hK45 K44
     refine WC_seq (fun K80 hK81 => ?_)
     refine WC_region ?_
     refine WL_val (dd := some 74) rfl rfl rfl (r_move (v := .int .i64 _) rfl) ?_
     refine WL_val (dd := some 75) rfl rfl rfl (r_eql rfl rfl) ?_
     refine WL_split (dd := some 76) rfl rfl rfl (r_move (v := .bool _) rfl) (fun hs11_2 => ?_) (fun hs11_2 => ?_)
     ·
      try with_reducible replace hs11_2 := of_decide_eq_true hs11_2
      refine WL_val (dd := some 77) rfl rfl rfl (r_move (v := .int .i64 _) rfl) ?_
      refine WL_val (dd := some 78) rfl rfl rfl (r_eql rfl rfl) ?_
      refine WL_val (dd := some 79) rfl rfl rfl (r_pick_t rfl (v := .bool _) rfl) ?_
      refine WL_split (dd := some 80) rfl rfl rfl (r_move (v := .bool _) rfl) (fun hs11_6 => ?_) (fun hs11_6 => ?_)
      ·
       try with_reducible replace hs11_6 := of_decide_eq_true hs11_6
       refine WL_val (dd := some 81) rfl rfl rfl (r_move (v := .int .i64 _) rfl) ?_
       refine WL_val (dd := some 82) rfl rfl rfl (r_move (v := x_hP3_2) rfl) ?_
       refine WL_val (dd := some 83) rfl rfl rfl (r_lenS (v := x_hP3_2) rfl ho_hP3_2.sl tb_el65) ?_
       refine WL_val (dd := some 84) rfl rfl rfl (r_eql rfl rfl) ?_
       refine WL_val (dd := some 85) rfl rfl rfl (r_pick_t rfl (v := .bool _) rfl) ?_
       refine WL_split (dd := some 86) rfl rfl rfl (r_move (v := .bool _) rfl) (fun hs11_12 => ?_) (fun hs11_12 => ?_)
       ·
        try with_reducible replace hs11_12 := of_decide_eq_true hs11_12
        refine WL_val (dd := some 87) rfl rfl rfl (r_loadW rfl tb_ag64 rfl hm0_0) ?_
        refine WL_val (dd := some 88) rfl rfl rfl (r_move (v := x_hP3_2) rfl) ?_
        refine WL_call (dd := some 89) rfl rfl rfl (r_call2 tb_c76 (v0 := .agg #[_, _, _]) rfl (v1 := x_hP3_2) rfl) (C_drawkniferef16_Needed S _ _ _ (thinR S l) _ (Below.slT hB hon) (Below.slT hB hmay) ho_hP3_2.sl (by omega) (thin_b hlr) (covB_iff.1 hcv).1) (fun v11_15 W82 hE83 hP11_15 => ?_)
        have hsz84 := (Below.size hB)
        replace hB := below_ext hB hE83 (Nat.le_refl _)
        replace hm0_0 := hE83.at hm0_0
        replace ho_hP3_2 := hE83.ow ho_hP3_2
        replace ho_hP4_2 := hE83.ow ho_hP4_2
        clear hE83
        clear hsz84
        obtain rfl := hP11_15
        refine WL_val (dd := some 90) rfl rfl rfl (r_pick_t rfl (v := .bool _) rfl) ?_
        refine WL_split (dd := some 91) rfl rfl rfl (r_move (v := .bool _) rfl) (fun hs11_17 => ?_) (fun hs11_17 => ?_)
        ·
         try with_reducible replace hs11_17 := of_decide_eq_true hs11_17
         refine WL_val (dd := some 92) rfl rfl rfl (r_loadW rfl tb_ag64 rfl hm0_0) ?_
         refine WL_val (dd := some 93) rfl rfl rfl (r_move (v := x_hP3_2) rfl) ?_
         refine WL_call (dd := some 94) rfl rfl rfl (r_call2 tb_c74 (v0 := .agg #[_, _, _]) rfl (v1 := x_hP3_2) rfl) (C_thin_Needed S _ _ _ (thinR S l) _ (Below.slT hB hon) (Below.slT hB hmay) ho_hP3_2.sl (by omega) (thin_b hlr) (by omega)) (fun v11_20 W85 hE86 hP11_20 => ?_)
         have hsz87 := (Below.size hB)
         replace hB := below_ext hB hE86 (Nat.le_refl _)
         replace hm0_0 := hE86.at hm0_0
         replace ho_hP3_2 := hE86.ow ho_hP3_2
         replace ho_hP4_2 := hE86.ow ho_hP4_2
         clear hE86
         clear hsz87
         obtain rfl := hP11_20
         refine WL_val (dd := some 95) rfl rfl rfl (r_pick_t rfl (v := .bool _) rfl) ?_
         refine WL_split (dd := some 96) rfl rfl rfl (r_move (v := .bool _) rfl) (fun hs11_22 => ?_) (fun hs11_22 => ?_)
         ·
          try with_reducible replace hs11_22 := of_decide_eq_true hs11_22
          refine WL_val (dd := some 97) rfl rfl rfl (r_move (v := x_hP3_2) rfl) ?_
          refine WL_val (dd := some 98) rfl rfl rfl (r_move (v := x_hP4_2) rfl) ?_
          refine WL_call (dd := some 99) rfl rfl rfl (r_call2 tb_c60 (v0 := x_hP3_2) rfl (v1 := x_hP4_2) rfl) (C_drawkniferef10_Same _ _ _ _ _ ho_hP3_2.sl ho_hP4_2.sl (by omega)) (fun v11_25 W88 hE89 hP11_25 => ?_)
          have hsz90 := (Below.size hB)
          replace hB := below_ext hB hE89 (Nat.le_refl _)
          replace hm0_0 := hE89.at hm0_0
          replace ho_hP3_2 := hE89.ow ho_hP3_2
          replace ho_hP4_2 := hE89.ow ho_hP4_2
          clear hE89
          clear hsz90
          obtain rfl := hP11_25
          refine WL_val (dd := some 100) rfl rfl rfl (r_pick_t rfl (v := .bool _) rfl) ?_
          refine WL_split (dd := some 101) rfl rfl rfl (r_move (v := .bool _) rfl) (fun hs11_27 => ?_) (fun hs11_27 => ?_)
          ·
           try with_reducible replace hs11_27 := of_decide_eq_true hs11_27
           refine WL_call (dd := some 102) rfl rfl rfl (r_call0 tb_c72) (C_drawknifelaw16_knows _) (fun v11_28 W91 hE92 hP11_28 => ?_)
           have hsz93 := (Below.size hB)
           replace hB := below_ext hB hE92 (Nat.le_refl _)
           replace hm0_0 := hE92.at hm0_0
           replace ho_hP3_2 := hE92.ow ho_hP3_2
           replace ho_hP4_2 := hE92.ow ho_hP4_2
           clear hE92
           clear hsz93
           obtain rfl := hP11_28
           refine WL_val (dd := some 103) rfl rfl rfl (r_pick_t rfl (v := .bool _) rfl) ?_
           refine WL_val (dd := some 4) rfl rfl rfl (r_assign (v := .bool _) rfl) ?_
           refine WL_nil ?_
           refine hK81 _ _ ?_
           clear hK81 K80
           refine WC_ret ?_
           repeat (first | refine thenQ_ret ?_ | refine blockQ_ret ?_)
           refine ret_t (v := .bool _) rfl ?_
           refine ⟨hB, ?_⟩
           rfl
          ·
           try with_reducible replace hs11_27 := of_decide_eq_false hs11_27
           first | exact absurd rfl (of_decide_eq_false hs11_27) | exact absurd rfl hs11_27
         ·
          try with_reducible replace hs11_22 := of_decide_eq_false hs11_22
          exact absurd (thin_needed hcv) (by rw [hs11_22]; decide)
        ·
         try with_reducible replace hs11_17 := of_decide_eq_false hs11_17
         exact absurd (thin_needed hcv) (by rw [hs11_17]; decide)
       ·
        try with_reducible replace hs11_12 := of_decide_eq_false hs11_12
        have hth : (thinR S l).length = (thA S l l.length).length := rfl
        first | omega | (have hil : i = l.length := (by omega); subst hil; omega)
      ·
       try with_reducible replace hs11_6 := of_decide_eq_false hs11_6
       exact absurd rfl hs11_6
     ·
      try with_reducible replace hs11_2 := of_decide_eq_false hs11_2
      exact absurd rfl hs11_2

set_option maxRecDepth 10000 in
theorem C_drawknifelaw16_ThinPrime (S : Sp) (onV mayV : Value) (w : World) (hon : SlT encS 4 w onV S.on) (hmay : SlT encS 4 w mayV S.may) :
    Fn Try.prog 22 #[.agg #[.int .i64 S.n, onV, mayV]] w fun v w' => v = .bool true := by
 refine Fn_intro (n := 79) Try.func22 rfl rfl (Nat.le_of_ble_eq_true rfl) ?_
 have hB : Below w.heap.size w w := Below.refl _ _
 refine WC_seq (fun K1 hK2 => ?_)
 refine WC_region ?_
 refine WL_step (dd := some 1) rfl rfl rfl (Y_box (c := #[_, _, _]) rfl rfl (fun b0_0 W3 hb4 hE5 hm0_0 => ?_))
 have lo_b0_0 : w.heap.size ≤ b0_0 := hb4 ▸ (Below.size hB)
 clear hb4
 replace hB := below_ext hB hE5 (Nat.le_refl _)
 clear hE5
 refine WL_val (dd := some 2) rfl rfl rfl (r_assign (v := .bool false) rfl) ?_
 refine WL_nil ?_
 refine hK2 _ _ ?_
 clear hK2 K1
 refine WC_seq (fun K6 hK7 => ?_)
 refine WC_seq (fun K8 hK9 => ?_)
 refine WC_region ?_
 refine WL_val (dd := some 9) rfl rfl rfl (r_loadW rfl tb_ag64 rfl hm0_0) ?_
 refine WL_call (dd := some 10) rfl rfl rfl (r_call1 tb_c57 (v0 := .agg #[_, _, _]) rfl) (C_drawknifelaw10_Great S _ _  _ (Below.slT hB hon) (Below.slT hB hmay) ) (fun v1_1 W10 hE11 hP1_1 => ?_)
 have hsz12 := (Below.size hB)
 replace hB := below_ext hB hE11 (Nat.le_refl _)
 replace hm0_0 := hE11.at hm0_0
 clear hE11
 clear hsz12
 obtain rfl := hP1_1
 refine WL_split (dd := some 11) rfl rfl rfl (r_move (v := .bool _) rfl) (fun hs1_2 => ?_) (fun hs1_2 => ?_)
 ·
  try with_reducible replace hs1_2 := of_decide_eq_true hs1_2
  refine WL_skip (dd := some 12) rfl rfl rfl ?_
  refine WL_skip (dd := some 13) rfl rfl rfl ?_
  refine WL_skip (dd := some 14) rfl rfl rfl ?_
  refine WL_val (dd := some 15) rfl rfl rfl (r_pick_t rfl (v := .bool true) rfl) ?_
  refine WL_val (dd := some 16) rfl rfl rfl (r_move (v := .bool true) rfl) ?_
  refine WL_skip (dd := some 17) rfl rfl rfl ?_
  refine WL_skip (dd := some 18) rfl rfl rfl ?_
  refine WL_skip (dd := some 19) rfl rfl rfl ?_
  refine WL_val (dd := some 20) rfl rfl rfl (r_pick_t rfl (v := .bool true) rfl) ?_
  refine WL_nil ?_
  refine hK9 _ _ ?_
  clear hK9 K8
  refine WC_cond_true rfl ?_
  refine WC_seq (fun K13 hK14 => ?_)
  refine WC_region ?_
  refine WL_call (dd := some 21) rfl rfl rfl (r_call0 tb_c72) (C_drawknifelaw16_knows _) (fun v2_0 W15 hE16 hP2_0 => ?_)
  have hsz17 := (Below.size hB)
  replace hB := below_ext hB hE16 (Nat.le_refl _)
  replace hm0_0 := hE16.at hm0_0
  clear hE16
  clear hsz17
  obtain rfl := hP2_0
  refine WL_val (dd := some 2) rfl rfl rfl (r_assign (v := .bool _) rfl) ?_
  refine WL_nil ?_
  refine hK14 _ _ ?_
  clear hK14 K13
  refine WC_ret ?_
  repeat (first | refine thenQ_ret ?_ | refine blockQ_ret ?_)
  try clear hK7 K6
  refine ret_t (v := .bool _) rfl ?_
  refine ⟨hB, ?_⟩
  rfl
 ·
  try with_reducible replace hs1_2 := of_decide_eq_false hs1_2
  refine WL_val (dd := some 12) rfl rfl rfl (r_loadW rfl tb_ag64 rfl hm0_0) ?_
  refine WL_call (dd := some 13) rfl rfl rfl (r_call1 tb_c56 (v0 := .agg #[_, _, _]) rfl) (C_drawkniferef04_Right S _ _  _ (Below.slT hB hon) (Below.slT hB hmay) ) (fun v1_4 W18 hE19 hP1_4 => ?_)
  have hsz20 := (Below.size hB)
  replace hB := below_ext hB hE19 (Nat.le_refl _)
  replace hm0_0 := hE19.at hm0_0
  clear hE19
  clear hsz20
  obtain rfl := hP1_4
  refine WL_val (dd := some 14) rfl rfl rfl (r_not rfl) ?_
  refine WL_val (dd := some 15) rfl rfl rfl (r_pick_f rfl (v := .bool _) rfl) ?_
  refine WL_split (dd := some 16) rfl rfl rfl (r_move (v := .bool _) rfl) (fun hs1_7 => ?_) (fun hs1_7 => ?_)
  ·
   try with_reducible replace hs1_7 := of_decide_eq_true hs1_7
   refine WL_skip (dd := some 17) rfl rfl rfl ?_
   refine WL_skip (dd := some 18) rfl rfl rfl ?_
   refine WL_skip (dd := some 19) rfl rfl rfl ?_
   refine WL_val (dd := some 20) rfl rfl rfl (r_pick_t rfl (v := .bool true) rfl) ?_
   refine WL_nil ?_
   refine hK9 _ _ ?_
   clear hK9 K8
   refine WC_cond_true rfl ?_
   refine WC_seq (fun K21 hK22 => ?_)
   refine WC_region ?_
   refine WL_call (dd := some 21) rfl rfl rfl (r_call0 tb_c72) (C_drawknifelaw16_knows _) (fun v2_0 W23 hE24 hP2_0 => ?_)
   have hsz25 := (Below.size hB)
   replace hB := below_ext hB hE24 (Nat.le_refl _)
   replace hm0_0 := hE24.at hm0_0
   clear hE24
   clear hsz25
   obtain rfl := hP2_0
   refine WL_val (dd := some 2) rfl rfl rfl (r_assign (v := .bool _) rfl) ?_
   refine WL_nil ?_
   refine hK22 _ _ ?_
   clear hK22 K21
   refine WC_ret ?_
   repeat (first | refine thenQ_ret ?_ | refine blockQ_ret ?_)
   try clear hK7 K6
   refine ret_t (v := .bool _) rfl ?_
   refine ⟨hB, ?_⟩
   rfl
  ·
   try with_reducible replace hs1_7 := of_decide_eq_false hs1_7
   refine WL_val (dd := some 17) rfl rfl rfl (r_fieldAddr (b := _) (o := _) rfl tb_fo64_0) ?_
   refine WL_val (dd := some 18) rfl rfl rfl (r_load1 (v := .int .i64 _) rfl tb_sc3 (At.cell hm0_0 rfl)) ?_
   refine WL_val (dd := some 19) rfl rfl rfl (r_gtr rfl rfl) ?_
   refine WL_val (dd := some 20) rfl rfl rfl (r_pick_f rfl (v := .bool _) rfl) ?_
   refine WL_nil ?_
   refine hK9 _ _ ?_
   clear hK9 K8
   refine WC_cond (b := _) rfl (fun hc0 => ?_) (fun hc0 => ?_)
   ·
    try with_reducible replace hc0 := of_decide_eq_true hc0
    refine WC_seq (fun K26 hK27 => ?_)
    refine WC_region ?_
    refine WL_call (dd := some 21) rfl rfl rfl (r_call0 tb_c72) (C_drawknifelaw16_knows _) (fun v2_0 W28 hE29 hP2_0 => ?_)
    have hsz30 := (Below.size hB)
    replace hB := below_ext hB hE29 (Nat.le_refl _)
    replace hm0_0 := hE29.at hm0_0
    clear hE29
    clear hsz30
    obtain rfl := hP2_0
    refine WL_val (dd := some 2) rfl rfl rfl (r_assign (v := .bool _) rfl) ?_
    refine WL_nil ?_
    refine hK27 _ _ ?_
    clear hK27 K26
    refine WC_ret ?_
    repeat (first | refine thenQ_ret ?_ | refine blockQ_ret ?_)
    try clear hK7 K6
    refine ret_t (v := .bool _) rfl ?_
    refine ⟨hB, ?_⟩
    rfl
   ·
    try with_reducible replace hc0 := of_decide_eq_false hc0
    refine WC_skip ?_
    refine hK7 _ _ ?_
    clear hK7 K6
    refine WC_seq (fun K31 hK32 => ?_)
    have hr : rightS S = true := not_f hs1_7
    have hg := great_no hs1_2
    have hpl := plain_len hr
    have htl := thin_len S (plainL S)
    refine WC_region ?_
    refine WL_val (dd := some 23) rfl rfl rfl (r_loadW rfl tb_ag64 rfl hm0_0) ?_
    refine WL_call (dd := some 24) rfl rfl rfl (r_call1 tb_c77 (v0 := .agg #[_, _, _]) rfl) (C_thin_Plain S _ _  _ (Below.slT hB hon) (Below.slT hB hmay) ) (fun v3_1 W33 hE34 hP3_1 => ?_)
    have hsz35 := (Below.size hB)
    replace hB := below_ext hB hE34 (Nat.le_refl _)
    replace hm0_0 := hE34.at hm0_0
    clear hE34
    obtain ⟨x_hP3_1, er_hP3_1, l_hP3_1, rfl, ho_hP3_1, hc_hP3_1⟩ := own_res hP3_1
    replace ho_hP3_1 := OwT.mono ho_hP3_1 hsz35
    clear hsz35
    refine WL_val (dd := some 22) rfl rfl rfl (r_move (v := .tuple #[x_hP3_1, .int .i64 _]) rfl) ?_
    refine WL_val (dd := some 25) rfl rfl rfl (r_ext2_0 (h := rfl)) ?_
    refine WL_val (dd := some 26) rfl rfl rfl (r_ext2_1 (h := rfl)) ?_
    refine WL_val (dd := some 3) rfl rfl rfl (r_assign (v := x_hP3_1) rfl) ?_
    refine WL_val (dd := some 4) rfl rfl rfl (r_assign (v := .int .i64 _) rfl) ?_
    refine WL_nil ?_
    refine hK32 _ _ ?_
    clear hK32 K31
    refine WC_seq (fun K36 hK37 => ?_)
    refine WC_seq (fun K38 hK39 => ?_)
    obtain ⟨q2, q3⟩ := hc_hP3_1.elim (fun h => h.2) (fun h => absurd hr (by rw [h.1]; decide))
    subst q2 q3
    refine WC_region ?_
    refine WL_val (dd := some 5) rfl rfl rfl (r_assign (v := .int .i64 0) rfl) ?_
    refine WL_nil ?_
    refine hK39 _ _ ?_
    clear hK39 K38
    refine WC_block ?_
    refine WC_loop (σ := (Nat)) [2, 5, 6, 27, 28, 29, 30, 31, 32, 33, 34, 35, 36, 37, 38, 39, 40, 41, 42, 43, 44, 45, 46, 47, 48, 49, 50, 51, 52, 53] (fun i => [(5, .int .i64 (i : Int))]) (fun i W => (Below w.heap.size w W) ∧ (At W b0_0 _ 64) ∧ (OwT encR 3 79 W w.heap.size x_hP3_1 _) ∧ (i ≤ (plainL S).length) ∧ (True)) (fun i => (plainL S).length - i) (0) ⟨rfl, trivial⟩ ⟨hB, hm0_0, ho_hP3_1, (Nat.zero_le _), trivial⟩ ?_
    clear hB hm0_0 ho_hP3_1
    rintro i g41 W40 ⟨hB, hm0_0, ho_hP3_1, hi, _⟩ J42 hJ43
    refine WC_seq (fun K44 hK45 => ?_)
    refine WC_seq (fun K46 hK47 => ?_)
    refine WC_region ?_
    refine WL_val (dd := some 27) rfl rfl rfl (r_move (v := .int .i64 _) rfl) ?_
    refine WL_val (dd := some 28) rfl rfl rfl (r_move (v := x_hP3_1) rfl) ?_
    refine WL_val (dd := some 29) rfl rfl rfl (r_lenS (v := x_hP3_1) rfl ho_hP3_1.sl tb_el65) ?_
    refine WL_val (dd := some 30) rfl rfl rfl (r_lss rfl rfl) ?_
    refine WL_nil ?_
    refine hK47 _ _ ?_
    clear hK47 K46
    refine WC_cond (b := _) rfl (fun hc1 => ?_) (fun hc1 => ?_)
    ·
     try with_reducible replace hc1 := of_decide_eq_true hc1
     refine WC_skip ?_
     refine hK45 _ _ ?_
     clear hK45 K44
     refine WC_seq (fun K48 hK49 => ?_)
     refine WC_block ?_
     refine WC_seq (fun K50 hK51 => ?_)
     refine WC_seq (fun K52 hK53 => ?_)
     have hbi := (plain_b hr).get (k := i) (by omega)
     refine WC_draw Ext tb_mix (fun W54 hE55 => ?_)
     replace hB := below_ext hB hE55 (Nat.le_refl _)
     replace hm0_0 := hE55.at hm0_0
     replace ho_hP3_1 := hE55.ow ho_hP3_1
     have hS := Ext.refl W54
     refine WT_take (dd := some 33) 0 rfl (by kernel_rfl) (by kernel_rfl) (by kernel_rfl) rfl rfl rfl (fun _wq hq => r_loadW rfl tb_ag64 rfl (hq.at hm0_0)) hS ?_
     refine WT_take (dd := some 34) 1 rfl (by kernel_rfl) (by kernel_rfl) (by kernel_rfl) rfl rfl rfl (fun _wq _hq => r_move (v := x_hP3_1) rfl) hS ?_
     refine WT_take (dd := some 35) 2 rfl (by kernel_rfl) (by kernel_rfl) (by kernel_rfl) rfl rfl rfl (fun _wq _hq => r_move (v := .int .i64 _) rfl) hS ?_
     refine WT_take (dd := some 36) 3 rfl (by kernel_rfl) (by kernel_rfl) (by kernel_rfl) rfl rfl rfl (fun _wq hq => r_idxS (v := x_hP3_1) rfl ((hq.ow ho_hP3_1)).sl rfl tb_el65 (by omega) (by first | omega | (simp only [flagsTo_len, litsTo_len, firstF_len, ptF_len, setF_len]; omega))) hS ?_
     refine WT_take (dd := some 37) 4 rfl (by kernel_rfl) (by kernel_rfl) (by kernel_rfl) rfl rfl rfl (fun _wq hq => r_load3 rfl tb_ag79 (SlT.cell ((hq.ow ho_hP3_1)).sl encR_len ⟨⟨0, 0⟩, 0⟩ (by omega) (by first | omega | (simp only [flagsTo_len, litsTo_len, firstF_len, ptF_len, setF_len]; omega)) 0 rfl) (SlT.cell ((hq.ow ho_hP3_1)).sl encR_len ⟨⟨0, 0⟩, 0⟩ (by omega) (by first | omega | (simp only [flagsTo_len, litsTo_len, firstF_len, ptF_len, setF_len]; omega)) 1 rfl) (SlT.cell ((hq.ow ho_hP3_1)).sl encR_len ⟨⟨0, 0⟩, 0⟩ (by omega) (by first | omega | (simp only [flagsTo_len, litsTo_len, firstF_len, ptF_len, setF_len]; omega)) 2 rfl)) hS ?_
     refine WT_one (dd := some 38) 5 (by kernel_rfl) rfl rfl rfl rfl (Yd.call (r_call2 tb_c63 (v0 := .agg #[_, _, _]) rfl (v1 := .agg #[_, _, _]) rfl) (C_multi_Prime S _ _ ((plainL S).getD i ⟨⟨0, 0⟩, 0⟩) _ (Below.slT hB hon) (Below.slT hB hmay) hbi) (fun v7_5 W56 hE57 hP7_5 => ⟨.inl (hS.trans hE57), ?_⟩))
     have hsz58 := (Below.size hB)
     have sv59_hB := hB
     have sv59_hm0_0 := hm0_0
     have sv59_ho_hP3_1 := ho_hP3_1
     replace hB := below_ext hB hE57 (Nat.le_refl _)
     replace hm0_0 := hE57.at hm0_0
     replace ho_hP3_1 := hE57.ow ho_hP3_1
     replace hS := hS.trans hE57
     clear hE57
     clear hsz58
     obtain rfl := hP7_5
     refine WT_take (dd := some 39) 6 rfl (by kernel_rfl) (by kernel_rfl) (by kernel_rfl) rfl rfl rfl (fun _wq _hq => r_not rfl) hS ?_
     refine WT_done (by kernel_rfl) ?_
     try clear sv59_hB sv59_hm0_0 sv59_ho_hP3_1
     refine hK53 _ _ ?_
     clear hK53 K52
     refine WC_cond (b := _) rfl (fun hc2 => ?_) (fun hc2 => ?_)
     ·
      try with_reducible replace hc2 := of_decide_eq_true hc2
      exact absurd (plain_prime hr (getD_mem (show i < (plainL S).length by omega))) (by have h := not_t hc2; intro h2; exact Bool.noConfusion (h2.symm.trans h))
     ·
      try with_reducible replace hc2 := of_decide_eq_false hc2
      refine WC_skip ?_
      refine hK51 _ _ ?_
      clear hK51 K50
      refine WC_seq (fun K60 hK61 => ?_)
      refine WC_region ?_
      refine WL_val (dd := some 6) rfl rfl rfl (r_assign (v := .int .i64 0) rfl) ?_
      refine WL_nil ?_
      refine hK61 _ _ ?_
      clear hK61 K60
      refine WC_block ?_
      refine WC_loop (σ := (Nat)) [2, 6, 40, 41, 42, 43, 44, 45, 46, 47, 48, 49, 50, 51, 52, 53] (fun k => [(6, .int .i64 (k : Int))]) (fun k W => (Below w.heap.size w W) ∧ (At W b0_0 _ 64) ∧ (OwT encR 3 79 W w.heap.size x_hP3_1 _) ∧ (k ≤ i) ∧ (True)) (fun k => i - k) (0) ⟨rfl, trivial⟩ ⟨hB, hm0_0, ho_hP3_1, (Nat.zero_le _), trivial⟩ ?_
      clear hB hm0_0 ho_hP3_1
      rintro k g63 W62 ⟨hB, hm0_0, ho_hP3_1, hk, _⟩ J64 hJ65
      refine WC_seq (fun K66 hK67 => ?_)
      refine WC_seq (fun K68 hK69 => ?_)
      refine WC_region ?_
      refine WL_val (dd := some 40) rfl rfl rfl (r_move (v := .int .i64 _) rfl) ?_
      refine WL_val (dd := some 41) rfl rfl rfl (r_move (v := .int .i64 _) rfl) ?_
      refine WL_val (dd := some 42) rfl rfl rfl (r_lss rfl rfl) ?_
      refine WL_nil ?_
      refine hK69 _ _ ?_
      clear hK69 K68
      refine WC_cond (b := _) rfl (fun hc3 => ?_) (fun hc3 => ?_)
      ·
       try with_reducible replace hc3 := of_decide_eq_true hc3
       refine WC_skip ?_
       refine hK67 _ _ ?_
       clear hK67 K66
       refine WC_seq (fun K70 hK71 => ?_)
       refine WC_block ?_
       refine WC_seq (fun K72 hK73 => ?_)
       refine WC_draw Ext tb_mix (fun W74 hE75 => ?_)
       replace hB := below_ext hB hE75 (Nat.le_refl _)
       replace hm0_0 := hE75.at hm0_0
       replace ho_hP3_1 := hE75.ow ho_hP3_1
       have hS := Ext.refl W74
       refine WT_take (dd := some 45) 0 rfl (by kernel_rfl) (by kernel_rfl) (by kernel_rfl) rfl rfl rfl (fun _wq _hq => r_move (v := x_hP3_1) rfl) hS ?_
       refine WT_take (dd := some 46) 1 rfl (by kernel_rfl) (by kernel_rfl) (by kernel_rfl) rfl rfl rfl (fun _wq _hq => r_move (v := .int .i64 _) rfl) hS ?_
       refine WT_take (dd := some 47) 2 rfl (by kernel_rfl) (by kernel_rfl) (by kernel_rfl) rfl rfl rfl (fun _wq hq => r_idxS (v := x_hP3_1) rfl ((hq.ow ho_hP3_1)).sl rfl tb_el65 (by omega) (by first | omega | (simp only [flagsTo_len, litsTo_len, firstF_len, ptF_len, setF_len]; omega))) hS ?_
       refine WT_take (dd := some 48) 3 rfl (by kernel_rfl) (by kernel_rfl) (by kernel_rfl) rfl rfl rfl (fun _wq hq => r_load3 rfl tb_ag79 (SlT.cell ((hq.ow ho_hP3_1)).sl encR_len ⟨⟨0, 0⟩, 0⟩ (by omega) (by first | omega | (simp only [flagsTo_len, litsTo_len, firstF_len, ptF_len, setF_len]; omega)) 0 rfl) (SlT.cell ((hq.ow ho_hP3_1)).sl encR_len ⟨⟨0, 0⟩, 0⟩ (by omega) (by first | omega | (simp only [flagsTo_len, litsTo_len, firstF_len, ptF_len, setF_len]; omega)) 1 rfl) (SlT.cell ((hq.ow ho_hP3_1)).sl encR_len ⟨⟨0, 0⟩, 0⟩ (by omega) (by first | omega | (simp only [flagsTo_len, litsTo_len, firstF_len, ptF_len, setF_len]; omega)) 2 rfl)) hS ?_
       refine WT_take (dd := some 49) 4 rfl (by kernel_rfl) (by kernel_rfl) (by kernel_rfl) rfl rfl rfl (fun _wq _hq => r_move (v := x_hP3_1) rfl) hS ?_
       refine WT_take (dd := some 50) 5 rfl (by kernel_rfl) (by kernel_rfl) (by kernel_rfl) rfl rfl rfl (fun _wq _hq => r_move (v := .int .i64 _) rfl) hS ?_
       refine WT_take (dd := some 51) 6 rfl (by kernel_rfl) (by kernel_rfl) (by kernel_rfl) rfl rfl rfl (fun _wq hq => r_idxS (v := x_hP3_1) rfl ((hq.ow ho_hP3_1)).sl rfl tb_el65 (by omega) (by first | omega | (simp only [flagsTo_len, litsTo_len, firstF_len, ptF_len, setF_len]; omega))) hS ?_
       refine WT_take (dd := some 52) 7 rfl (by kernel_rfl) (by kernel_rfl) (by kernel_rfl) rfl rfl rfl (fun _wq hq => r_load3 rfl tb_ag79 (SlT.cell ((hq.ow ho_hP3_1)).sl encR_len ⟨⟨0, 0⟩, 0⟩ (by omega) (by first | omega | (simp only [flagsTo_len, litsTo_len, firstF_len, ptF_len, setF_len]; omega)) 0 rfl) (SlT.cell ((hq.ow ho_hP3_1)).sl encR_len ⟨⟨0, 0⟩, 0⟩ (by omega) (by first | omega | (simp only [flagsTo_len, litsTo_len, firstF_len, ptF_len, setF_len]; omega)) 1 rfl) (SlT.cell ((hq.ow ho_hP3_1)).sl encR_len ⟨⟨0, 0⟩, 0⟩ (by omega) (by first | omega | (simp only [flagsTo_len, litsTo_len, firstF_len, ptF_len, setF_len]; omega)) 2 rfl)) hS ?_
       refine WT_take (dd := some 53) 8 rfl (by kernel_rfl) (by kernel_rfl) (by kernel_rfl) rfl rfl rfl (fun _wq _hq => tb_eq79 rfl rfl) hS ?_
       refine WT_done (by kernel_rfl) ?_
       refine hK73 _ _ ?_
       clear hK73 K72
       refine WC_cond (b := _) rfl (fun hc4 => ?_) (fun hc4 => ?_)
       ·
        try with_reducible replace hc4 := of_decide_eq_true hc4
        exact absurd (rw_eq2 (x := (plainL S).getD i ⟨⟨0, 0⟩, 0⟩) (y := (plainL S).getD k ⟨⟨0, 0⟩, 0⟩) hc4) (plain_apart (by omega) (by omega))
       ·
        try with_reducible replace hc4 := of_decide_eq_false hc4
        refine WC_skip ?_
        refine hK71 _ _ ?_
        clear hK71 K70
        refine WC_region ?_
        refine WL_val (dd := some 43) rfl rfl rfl (r_move (v := .int .i64 _) rfl) ?_
        refine WL_val (dd := some 44) rfl rfl rfl (r_addI rfl rfl (by omega) (by omega)) ?_
        refine WL_val (dd := some 6) rfl rfl rfl (r_assign (v := .int .i64 _) rfl) ?_
        refine WL_nil ?_
        refine hJ65 _ _ (k + 1) ?_ ?_ ?_ ?_
        · repeat (first | exact agree.mask _ _ _ | refine agree.updo ?_ rfl _ | refine agree.updL ?_ _ rfl | refine agree.maskS rfl ?_)
        · exact ⟨rfl, trivial⟩
        · exact ⟨hB, hm0_0, ho_hP3_1, (by omega), trivial⟩
        · first | omega | (dsimp only; omega)
      ·
       try with_reducible replace hc3 := of_decide_eq_false hc3
       refine WC_exit ?_
       refine hK49 _ _ ?_
       clear hK67 K66
       clear hJ65 J64
       clear hK49 K48
       refine WC_region ?_
       refine WL_val (dd := some 31) rfl rfl rfl (r_move (v := .int .i64 _) rfl) ?_
       refine WL_val (dd := some 32) rfl rfl rfl (r_addI rfl rfl (by omega) (by omega)) ?_
       refine WL_val (dd := some 5) rfl rfl rfl (r_assign (v := .int .i64 _) rfl) ?_
       refine WL_nil ?_
       refine hJ43 _ _ (i + 1) ?_ ?_ ?_ ?_
       · repeat (first | exact agree.mask _ _ _ | refine agree.updo ?_ rfl _ | refine agree.updL ?_ _ rfl | refine agree.maskS rfl ?_)
       · exact ⟨rfl, trivial⟩
       · exact ⟨hB, hm0_0, ho_hP3_1, (by omega), trivial⟩
       · first | omega | (dsimp only; omega)
    ·
     try with_reducible replace hc1 := of_decide_eq_false hc1
     refine WC_exit ?_
     refine hK37 _ _ ?_
     clear hK45 K44
     clear hJ43 J42
     clear hK37 K36
     refine WC_seq (fun K76 hK77 => ?_)
     refine WC_region ?_
     refine WL_val (dd := some 55) rfl rfl rfl (r_loadW rfl tb_ag64 rfl hm0_0) ?_
     refine WL_val (dd := some 56) rfl rfl rfl (r_move (v := x_hP3_1) rfl) ?_
     refine WL_call (dd := some 57) rfl rfl rfl (r_call2 tb_c73 (v0 := .agg #[_, _, _]) rfl (v1 := x_hP3_1) rfl) (C_thin_Thin S _ _ _ (plainL S) _ (Below.slT hB hon) (Below.slT hB hmay) ho_hP3_1.sl (by omega) (plain_b hr) (by omega)) (fun v14_2 W78 hE79 hP14_2 => ?_)
     have hlt80 := OwT.lt2 ho_hP3_1
     have hsz81 := (Below.size hB)
     replace hB := below_ext hB hE79 (Nat.le_refl _)
     replace hm0_0 := hE79.at hm0_0
     replace ho_hP3_1 := hE79.ow ho_hP3_1
     clear hE79
     obtain ⟨x_hP14_2, er_hP14_2, l_hP14_2, rfl, ho_hP14_2, hc_hP14_2⟩ := own_res hP14_2
     replace ho_hP14_2 := OwT.mono ho_hP14_2 hsz81
     clear hsz81
     refine WL_val (dd := some 54) rfl rfl rfl (r_move (v := .tuple #[x_hP14_2, .int .i64 _]) rfl) ?_
     refine WL_val (dd := some 58) rfl rfl rfl (r_ext2_0 (h := rfl)) ?_
     refine WL_val (dd := some 59) rfl rfl rfl (r_ext2_1 (h := rfl)) ?_
     refine WL_val (dd := some 7) rfl rfl rfl (r_assign (v := x_hP14_2) rfl) ?_
     refine WL_val (dd := some 8) rfl rfl rfl (r_assign (v := .int .i64 _) rfl) ?_
     refine WL_nil ?_
     refine hK77 _ _ ?_
     clear hK77 K76
     refine WC_seq (fun K82 hK83 => ?_)
     obtain ⟨q2, q3⟩ := hc_hP14_2.elim (fun h => h.2) (fun h => absurd (plain_cov hr) (by rw [h.1]; decide))
     subst q2 q3
     refine WC_region ?_
     refine WL_val (dd := some 60) rfl rfl rfl (r_move (v := .int .i64 _) rfl) ?_
     refine WL_val (dd := some 61) rfl rfl rfl (r_eql rfl rfl) ?_
     refine WL_split (dd := some 62) rfl rfl rfl (r_move (v := .bool _) rfl) (fun hs15_2 => ?_) (fun hs15_2 => ?_)
     ·
      try with_reducible replace hs15_2 := of_decide_eq_true hs15_2
      refine WL_val (dd := some 63) rfl rfl rfl (r_move (v := .int .i64 _) rfl) ?_
      refine WL_val (dd := some 64) rfl rfl rfl (r_eql rfl rfl) ?_
      refine WL_val (dd := some 65) rfl rfl rfl (r_pick_t rfl (v := .bool _) rfl) ?_
      refine WL_split (dd := some 66) rfl rfl rfl (r_move (v := .bool _) rfl) (fun hs15_6 => ?_) (fun hs15_6 => ?_)
      ·
       try with_reducible replace hs15_6 := of_decide_eq_true hs15_6
       refine WL_val (dd := some 67) rfl rfl rfl (r_loadW rfl tb_ag64 rfl hm0_0) ?_
       refine WL_val (dd := some 68) rfl rfl rfl (r_move (v := x_hP3_1) rfl) ?_
       refine WL_call (dd := some 69) rfl rfl rfl (r_call2 tb_c67 (v0 := .agg #[_, _, _]) rfl (v1 := x_hP3_1) rfl) (C_drawkniferef04_Covers S _ _ _ (plainL S) _ (Below.slT hB hon) (Below.slT hB hmay) ho_hP3_1.sl (by omega) (plain_b hr) hr) (fun v15_9 W84 hE85 hP15_9 => ?_)
       have hsz86 := (Below.size hB)
       replace hB := below_ext hB hE85 (Nat.le_refl _)
       replace hm0_0 := hE85.at hm0_0
       replace ho_hP3_1 := hE85.ow ho_hP3_1
       replace ho_hP14_2 := hE85.ow ho_hP14_2
       clear hE85
       clear hsz86
       obtain rfl := hP15_9
       refine WL_val (dd := some 70) rfl rfl rfl (r_pick_t rfl (v := .bool _) rfl) ?_
       refine WL_split (dd := some 71) rfl rfl rfl (r_move (v := .bool _) rfl) (fun hs15_11 => ?_) (fun hs15_11 => ?_)
       ·
        try with_reducible replace hs15_11 := of_decide_eq_true hs15_11
        refine WL_val (dd := some 72) rfl rfl rfl (r_loadW rfl tb_ag64 rfl hm0_0) ?_
        refine WL_val (dd := some 73) rfl rfl rfl (r_move (v := x_hP14_2) rfl) ?_
        refine WL_call (dd := some 74) rfl rfl rfl (r_call2 tb_c76 (v0 := .agg #[_, _, _]) rfl (v1 := x_hP14_2) rfl) (C_drawkniferef16_Needed S _ _ _ (thinR S (plainL S)) _ (Below.slT hB hon) (Below.slT hB hmay) ho_hP14_2.sl (by omega) (thin_b (plain_b hr)) hr) (fun v15_14 W87 hE88 hP15_14 => ?_)
        have hsz89 := (Below.size hB)
        replace hB := below_ext hB hE88 (Nat.le_refl _)
        replace hm0_0 := hE88.at hm0_0
        replace ho_hP3_1 := hE88.ow ho_hP3_1
        replace ho_hP14_2 := hE88.ow ho_hP14_2
        clear hE88
        clear hsz89
        obtain rfl := hP15_14
        refine WL_val (dd := some 75) rfl rfl rfl (r_pick_t rfl (v := .bool _) rfl) ?_
        refine WL_split (dd := some 76) rfl rfl rfl (r_move (v := .bool _) rfl) (fun hs15_16 => ?_) (fun hs15_16 => ?_)
        ·
         try with_reducible replace hs15_16 := of_decide_eq_true hs15_16
         refine WL_call (dd := some 77) rfl rfl rfl (r_call0 tb_c72) (C_drawknifelaw16_knows _) (fun v15_17 W90 hE91 hP15_17 => ?_)
         have hsz92 := (Below.size hB)
         replace hB := below_ext hB hE91 (Nat.le_refl _)
         replace hm0_0 := hE91.at hm0_0
         replace ho_hP3_1 := hE91.ow ho_hP3_1
         replace ho_hP14_2 := hE91.ow ho_hP14_2
         clear hE91
         clear hsz92
         obtain rfl := hP15_17
         refine WL_val (dd := some 78) rfl rfl rfl (r_pick_t rfl (v := .bool _) rfl) ?_
         refine WL_val (dd := some 2) rfl rfl rfl (r_assign (v := .bool _) rfl) ?_
         refine WL_nil ?_
         refine hK83 _ _ ?_
         clear hK83 K82
         refine WC_ret ?_
         repeat (first | refine thenQ_ret ?_ | refine blockQ_ret ?_)
         refine ret_t (v := .bool _) rfl ?_
         refine ⟨hB, ?_⟩
         rfl
        ·
         try with_reducible replace hs15_16 := of_decide_eq_false hs15_16
         exact absurd (thin_needed (plain_cov hr)) (by rw [hs15_16]; decide)
       ·
        try with_reducible replace hs15_11 := of_decide_eq_false hs15_11
        exact absurd (plain_cov hr) (by rw [hs15_11]; decide)
      ·
       try with_reducible replace hs15_6 := of_decide_eq_false hs15_6
       exact absurd rfl hs15_6
     ·
      try with_reducible replace hs15_2 := of_decide_eq_false hs15_2
      exact absurd rfl hs15_2

end Go.Proofs.Ytdbcijijhhbkaaa
