/-
  The walks of the statements about coverings.
-/
import Derived.Test.YtdbcijijhhbkaaaProg
import Derived.Test.YtdbcijijhhbkaaaWRef13
namespace Go.Proofs.Ytdbcijijhhbkaaa
set_option linter.unusedVariables false
set_option linter.unusedSimpArgs false
open Go Go.RowKit

theorem tb_build24_0 {f : Nat → Value} {w : World} {d : Option Nat} {ty : TypeId} {ps : String} {af : Array Edge} {g : Option (Nat × Bool)} {x0 : Operand} {c0_0 : Value} (h0 : evF f x0 = c0_0) (k0 : c0_0.cells = #[c0_0]) :
    (execOp (evF f) ⟨d, .build 24 #[(0, x0)], ty, ps, af, g⟩).run Try.prog w = .ok (.value (.agg #[c0_0, .int .u64 0, .int .u64 0, .int .u64 0])) w := by
  obtain ⟨i0, hi0, hz0⟩ := Option.bind_eq_some_iff.1 (show (Try.prog.info? 24).bind (·.zero) = _ from tb_z24)
  obtain ⟨j22, hj22, hs22⟩ := Option.map_eq_some_iff.1 tb_size22
  simp [execOp, h0, k0, Instr.build, zeroValue, typeInfo, sizeOf, hi0, hz0, run_underlying Try.underlying24, Instr.fill, cells_agg, hj22, hs22]
theorem tb_z64 : zeroI Try.prog 64 = some (.agg #[.int .i64 0, .slice none 0 0, .slice none 0 0]) := by kernel_rfl
theorem tb_size62 : (Try.prog.info? 62).map (·.size) = some 1 := by kernel_rfl
theorem tb_build64_0_1_2 {f : Nat → Value} {w : World} {d : Option Nat} {ty : TypeId} {ps : String} {af : Array Edge} {g : Option (Nat × Bool)} {x0 x1 x2 : Operand} {c0_0 c1_0 c2_0 : Value} (h0 : evF f x0 = c0_0) (k0 : c0_0.cells = #[c0_0]) (h1 : evF f x1 = c1_0) (k1 : c1_0.cells = #[c1_0]) (h2 : evF f x2 = c2_0) (k2 : c2_0.cells = #[c2_0]) :
    (execOp (evF f) ⟨d, .build 64 #[(0, x0), (1, x1), (2, x2)], ty, ps, af, g⟩).run Try.prog w = .ok (.value (.agg #[c0_0, c1_0, c2_0])) w := by
  obtain ⟨i0, hi0, hz0⟩ := Option.bind_eq_some_iff.1 (show (Try.prog.info? 64).bind (·.zero) = _ from tb_z64)
  obtain ⟨j3, hj3, hs3⟩ := Option.map_eq_some_iff.1 tb_size3
  obtain ⟨j62, hj62, hs62⟩ := Option.map_eq_some_iff.1 tb_size62
  simp [execOp, h0, k0, h1, k1, h2, k2, Instr.build, zeroValue, typeInfo, sizeOf, hi0, hz0, run_underlying Try.underlying64, Instr.fill, cells_agg, hj3, hs3, hj62, hs62]
theorem tb_size5 : (Try.prog.info? 5).map (·.size) = some 1 := by kernel_rfl
theorem tb_build34_0_1 {f : Nat → Value} {w : World} {d : Option Nat} {ty : TypeId} {ps : String} {af : Array Edge} {g : Option (Nat × Bool)} {x0 x1 : Operand} {c0_0 c1_0 : Value} (h0 : evF f x0 = c0_0) (k0 : c0_0.cells = #[c0_0]) (h1 : evF f x1 = c1_0) (k1 : c1_0.cells = #[c1_0]) :
    (execOp (evF f) ⟨d, .build 34 #[(0, x0), (1, x1)], ty, ps, af, g⟩).run Try.prog w = .ok (.value (.agg #[c0_0, c1_0])) w := by
  obtain ⟨i0, hi0, hz0⟩ := Option.bind_eq_some_iff.1 (show (Try.prog.info? 34).bind (·.zero) = _ from tb_z34)
  obtain ⟨j5, hj5, hs5⟩ := Option.map_eq_some_iff.1 tb_size5
  simp [execOp, h0, k0, h1, k1, Instr.build, zeroValue, typeInfo, sizeOf, hi0, hz0, run_underlying Try.underlying34, Instr.fill, cells_agg, hj5, hs5]
theorem tb_size34 : (Try.prog.info? 34).map (·.size) = some 2 := by kernel_rfl
theorem tb_build79_0_1 {f : Nat → Value} {w : World} {d : Option Nat} {ty : TypeId} {ps : String} {af : Array Edge} {g : Option (Nat × Bool)} {x0 x1 : Operand} {c0_0 c0_1 c1_0 : Value} (h0 : evF f x0 = .agg #[c0_0, c0_1]) (h1 : evF f x1 = c1_0) (k1 : c1_0.cells = #[c1_0]) :
    (execOp (evF f) ⟨d, .build 79 #[(0, x0), (1, x1)], ty, ps, af, g⟩).run Try.prog w = .ok (.value (.agg #[c0_0, c0_1, c1_0])) w := by
  obtain ⟨i0, hi0, hz0⟩ := Option.bind_eq_some_iff.1 (show (Try.prog.info? 79).bind (·.zero) = _ from tb_z79)
  obtain ⟨j5, hj5, hs5⟩ := Option.map_eq_some_iff.1 tb_size5
  obtain ⟨j34, hj34, hs34⟩ := Option.map_eq_some_iff.1 tb_size34
  simp [execOp, h0, h1, k1, Instr.build, zeroValue, typeInfo, sizeOf, hi0, hz0, run_underlying Try.underlying79, Instr.fill, cells_agg, hj5, hs5, hj34, hs34]
theorem tb_build79_1 {f : Nat → Value} {w : World} {d : Option Nat} {ty : TypeId} {ps : String} {af : Array Edge} {g : Option (Nat × Bool)} {x0 : Operand} {c0_0 : Value} (h0 : evF f x0 = c0_0) (k0 : c0_0.cells = #[c0_0]) :
    (execOp (evF f) ⟨d, .build 79 #[(1, x0)], ty, ps, af, g⟩).run Try.prog w = .ok (.value (.agg #[.int .u8 0, .int .u8 0, c0_0])) w := by
  obtain ⟨i0, hi0, hz0⟩ := Option.bind_eq_some_iff.1 (show (Try.prog.info? 79).bind (·.zero) = _ from tb_z79)
  obtain ⟨j5, hj5, hs5⟩ := Option.map_eq_some_iff.1 tb_size5
  obtain ⟨j34, hj34, hs34⟩ := Option.map_eq_some_iff.1 tb_size34
  simp [execOp, h0, k0, Instr.build, zeroValue, typeInfo, sizeOf, hi0, hz0, run_underlying Try.underlying79, Instr.fill, cells_agg, hj5, hs5, hj34, hs34]
theorem tb_zs79 : (zeroI Try.prog 79).map (fun z => z.cells.size) = some 3 := by kernel_rfl
theorem tb_c52 : callB Try.prog 52 = true := by kernel_rfl
theorem tb_c54 : callB Try.prog 54 = true := by kernel_rfl
theorem tb_c49 : callB Try.prog 49 = true := by kernel_rfl
theorem tb_c45 : callB Try.prog 45 = true := by kernel_rfl
theorem tb_c46 : callB Try.prog 46 = true := by kernel_rfl
theorem tb_c47 : callB Try.prog 47 = true := by kernel_rfl
theorem tb_c50 : callB Try.prog 50 = true := by kernel_rfl
theorem tb_c51 : callB Try.prog 51 = true := by kernel_rfl
theorem tb_c53 : callB Try.prog 53 = true := by kernel_rfl
theorem tb_c55 : callB Try.prog 55 = true := by kernel_rfl
theorem tb_c65 : callB Try.prog 65 = true := by kernel_rfl
theorem tb_c66 : callB Try.prog 66 = true := by kernel_rfl
theorem tb_c67 : callB Try.prog 67 = true := by kernel_rfl

set_option maxRecDepth 10000 in
theorem C_drawknifelaw13_knows  (w : World) :
    Fn Try.prog 46 #[] w fun v w' => v = .bool true := by
 refine Fn_intro (n := 48) Try.func46 rfl rfl (Nat.le_of_ble_eq_true rfl) ?_
 have hB : Below w.heap.size w w := Below.refl _ _
 refine WC_seq (fun K1 hK2 => ?_)
 refine WC_region ?_
 refine WL_val (dd := some 0) rfl rfl rfl (r_assign (v := .bool false) rfl) ?_
 refine WL_nil ?_
 refine hK2 _ _ ?_
 clear hK2 K1
 refine WC_seq (fun K3 hK4 => ?_)
 refine WC_region ?_
 refine WL_val (dd := some 4) (v := setV 3) rfl rfl rfl (tb_build24_0 (h0 := rfl) (k0 := rfl) (c0_0 := .int .u64 3)) ?_
 refine WL_step (dd := some 5) rfl rfl rfl (Y_lit1 (u := .agg #[_, _, _, _]) rfl tb_el62 tb_zs24 rfl (by decide) (by decide) (fun b1_1 W5 hb6 hE7 hm1_1 => ?_))
 have lo_b1_1 : w.heap.size ≤ b1_1 := hb6 ▸ (Below.size hB)
 clear hb6
 replace hB := below_ext hB hE7 (Nat.le_refl _)
 clear hE7
 refine WL_val (dd := some 6) (v := setV 3) rfl rfl rfl (tb_build24_0 (h0 := rfl) (k0 := rfl) (c0_0 := .int .u64 3)) ?_
 refine WL_step (dd := some 7) rfl rfl rfl (Y_lit1 (u := .agg #[_, _, _, _]) rfl tb_el62 tb_zs24 rfl (by decide) (by decide) (fun b1_3 W8 hb9 hE10 hm1_3 => ?_))
 have lo_b1_3 : w.heap.size ≤ b1_3 := hb9 ▸ (Below.size hB)
 have ne_b1_1_b1_3 : b1_1 ≠ b1_3 := Nat.ne_of_lt (hb9 ▸ hm1_1.lt)
 clear hb9
 replace hB := below_ext hB hE10 (Nat.le_refl _)
 replace hm1_1 := hE10.at hm1_1
 clear hE10
 have ho11 := own_lit1 (enc := encS) (a := 3) hm1_1 rfl rfl lo_b1_1
 clear hm1_1
 have ho12 := own_lit1 (enc := encS) (a := 3) hm1_3 rfl rfl lo_b1_3
 clear hm1_3
 refine WL_val (dd := some 8) rfl rfl rfl (tb_build64_0_1_2 (h0 := rfl) (k0 := rfl) (h1 := rfl) (k1 := rfl) (h2 := rfl) (k2 := rfl) (c0_0 := .int .i64 1) (c1_0 := .slice (some ⟨b1_1, 0, none⟩) 1 1) (c2_0 := .slice (some ⟨b1_3, 0, none⟩) 1 1)) ?_
 refine WL_step (dd := some 1) rfl rfl rfl (Y_alloc tb_z64 rfl (fun b1_5 W13 hb14 hE15 hm1_5 => ?_))
 have lo_b1_5 : w.heap.size ≤ b1_5 := hb14 ▸ (Below.size hB)
 clear hb14
 replace hB := below_ext hB hE15 (Nat.le_refl _)
 replace ho11 := hE15.ow ho11
 replace ho12 := hE15.ow ho12
 clear hE15
 refine WL_step (dd := none) rfl rfl rfl (Y_storeW rfl rfl tb_ag64 rfl hm1_5 rfl (by rfl) (fun W16 hG17 hm18 => ?_))
 replace hB := below_grown hB hG17 (Nat.le_refl _) (fun j hj => by cases hj; exact lo_b1_5)
 replace ho11 := OwT.grownAt ho11 hm1_5 hG17 (by decide)
 replace ho12 := OwT.grownAt ho12 hm1_5 hG17 (by decide)
 clear hG17 hm1_5
 have hm1_5 := hm18
 clear hm18
 refine WL_nil ?_
 refine hK4 _ _ ?_
 clear hK4 K3
 refine WC_seq (fun K19 hK20 => ?_)
 refine WC_region ?_
 refine WL_val (dd := some 10) rfl rfl rfl (r_loadW rfl tb_ag64 rfl hm1_5) ?_
 refine WL_val (dd := some 11) rfl rfl rfl (tb_build34_0_1 (h0 := rfl) (k0 := rfl) (h1 := rfl) (k1 := rfl) (c0_0 := .int .u8 1) (c1_0 := .int .u8 1)) ?_
 refine WL_val (dd := some 12) rfl rfl rfl (tb_build79_0_1 (h0 := rfl) (h1 := rfl) (k1 := rfl) (c1_0 := .int .u8 1)) ?_
 refine WL_val (dd := some 13) rfl rfl rfl (tb_build79_1 (h0 := rfl) (k0 := rfl) (c0_0 := .int .u8 1)) ?_
 refine WL_step (dd := some 14) rfl rfl rfl (Y_lit2 (u0 := .agg #[_, _, _]) (u1 := .agg #[_, _, _]) rfl rfl tb_el65 tb_zs79 rfl rfl (by decide) (by decide) (fun b2_4 W21 hb22 hE23 hm2_4 => ?_))
 have lo_b2_4 : w.heap.size ≤ b2_4 := hb22 ▸ (Below.size hB)
 clear hb22
 replace hB := below_ext hB hE23 (Nat.le_refl _)
 replace ho11 := hE23.ow ho11
 replace ho12 := hE23.ow ho12
 replace hm1_5 := hE23.at hm1_5
 clear hE23
 have ho2_4 := own_lit2 (enc := encR) (sz := 3) (a0 := ⟨⟨1, 1⟩, 1⟩) (a1 := ⟨⟨0, 0⟩, 1⟩) hm2_4 rfl rfl rfl rfl lo_b2_4
 clear hm2_4
 refine WL_call (dd := some 15) rfl rfl rfl (r_call2 tb_c52 (v0 := .agg #[_, _, _]) rfl (v1 := .slice (some ⟨b2_4, 0, none⟩) 2 2) rfl) (C_cover_Make KM _ _ _ KR _ ho11.sl ho12.sl ho2_4.sl (by decide) kr_b) (fun v2_5 W24 hE25 hP2_5 => ?_)
 have hsz26 := (Below.size hB)
 replace hB := below_ext hB hE25 (Nat.le_refl _)
 replace ho11 := hE25.ow ho11
 replace ho12 := hE25.ow ho12
 replace hm1_5 := hE25.at hm1_5
 replace ho2_4 := hE25.ow ho2_4
 clear hE25
 obtain ⟨mn2_5, mrv2_5, mvs2_5, mL2_5, mer2_5, rfl, hmo2_5, hml2_5, hmc2_5⟩ := make_res hP2_5
 replace hmo2_5 := OwT.mono hmo2_5 hsz26
 replace hml2_5 := LO.mono hml2_5 hsz26
 obtain ⟨-, h1, h2, h3⟩ := hmc2_5.resolve_right (fun h => h.1 km_may)
 rw [km_rows] at h2
 subst h1 h2 h3
 clear hsz26
 refine WL_val (dd := some 9) rfl rfl rfl (r_move (v := .tuple #[.agg #[.int .i64 _, mrv2_5], .int .i64 _]) rfl) ?_
 refine WL_val (dd := some 16) rfl rfl rfl (r_ext2_0 (h := rfl)) ?_
 refine WL_val (dd := some 17) rfl rfl rfl (r_ext2_1 (h := rfl)) ?_
 refine WL_step (dd := some 2) rfl rfl rfl (Y_alloc tb_z56 rfl (fun b2_9 W27 hb28 hE29 hm2_9 => ?_))
 have lo_b2_9 : w.heap.size ≤ b2_9 := hb28 ▸ (Below.size hB)
 clear hb28
 replace hB := below_ext hB hE29 (Nat.le_refl _)
 replace ho11 := hE29.ow ho11
 replace ho12 := hE29.ow ho12
 replace hm1_5 := hE29.at hm1_5
 replace ho2_4 := hE29.ow ho2_4
 replace hmo2_5 := hE29.ow hmo2_5
 replace hml2_5 := LO.ext hE29 hml2_5
 clear hE29
 refine WL_step (dd := none) rfl rfl rfl (Y_storeW rfl rfl tb_ag56 rfl hm2_9 rfl (by simp only [List.all_cons, List.all_nil, OwT.one hmo2_5, Bool.and_true]; rfl) (fun W30 hG31 hm32 => ?_))
 replace hB := below_grown hB hG31 (Nat.le_refl _) (fun j hj => by cases hj; exact lo_b2_9)
 replace ho11 := OwT.grownAt ho11 hm2_9 hG31 (by decide)
 replace ho12 := OwT.grownAt ho12 hm2_9 hG31 (by decide)
 replace hm1_5 := At.grownAt hm1_5 hm2_9 hG31 (by decide)
 replace ho2_4 := OwT.grownAt ho2_4 hm2_9 hG31 (by decide)
 replace hmo2_5 := OwT.grownAt hmo2_5 hm2_9 hG31 (by decide)
 replace hml2_5 := LO.grownAt hml2_5 hm2_9 hG31 (by decide)
 clear hG31 hm2_9
 have hm2_9 := hm32
 clear hm32
 refine WL_val (dd := some 3) rfl rfl rfl (r_assign (v := .int .i64 _) rfl) ?_
 refine WL_nil ?_
 refine hK20 _ _ ?_
 clear hK20 K19
 refine WC_seq (fun K33 hK34 => ?_)
 refine WC_region ?_
 refine WL_val (dd := some 18) rfl rfl rfl (r_move (v := .int .i64 _) rfl) ?_
 refine WL_val (dd := some 19) rfl rfl rfl (r_eql rfl rfl) ?_
 refine WL_split (dd := some 20) rfl rfl rfl (r_move (v := .bool _) rfl) (fun hs3_2 => ?_) (fun hs3_2 => ?_)
 ·
  try with_reducible replace hs3_2 := of_decide_eq_true hs3_2
  refine WL_val (dd := some 21) rfl rfl rfl (r_fieldAddr (b := _) (o := _) rfl tb_fo56_0) ?_
  refine WL_val (dd := some 22) rfl rfl rfl (r_load1 (v := .int .i64 _) rfl tb_sc3 (At.cell hm2_9 rfl)) ?_
  refine WL_val (dd := some 23) rfl rfl rfl (r_eql rfl rfl) ?_
  refine WL_val (dd := some 24) rfl rfl rfl (r_pick_t rfl (v := .bool _) rfl) ?_
  refine WL_split (dd := some 25) rfl rfl rfl (r_move (v := .bool _) rfl) (fun hs3_7 => ?_) (fun hs3_7 => ?_)
  ·
   try with_reducible replace hs3_7 := of_decide_eq_true hs3_7
   refine WL_val (dd := some 26) rfl rfl rfl (r_fieldAddr (b := _) (o := _) rfl tb_fo56_1) ?_
   refine WL_val (dd := some 27) rfl rfl rfl (r_load1 (v := mrv2_5) rfl tb_sc54 (At.cell hm2_9 rfl)) ?_
   refine WL_step (dd := some 28) rfl rfl rfl (Y_lit1 (u := .int .i64 1) rfl tb_el57 tb_zs3 rfl (by decide) (by decide) (fun b3_10 W35 hb36 hE37 hm3_10 => ?_))
   have lo_b3_10 : w.heap.size ≤ b3_10 := hb36 ▸ (Below.size hB)
   clear hb36
   replace hB := below_ext hB hE37 (Nat.le_refl _)
   replace ho11 := hE37.ow ho11
   replace ho12 := hE37.ow ho12
   replace hm1_5 := hE37.at hm1_5
   replace ho2_4 := hE37.ow ho2_4
   replace hmo2_5 := hE37.ow hmo2_5
   replace hml2_5 := LO.ext hE37 hml2_5
   replace hm2_9 := hE37.at hm2_9
   clear hE37
   refine WL_step (dd := some 29) rfl rfl rfl (Y_lit2 (u0 := .int .i64 0) (u1 := .int .i64 1) rfl rfl tb_el57 tb_zs3 rfl rfl (by decide) (by decide) (fun b3_11 W38 hb39 hE40 hm3_11 => ?_))
   have lo_b3_11 : w.heap.size ≤ b3_11 := hb39 ▸ (Below.size hB)
   have ne_b3_10_b3_11 : b3_10 ≠ b3_11 := Nat.ne_of_lt (hb39 ▸ hm3_10.lt)
   clear hb39
   replace hB := below_ext hB hE40 (Nat.le_refl _)
   replace ho11 := hE40.ow ho11
   replace ho12 := hE40.ow ho12
   replace hm1_5 := hE40.at hm1_5
   replace ho2_4 := hE40.ow ho2_4
   replace hmo2_5 := hE40.ow hmo2_5
   replace hml2_5 := LO.ext hE40 hml2_5
   replace hm2_9 := hE40.at hm2_9
   replace hm3_10 := hE40.at hm3_10
   clear hE40
   have ho3_11 := own_lit2 (enc := encI) (sz := 1) (a0 := _) (a1 := _) hm3_11 rfl rfl rfl rfl lo_b3_11
   clear hm3_11
   have ho41 := own_lit1 (enc := encI) (a := _) hm3_10 rfl rfl lo_b3_10
   clear hm3_10
   refine WL_step (dd := some 30) rfl rfl rfl (Y_lit2 (u0 := .slice (some ⟨b3_10, 0, none⟩) 1 1) (u1 := .slice (some ⟨b3_11, 0, none⟩) 2 2) rfl rfl tb_el54 tb_zs57 rfl rfl (by decide) (by decide) (fun b3_12 W42 hb43 hE44 hm3_12 => ?_))
   have lo_b3_12 : w.heap.size ≤ b3_12 := hb43 ▸ (Below.size hB)
   have olt_hmo2_5 := OwT.lt2 hmo2_5
   have hap45 : Apart mrv2_5 (.slice (some ⟨b3_12, 0, none⟩) 2 2) := fun j h1 h2 => by cases h2; exact absurd (olt_hmo2_5 _ h1) (by rw [hb43]; exact Nat.lt_irrefl _)
   clear hb43
   replace hB := below_ext hB hE44 (Nat.le_refl _)
   replace ho11 := hE44.ow ho11
   replace ho12 := hE44.ow ho12
   replace hm1_5 := hE44.at hm1_5
   replace ho2_4 := hE44.ow ho2_4
   replace hmo2_5 := hE44.ow hmo2_5
   replace hml2_5 := LO.ext hE44 hml2_5
   replace hm2_9 := hE44.at hm2_9
   replace ho3_11 := hE44.ow ho3_11
   replace ho41 := hE44.ow ho41
   clear hE44
   have ho3_12 := own_lit2 (enc := encV) (sz := 1) (a0 := _) (a1 := _) hm3_12 rfl rfl rfl rfl lo_b3_12
   clear hm3_12
   refine WL_call (dd := some 31) rfl rfl rfl (r_call2 tb_c54 (v0 := mrv2_5) rfl (v1 := .slice (some ⟨b3_12, 0, none⟩) 2 2) rfl) (C_drawkniferef13_SameRows _ _ mvs2_5 [_, _] [[1], [0, 1]] [[1], [0, 1]] _ hmo2_5.sl ho3_12.sl (LO.ll hml2_5) (LL.two ho41.sl ho3_11.sl) (by decide) (by decide) (fun i => km_lim i) (fun i => km_lim i)) (fun v3_13 W46 hE47 hP3_13 => ?_)
   have hsz48 := (Below.size hB)
   replace hB := below_ext hB hE47 (Nat.le_refl _)
   replace ho11 := hE47.ow ho11
   replace ho12 := hE47.ow ho12
   replace hm1_5 := hE47.at hm1_5
   replace ho2_4 := hE47.ow ho2_4
   replace hmo2_5 := hE47.ow hmo2_5
   replace hml2_5 := LO.ext hE47 hml2_5
   replace hm2_9 := hE47.at hm2_9
   replace ho3_11 := hE47.ow ho3_11
   replace ho41 := hE47.ow ho41
   replace ho3_12 := hE47.ow ho3_12
   clear hE47
   clear hsz48
   obtain rfl := hP3_13
   refine WL_val (dd := some 32) rfl rfl rfl (r_pick_t rfl (v := .bool _) rfl) ?_
   refine WL_split (dd := some 33) rfl rfl rfl (r_move (v := .bool _) rfl) (fun hs3_15 => ?_) (fun hs3_15 => ?_)
   ·
    try with_reducible replace hs3_15 := of_decide_eq_true hs3_15
    refine WL_val (dd := some 34) rfl rfl rfl (r_loadW rfl tb_ag56 rfl hm2_9) ?_
    refine WL_step (dd := some 35) rfl rfl rfl (Y_lit1 (u := .int .i64 1) rfl tb_el57 tb_zs3 rfl (by decide) (by decide) (fun b3_17 W49 hb50 hE51 hm3_17 => ?_))
    have lo_b3_17 : w.heap.size ≤ b3_17 := hb50 ▸ (Below.size hB)
    have no52 := OwT.neB (b := b3_17) ho3_11 (Nat.le_of_eq hb50.symm)
    have no53 := OwT.neB (b := b3_17) ho41 (Nat.le_of_eq hb50.symm)
    clear hb50
    replace hB := below_ext hB hE51 (Nat.le_refl _)
    replace ho11 := hE51.ow ho11
    replace ho12 := hE51.ow ho12
    replace hm1_5 := hE51.at hm1_5
    replace ho2_4 := hE51.ow ho2_4
    replace hmo2_5 := hE51.ow hmo2_5
    replace hml2_5 := LO.ext hE51 hml2_5
    replace hm2_9 := hE51.at hm2_9
    replace ho3_11 := hE51.ow ho3_11
    replace ho41 := hE51.ow ho41
    replace ho3_12 := hE51.ow ho3_12
    clear hE51
    have ho54 := own_lit1 (enc := encI) (a := _) hm3_17 rfl rfl lo_b3_17
    clear hm3_17
    refine WL_call (dd := some 36) rfl rfl rfl (r_call2 tb_c49 (v0 := .agg #[_, _]) rfl (v1 := .slice (some ⟨b3_17, 0, none⟩) 1 1) rfl) (C_cover_Solves _ _ mvs2_5 [[1], [0, 1]] _ [1] _ hmo2_5.sl (LO.ll hml2_5) (by decide) (fun i => km_lim i) ho54.sl (by decide)) (fun v3_18 W55 hE56 hP3_18 => ?_)
    have hsz57 := (Below.size hB)
    replace hB := below_ext hB hE56 (Nat.le_refl _)
    replace ho11 := hE56.ow ho11
    replace ho12 := hE56.ow ho12
    replace hm1_5 := hE56.at hm1_5
    replace ho2_4 := hE56.ow ho2_4
    replace hmo2_5 := hE56.ow hmo2_5
    replace hml2_5 := LO.ext hE56 hml2_5
    replace hm2_9 := hE56.at hm2_9
    replace ho3_11 := hE56.ow ho3_11
    replace ho41 := hE56.ow ho41
    replace ho3_12 := hE56.ow ho3_12
    replace ho54 := hE56.ow ho54
    clear hE56
    clear hsz57
    obtain rfl := hP3_18
    refine WL_val (dd := some 37) rfl rfl rfl (r_pick_t rfl (v := .bool _) rfl) ?_
    refine WL_split (dd := some 38) rfl rfl rfl (r_move (v := .bool _) rfl) (fun hs3_20 => ?_) (fun hs3_20 => ?_)
    ·
     try with_reducible replace hs3_20 := of_decide_eq_true hs3_20
     refine WL_val (dd := some 39) rfl rfl rfl (r_loadW rfl tb_ag56 rfl hm2_9) ?_
     refine WL_step (dd := some 40) rfl rfl rfl (Y_lit1 (u := .int .i64 0) rfl tb_el57 tb_zs3 rfl (by decide) (by decide) (fun b3_22 W58 hb59 hE60 hm3_22 => ?_))
     have lo_b3_22 : w.heap.size ≤ b3_22 := hb59 ▸ (Below.size hB)
     have no61 := OwT.neB (b := b3_22) ho3_11 (Nat.le_of_eq hb59.symm)
     have no62 := OwT.neB (b := b3_22) ho41 (Nat.le_of_eq hb59.symm)
     have no63 := OwT.neB (b := b3_22) ho54 (Nat.le_of_eq hb59.symm)
     clear hb59
     replace hB := below_ext hB hE60 (Nat.le_refl _)
     replace ho11 := hE60.ow ho11
     replace ho12 := hE60.ow ho12
     replace hm1_5 := hE60.at hm1_5
     replace ho2_4 := hE60.ow ho2_4
     replace hmo2_5 := hE60.ow hmo2_5
     replace hml2_5 := LO.ext hE60 hml2_5
     replace hm2_9 := hE60.at hm2_9
     replace ho3_11 := hE60.ow ho3_11
     replace ho41 := hE60.ow ho41
     replace ho3_12 := hE60.ow ho3_12
     replace ho54 := hE60.ow ho54
     clear hE60
     have ho64 := own_lit1 (enc := encI) (a := _) hm3_22 rfl rfl lo_b3_22
     clear hm3_22
     refine WL_call (dd := some 41) rfl rfl rfl (r_call2 tb_c49 (v0 := .agg #[_, _]) rfl (v1 := .slice (some ⟨b3_22, 0, none⟩) 1 1) rfl) (C_cover_Solves _ _ mvs2_5 [[1], [0, 1]] _ [0] _ hmo2_5.sl (LO.ll hml2_5) (by decide) (fun i => km_lim i) ho64.sl (by decide)) (fun v3_23 W65 hE66 hP3_23 => ?_)
     have hsz67 := (Below.size hB)
     replace hB := below_ext hB hE66 (Nat.le_refl _)
     replace ho11 := hE66.ow ho11
     replace ho12 := hE66.ow ho12
     replace hm1_5 := hE66.at hm1_5
     replace ho2_4 := hE66.ow ho2_4
     replace hmo2_5 := hE66.ow hmo2_5
     replace hml2_5 := LO.ext hE66 hml2_5
     replace hm2_9 := hE66.at hm2_9
     replace ho3_11 := hE66.ow ho3_11
     replace ho41 := hE66.ow ho41
     replace ho3_12 := hE66.ow ho3_12
     replace ho54 := hE66.ow ho54
     replace ho64 := hE66.ow ho64
     clear hE66
     clear hsz67
     obtain rfl := hP3_23
     refine WL_val (dd := some 42) rfl rfl rfl (r_not rfl) ?_
     refine WL_val (dd := some 43) rfl rfl rfl (r_pick_t rfl (v := .bool _) rfl) ?_
     refine WL_split (dd := some 44) rfl rfl rfl (r_move (v := .bool _) rfl) (fun hs3_26 => ?_) (fun hs3_26 => ?_)
     ·
      try with_reducible replace hs3_26 := of_decide_eq_true hs3_26
      refine WL_val (dd := some 45) rfl rfl rfl (r_loadW rfl tb_ag56 rfl hm2_9) ?_
      refine WL_call (dd := some 46) rfl rfl rfl (r_call1 tb_c48 (v0 := .agg #[_, _]) rfl) (C_cover_Right _ _ mvs2_5 [[1], [0, 1]] _ hmo2_5.sl (LO.ll hml2_5) (by decide) (fun i => km_lim i)) (fun v3_28 W68 hE69 hP3_28 => ?_)
      have hsz70 := (Below.size hB)
      replace hB := below_ext hB hE69 (Nat.le_refl _)
      replace ho11 := hE69.ow ho11
      replace ho12 := hE69.ow ho12
      replace hm1_5 := hE69.at hm1_5
      replace ho2_4 := hE69.ow ho2_4
      replace hmo2_5 := hE69.ow hmo2_5
      replace hml2_5 := LO.ext hE69 hml2_5
      replace hm2_9 := hE69.at hm2_9
      replace ho3_11 := hE69.ow ho3_11
      replace ho41 := hE69.ow ho41
      replace ho3_12 := hE69.ow ho3_12
      replace ho54 := hE69.ow ho54
      replace ho64 := hE69.ow ho64
      clear hE69
      clear hsz70
      obtain rfl := hP3_28
      refine WL_val (dd := some 47) rfl rfl rfl (r_pick_t rfl (v := .bool _) rfl) ?_
      refine WL_val (dd := some 0) rfl rfl rfl (r_assign (v := .bool _) rfl) ?_
      refine WL_nil ?_
      refine hK34 _ _ ?_
      clear hK34 K33
      refine WC_ret ?_
      repeat (first | refine thenQ_ret ?_ | refine blockQ_ret ?_)
      refine ret_t (v := .bool _) rfl ?_
      refine ⟨hB, ?_⟩
      exact congrArg Value.bool (by decide +kernel)
     ·
      try with_reducible replace hs3_26 := of_decide_eq_false hs3_26
      first | exact absurd (by decide +kernel) hs3_26 | exact absurd hs3_26 (by decide +kernel)
    ·
     try with_reducible replace hs3_20 := of_decide_eq_false hs3_20
     first | exact absurd (by decide +kernel) hs3_20 | exact absurd hs3_20 (by decide +kernel)
   ·
    try with_reducible replace hs3_15 := of_decide_eq_false hs3_15
    first | exact absurd (by decide +kernel) hs3_15 | exact absurd hs3_15 (by decide +kernel)
  ·
   try with_reducible replace hs3_7 := of_decide_eq_false hs3_7
   first | exact absurd (by decide +kernel) hs3_7 | exact absurd hs3_7 (by decide +kernel)
 ·
  try with_reducible replace hs3_2 := of_decide_eq_false hs3_2
  first | exact absurd (by decide +kernel) hs3_2 | exact absurd hs3_2 (by decide +kernel)

theorem C_drawknifelaw13_Great (n : Int) (rv : Value) (vs : List Value) (L : List (List Int)) (w : World) (hrv : SlT encV 1 w rv vs) (hll : LL w vs L) (hvm : vs.length ≤ 9223372036854775807) :
    Fn Try.prog 45 #[.agg #[.int .i64 n, rv]] w fun v w' => v = .bool (greatM L) := by
 refine Fn_intro (n := 22) Try.func45 rfl rfl (Nat.le_of_ble_eq_true rfl) ?_
 have hB : Below w.heap.size w w := Below.refl _ _
 have hvl := hll.len
 refine WC_seq (fun K1 hK2 => ?_)
 refine WC_region ?_
 refine WL_step (dd := some 1) rfl rfl rfl (Y_box (c := #[_, _]) rfl rfl (fun b0_0 W3 hb4 hE5 hm0_0 => ?_))
 have lo_b0_0 : w.heap.size ≤ b0_0 := hb4 ▸ (Below.size hB)
 clear hb4
 replace hB := below_ext hB hE5 (Nat.le_refl _)
 clear hE5
 refine WL_val (dd := some 2) rfl rfl rfl (r_assign (v := .bool false) rfl) ?_
 refine WL_nil ?_
 refine hK2 _ _ ?_
 clear hK2 K1
 refine WC_seq (fun K6 hK7 => ?_)
 refine WC_seq (fun K8 hK9 => ?_)
 refine WC_region ?_
 refine WL_val (dd := some 3) rfl rfl rfl (r_assign (v := .int .i64 0) rfl) ?_
 refine WL_nil ?_
 refine hK9 _ _ ?_
 clear hK9 K8
 refine WC_block ?_
 refine WC_loop (σ := (Nat)) [2, 3, 4, 5, 6, 7, 8, 9, 10, 11, 12, 13, 14, 15, 16, 17] (fun i => [(3, .int .i64 (i : Int))]) (fun i W => (Below w.heap.size w W) ∧ (At W b0_0 _ 56) ∧ (i ≤ L.length) ∧ (greatTo L i = false) ∧ (True)) (fun i => L.length - i) (0) ⟨rfl, trivial⟩ ⟨hB, hm0_0, (Nat.zero_le _), rfl, trivial⟩ ?_
 clear hB hm0_0
 rintro i g11 W10 ⟨hB, hm0_0, hi, hq, _⟩ J12 hJ13
 refine WC_seq (fun K14 hK15 => ?_)
 refine WC_seq (fun K16 hK17 => ?_)
 refine WC_region ?_
 refine WL_val (dd := some 4) rfl rfl rfl (r_move (v := .int .i64 _) rfl) ?_
 refine WL_val (dd := some 5) rfl rfl rfl (r_fieldAddr (b := _) (o := _) rfl tb_fo56_1) ?_
 refine WL_val (dd := some 6) rfl rfl rfl (r_load1 (v := rv) rfl tb_sc54 (At.cell hm0_0 rfl)) ?_
 refine WL_val (dd := some 7) rfl rfl rfl (r_lenS (v := rv) rfl (Below.slT hB hrv) tb_el54) ?_
 refine WL_val (dd := some 8) rfl rfl rfl (r_lss rfl rfl) ?_
 refine WL_nil ?_
 refine hK17 _ _ ?_
 clear hK17 K16
 refine WC_cond (b := _) rfl (fun hc0 => ?_) (fun hc0 => ?_)
 ·
  try with_reducible replace hc0 := of_decide_eq_true hc0
  refine WC_skip ?_
  refine hK15 _ _ ?_
  clear hK15 K14
  refine WC_seq (fun K18 hK19 => ?_)
  refine WC_block ?_
  refine WC_seq (fun K20 hK21 => ?_)
  refine WC_region ?_
  refine WL_val (dd := some 11) rfl rfl rfl (r_fieldAddr (b := _) (o := _) rfl tb_fo56_1) ?_
  refine WL_val (dd := some 12) rfl rfl rfl (r_load1 (v := rv) rfl tb_sc54 (At.cell hm0_0 rfl)) ?_
  refine WL_val (dd := some 13) rfl rfl rfl (r_move (v := .int .i64 _) rfl) ?_
  refine WL_val (dd := some 14) rfl rfl rfl (r_idxS (v := rv) rfl (Below.slT hB hrv) rfl tb_el54 (by omega) (by first | omega | (simp only [flagsTo_len, litsTo_len, firstF_len, ptF_len, setF_len]; omega))) ?_
  refine WL_val (dd := some 15) rfl rfl rfl (r_load1 (v := (vs.getD i undef)) rfl tb_sc57 (SlT.cell (Below.slT hB hrv) encV_len undef (by omega) (by first | omega | (simp only [flagsTo_len, litsTo_len, firstF_len, ptF_len, setF_len]; omega)) 0 rfl)) ?_
  have hp4_4 : SlT encI 1 w ((vs.getD i undef)) (L.getD i []) := hll.get i (by omega)
  refine WL_val (dd := some 16) rfl rfl rfl (r_lenS (v := (vs.getD i undef)) rfl (Below.slT hB hp4_4) tb_el57) ?_
  refine WL_val (dd := some 17) rfl rfl rfl (r_gtr rfl rfl) ?_
  refine WL_nil ?_
  refine hK21 _ _ ?_
  clear hK21 K20
  refine WC_cond (b := _) rfl (fun hc1 => ?_) (fun hc1 => ?_)
  ·
   try with_reducible replace hc1 := of_decide_eq_true hc1
   refine WC_seq (fun K22 hK23 => ?_)
   refine WC_region ?_
   refine WL_val (dd := some 2) rfl rfl rfl (r_assign (v := .bool true) rfl) ?_
   refine WL_nil ?_
   refine hK23 _ _ ?_
   clear hK23 K22
   refine WC_ret ?_
   repeat (first | refine thenQ_ret ?_ | refine blockQ_ret ?_)
   try clear hK19 K18
   try clear hJ13 J12
   try clear hK7 K6
   refine ret_t (v := .bool true) rfl ?_
   refine ⟨hB, ?_⟩
   exact gm_t (k := i) (by omega) hc1
  ·
   try with_reducible replace hc1 := of_decide_eq_false hc1
   refine WC_skip ?_
   refine hK19 _ _ ?_
   clear hK19 K18
   refine WC_region ?_
   refine WL_val (dd := some 9) rfl rfl rfl (r_move (v := .int .i64 _) rfl) ?_
   refine WL_val (dd := some 10) rfl rfl rfl (r_addI rfl rfl (by omega) (by omega)) ?_
   refine WL_val (dd := some 3) rfl rfl rfl (r_assign (v := .int .i64 _) rfl) ?_
   refine WL_nil ?_
   refine hJ13 _ _ (i + 1) ?_ ?_ ?_ ?_
   · repeat (first | exact agree.mask _ _ _ | refine agree.updo ?_ rfl _ | refine agree.updL ?_ _ rfl | refine agree.maskS rfl ?_)
   · exact ⟨rfl, trivial⟩
   · exact ⟨hB, hm0_0, (by omega), (gt_no (by omega) hq hc1), trivial⟩
   · first | omega | (dsimp only; omega)
 ·
  try with_reducible replace hc0 := of_decide_eq_false hc0
  refine WC_exit ?_
  refine hK7 _ _ ?_
  clear hK15 K14
  clear hJ13 J12
  clear hK7 K6
  refine WC_seq (fun K24 hK25 => ?_)
  refine WC_region ?_
  refine WL_val (dd := some 18) rfl rfl rfl (r_fieldAddr (b := _) (o := _) rfl tb_fo56_1) ?_
  refine WL_val (dd := some 19) rfl rfl rfl (r_load1 (v := rv) rfl tb_sc54 (At.cell hm0_0 rfl)) ?_
  refine WL_val (dd := some 20) rfl rfl rfl (r_lenS (v := rv) rfl (Below.slT hB hrv) tb_el54) ?_
  refine WL_val (dd := some 21) rfl rfl rfl (r_gtr rfl rfl) ?_
  refine WL_val (dd := some 2) rfl rfl rfl (r_assign (v := .bool _) rfl) ?_
  refine WL_nil ?_
  refine hK25 _ _ ?_
  clear hK25 K24
  refine WC_ret ?_
  repeat (first | refine thenQ_ret ?_ | refine blockQ_ret ?_)
  refine ret_t (v := .bool _) rfl ?_
  refine ⟨hB, ?_⟩
  exact gm_e (k := i) (by omega) hvl hq

theorem C_drawknifelaw13_great (S : Sp) (onV mayV : Value) (xa : Value) (l : List Rw) (w : World) (hon : SlT encS 4 w onV S.on) (hmay : SlT encS 4 w mayV S.may) (hl : SlT encR 3 w xa l) :
    Fn Try.prog 51 #[.agg #[.int .i64 S.n, onV, mayV], xa] w fun v w' => v = .bool (great13 S l) := by
 refine Fn_intro (n := 20) Try.func51 rfl rfl (Nat.le_of_ble_eq_true rfl) ?_
 have hB : Below w.heap.size w w := Below.refl _ _
 refine WC_seq (fun K1 hK2 => ?_)
 refine WC_region ?_
 refine WL_step (dd := some 2) rfl rfl rfl (Y_box (c := #[_, _, _]) rfl rfl (fun b0_0 W3 hb4 hE5 hm0_0 => ?_))
 have lo_b0_0 : w.heap.size ≤ b0_0 := hb4 ▸ (Below.size hB)
 clear hb4
 replace hB := below_ext hB hE5 (Nat.le_refl _)
 clear hE5
 refine WL_val (dd := some 4) rfl rfl rfl (r_assign (v := .bool false) rfl) ?_
 refine WL_nil ?_
 refine hK2 _ _ ?_
 clear hK2 K1
 refine WC_seq (fun K6 hK7 => ?_)
 refine WC_region ?_
 refine WL_val (dd := some 5) rfl rfl rfl (r_fieldAddr (b := _) (o := _) rfl tb_fo64_1) ?_
 refine WL_val (dd := some 6) rfl rfl rfl (r_load1 (v := onV) rfl tb_sc62 (At.cell hm0_0 rfl)) ?_
 refine WL_val (dd := some 7) rfl rfl rfl (r_lenS (v := onV) rfl (Below.slT hB hon) tb_el62) ?_
 refine WL_val (dd := some 8) rfl rfl rfl (r_gtr rfl rfl) ?_
 refine WL_split (dd := some 9) rfl rfl rfl (r_move (v := .bool _) rfl) (fun hs1_4 => ?_) (fun hs1_4 => ?_)
 ·
  try with_reducible replace hs1_4 := of_decide_eq_true hs1_4
  refine WL_skip (dd := some 10) rfl rfl rfl ?_
  refine WL_skip (dd := some 11) rfl rfl rfl ?_
  refine WL_skip (dd := some 12) rfl rfl rfl ?_
  refine WL_skip (dd := some 13) rfl rfl rfl ?_
  refine WL_val (dd := some 14) rfl rfl rfl (r_pick_t rfl (v := .bool true) rfl) ?_
  refine WL_val (dd := some 15) rfl rfl rfl (r_move (v := .bool true) rfl) ?_
  refine WL_skip (dd := some 16) rfl rfl rfl ?_
  refine WL_skip (dd := some 17) rfl rfl rfl ?_
  refine WL_skip (dd := some 18) rfl rfl rfl ?_
  refine WL_val (dd := some 19) rfl rfl rfl (r_pick_t rfl (v := .bool true) rfl) ?_
  refine WL_val (dd := some 4) rfl rfl rfl (r_assign (v := .bool true) rfl) ?_
  refine WL_nil ?_
  refine hK7 _ _ ?_
  clear hK7 K6
  refine WC_ret ?_
  repeat (first | refine thenQ_ret ?_ | refine blockQ_ret ?_)
  refine ret_t (v := .bool true) rfl ?_
  refine ⟨hB, ?_⟩
  first | exact congrArg Value.bool (g13_1 hs1_4) | exact congrArg Value.bool (g13_2 hs1_10) | exact congrArg Value.bool (g13_3 hs1_4 hs1_10)
 ·
  try with_reducible replace hs1_4 := of_decide_eq_false hs1_4
  refine WL_val (dd := some 10) rfl rfl rfl (r_fieldAddr (b := _) (o := _) rfl tb_fo64_2) ?_
  refine WL_val (dd := some 11) rfl rfl rfl (r_load1 (v := mayV) rfl tb_sc62 (At.cell hm0_0 rfl)) ?_
  refine WL_val (dd := some 12) rfl rfl rfl (r_lenS (v := mayV) rfl (Below.slT hB hmay) tb_el62) ?_
  refine WL_val (dd := some 13) rfl rfl rfl (r_gtr rfl rfl) ?_
  refine WL_val (dd := some 14) rfl rfl rfl (r_pick_f rfl (v := .bool _) rfl) ?_
  refine WL_split (dd := some 15) rfl rfl rfl (r_move (v := .bool _) rfl) (fun hs1_10 => ?_) (fun hs1_10 => ?_)
  ·
   try with_reducible replace hs1_10 := of_decide_eq_true hs1_10
   refine WL_skip (dd := some 16) rfl rfl rfl ?_
   refine WL_skip (dd := some 17) rfl rfl rfl ?_
   refine WL_skip (dd := some 18) rfl rfl rfl ?_
   refine WL_val (dd := some 19) rfl rfl rfl (r_pick_t rfl (v := .bool true) rfl) ?_
   refine WL_val (dd := some 4) rfl rfl rfl (r_assign (v := .bool true) rfl) ?_
   refine WL_nil ?_
   refine hK7 _ _ ?_
   clear hK7 K6
   refine WC_ret ?_
   repeat (first | refine thenQ_ret ?_ | refine blockQ_ret ?_)
   refine ret_t (v := .bool true) rfl ?_
   refine ⟨hB, ?_⟩
   first | exact congrArg Value.bool (g13_1 hs1_4) | exact congrArg Value.bool (g13_2 hs1_10) | exact congrArg Value.bool (g13_3 hs1_4 hs1_10)
  ·
   try with_reducible replace hs1_10 := of_decide_eq_false hs1_10
   refine WL_val (dd := some 16) rfl rfl rfl (r_move (v := xa) rfl) ?_
   refine WL_val (dd := some 17) rfl rfl rfl (r_lenS (v := xa) rfl (Below.slT hB hl) tb_el65) ?_
   refine WL_val (dd := some 18) rfl rfl rfl (r_gtr rfl rfl) ?_
   refine WL_val (dd := some 19) rfl rfl rfl (r_pick_f rfl (v := .bool _) rfl) ?_
   refine WL_val (dd := some 4) rfl rfl rfl (r_assign (v := .bool _) rfl) ?_
   refine WL_nil ?_
   refine hK7 _ _ ?_
   clear hK7 K6
   refine WC_ret ?_
   repeat (first | refine thenQ_ret ?_ | refine blockQ_ret ?_)
   refine ret_t (v := .bool _) rfl ?_
   refine ⟨hB, ?_⟩
   first | exact congrArg Value.bool (g13_1 hs1_4) | exact congrArg Value.bool (g13_2 hs1_10) | exact congrArg Value.bool (g13_3 hs1_4 hs1_10)

set_option maxRecDepth 10000 in
theorem C_drawknifelaw13_CoverRights (n : Int) (rv : Value) (vs : List Value) (L : List (List Int)) (xc : Value) (cols : List Int) (w : World) (hrv : SlT encV 1 w rv vs) (hll : LL w vs L) (hvm : vs.length ≤ 9223372036854775807) (hc : SlT encI 1 w xc cols) :
    Fn Try.prog 10 #[.agg #[.int .i64 n, rv], xc] w fun v w' => v = .bool true := by
 refine Fn_intro (n := 39) Try.func10 rfl rfl (Nat.le_of_ble_eq_true rfl) ?_
 have hB : Below w.heap.size w w := Below.refl _ _
 refine WC_seq (fun K1 hK2 => ?_)
 refine WC_region ?_
 refine WL_step (dd := some 2) rfl rfl rfl (Y_box (c := #[_, _]) rfl rfl (fun b0_0 W3 hb4 hE5 hm0_0 => ?_))
 have lo_b0_0 : w.heap.size ≤ b0_0 := hb4 ▸ (Below.size hB)
 clear hb4
 replace hB := below_ext hB hE5 (Nat.le_refl _)
 clear hE5
 refine WL_val (dd := some 4) rfl rfl rfl (r_assign (v := .bool false) rfl) ?_
 refine WL_nil ?_
 refine hK2 _ _ ?_
 clear hK2 K1
 refine WC_seq (fun K6 hK7 => ?_)
 refine WC_seq (fun K8 hK9 => ?_)
 refine WC_region ?_
 refine WL_val (dd := some 6) rfl rfl rfl (r_loadW rfl tb_ag56 rfl hm0_0) ?_
 refine WL_call (dd := some 7) rfl rfl rfl (r_call1 tb_c45 (v0 := .agg #[_, _]) rfl) (C_drawknifelaw13_Great n _ vs L _ (Below.slT hB hrv) (LL.below hB hll) hvm) (fun v1_1 W10 hE11 hP1_1 => ?_)
 have hsz12 := (Below.size hB)
 replace hB := below_ext hB hE11 (Nat.le_refl _)
 replace hm0_0 := hE11.at hm0_0
 clear hE11
 clear hsz12
 obtain rfl := hP1_1
 refine WL_split (dd := some 8) rfl rfl rfl (r_move (v := .bool _) rfl) (fun hs1_2 => ?_) (fun hs1_2 => ?_)
 ·
  try with_reducible replace hs1_2 := of_decide_eq_true hs1_2
  refine WL_skip (dd := some 9) rfl rfl rfl ?_
  refine WL_skip (dd := some 10) rfl rfl rfl ?_
  refine WL_skip (dd := some 11) rfl rfl rfl ?_
  refine WL_val (dd := some 12) rfl rfl rfl (r_pick_t rfl (v := .bool true) rfl) ?_
  refine WL_nil ?_
  refine hK9 _ _ ?_
  clear hK9 K8
  refine WC_cond_true rfl ?_
  refine WC_seq (fun K13 hK14 => ?_)
  refine WC_region ?_
  refine WL_call (dd := some 13) rfl rfl rfl (r_call0 tb_c46) (C_drawknifelaw13_knows _) (fun v2_0 W15 hE16 hP2_0 => ?_)
  have hsz17 := (Below.size hB)
  replace hB := below_ext hB hE16 (Nat.le_refl _)
  replace hm0_0 := hE16.at hm0_0
  clear hE16
  clear hsz17
  obtain rfl := hP2_0
  refine WL_val (dd := some 4) rfl rfl rfl (r_assign (v := .bool _) rfl) ?_
  refine WL_nil ?_
  refine hK14 _ _ ?_
  clear hK14 K13
  refine WC_ret ?_
  repeat (first | refine thenQ_ret ?_ | refine blockQ_ret ?_)
  try clear hK7 K6
  refine ret_t (v := .bool _) rfl ?_
  refine ⟨hB, ?_⟩
  rfl
 ·
  try with_reducible replace hs1_2 := of_decide_eq_false hs1_2
  refine WL_val (dd := some 9) rfl rfl rfl (r_move (v := xc) rfl) ?_
  refine WL_val (dd := some 10) rfl rfl rfl (r_lenS (v := xc) rfl (Below.slT hB hc) tb_el57) ?_
  refine WL_val (dd := some 11) rfl rfl rfl (r_gtr rfl rfl) ?_
  refine WL_val (dd := some 12) rfl rfl rfl (r_pick_f rfl (v := .bool _) rfl) ?_
  refine WL_nil ?_
  refine hK9 _ _ ?_
  clear hK9 K8
  refine WC_cond (b := _) rfl (fun hc0 => ?_) (fun hc0 => ?_)
  ·
   try with_reducible replace hc0 := of_decide_eq_true hc0
   refine WC_seq (fun K18 hK19 => ?_)
   refine WC_region ?_
   refine WL_call (dd := some 13) rfl rfl rfl (r_call0 tb_c46) (C_drawknifelaw13_knows _) (fun v2_0 W20 hE21 hP2_0 => ?_)
   have hsz22 := (Below.size hB)
   replace hB := below_ext hB hE21 (Nat.le_refl _)
   replace hm0_0 := hE21.at hm0_0
   clear hE21
   clear hsz22
   obtain rfl := hP2_0
   refine WL_val (dd := some 4) rfl rfl rfl (r_assign (v := .bool _) rfl) ?_
   refine WL_nil ?_
   refine hK19 _ _ ?_
   clear hK19 K18
   refine WC_ret ?_
   repeat (first | refine thenQ_ret ?_ | refine blockQ_ret ?_)
   try clear hK7 K6
   refine ret_t (v := .bool _) rfl ?_
   refine ⟨hB, ?_⟩
   rfl
  ·
   try with_reducible replace hc0 := of_decide_eq_false hc0
   refine WC_skip ?_
   refine hK7 _ _ ?_
   clear hK7 K6
   refine WC_seq (fun K23 hK24 => ?_)
   obtain ⟨hLb, hRb⟩ := gm_no hs1_2
   refine WC_region ?_
   refine WL_val (dd := some 14) rfl rfl rfl (r_fieldAddr (b := _) (o := _) rfl tb_fo56_0) ?_
   refine WL_val (dd := some 15) rfl rfl rfl (r_load1 (v := .int .i64 _) rfl tb_sc3 (At.cell hm0_0 rfl)) ?_
   refine WL_val (dd := some 16) rfl rfl rfl (r_fieldAddr (b := _) (o := _) rfl tb_fo56_1) ?_
   refine WL_val (dd := some 17) rfl rfl rfl (r_load1 (v := rv) rfl tb_sc54 (At.cell hm0_0 rfl)) ?_
   refine WL_call (dd := some 18) rfl rfl rfl (r_call2 tb_c47 (v0 := .int .i64 _) rfl (v1 := rv) rfl) (C_drawkniferef13_Right n _ vs L _ (Below.slT hB hrv) (LL.below hB hll) hLb hRb) (fun v3_4 W25 hE26 hP3_4 => ?_)
   have hsz27 := (Below.size hB)
   replace hB := below_ext hB hE26 (Nat.le_refl _)
   replace hm0_0 := hE26.at hm0_0
   clear hE26
   clear hsz27
   obtain rfl := hP3_4
   refine WL_val (dd := some 5) rfl rfl rfl (r_assign (v := .bool _) rfl) ?_
   refine WL_nil ?_
   refine hK24 _ _ ?_
   clear hK24 K23
   refine WC_seq (fun K28 hK29 => ?_)
   refine WC_region ?_
   refine WL_val (dd := some 19) rfl rfl rfl (r_loadW rfl tb_ag56 rfl hm0_0) ?_
   refine WL_call (dd := some 20) rfl rfl rfl (r_call1 tb_c48 (v0 := .agg #[_, _]) rfl) (C_cover_Right n _ vs L _ (Below.slT hB hrv) (LL.below hB hll) hLb hRb) (fun v4_1 W30 hE31 hP4_1 => ?_)
   have hsz32 := (Below.size hB)
   replace hB := below_ext hB hE31 (Nat.le_refl _)
   replace hm0_0 := hE31.at hm0_0
   clear hE31
   clear hsz32
   obtain rfl := hP4_1
   refine WL_val (dd := some 21) rfl rfl rfl (r_move (v := .bool _) rfl) ?_
   refine WL_val (dd := some 22) rfl rfl rfl (r_eqlB rfl rfl Try.underlying4) ?_
   refine WL_split (dd := some 23) rfl rfl rfl (r_move (v := .bool _) rfl) (fun hs4_4 => ?_) (fun hs4_4 => ?_)
   ·
    try with_reducible replace hs4_4 := of_decide_eq_true hs4_4
    refine WL_val (dd := some 24) rfl rfl rfl (r_loadW rfl tb_ag56 rfl hm0_0) ?_
    refine WL_val (dd := some 25) rfl rfl rfl (r_move (v := xc) rfl) ?_
    refine WL_call (dd := some 26) rfl rfl rfl (r_call2 tb_c49 (v0 := .agg #[_, _]) rfl (v1 := xc) rfl) (C_cover_Solves n _ vs L _ cols _ (Below.slT hB hrv) (LL.below hB hll) hLb hRb (Below.slT hB hc) (by omega)) (fun v4_7 W33 hE34 hP4_7 => ?_)
    have hsz35 := (Below.size hB)
    replace hB := below_ext hB hE34 (Nat.le_refl _)
    replace hm0_0 := hE34.at hm0_0
    clear hE34
    clear hsz35
    obtain rfl := hP4_7
    refine WL_val (dd := some 27) rfl rfl rfl (r_move (v := .bool _) rfl) ?_
    refine WL_split (dd := some 28) rfl rfl rfl (r_move (v := .bool _) rfl) (fun hs4_9 => ?_) (fun hs4_9 => ?_)
    ·
     try with_reducible replace hs4_9 := of_decide_eq_true hs4_9
     refine WL_val (dd := some 29) rfl rfl rfl (r_fieldAddr (b := _) (o := _) rfl tb_fo56_1) ?_
     refine WL_val (dd := some 30) rfl rfl rfl (r_load1 (v := rv) rfl tb_sc54 (At.cell hm0_0 rfl)) ?_
     refine WL_val (dd := some 31) rfl rfl rfl (r_move (v := xc) rfl) ?_
     refine WL_call (dd := some 32) rfl rfl rfl (r_call2 tb_c50 (v0 := rv) rfl (v1 := xc) rfl) (C_drawkniferef13_Solves _ vs L _ cols _ (Below.slT hB hrv) (LL.below hB hll) hLb hRb (Below.slT hB hc) (by omega)) (fun v4_13 W36 hE37 hP4_13 => ?_)
     have hsz38 := (Below.size hB)
     replace hB := below_ext hB hE37 (Nat.le_refl _)
     replace hm0_0 := hE37.at hm0_0
     clear hE37
     clear hsz38
     obtain rfl := hP4_13
     refine WL_val (dd := some 33) rfl rfl rfl (r_pick_t rfl (v := .bool _) rfl) ?_
     refine WL_val (dd := some 34) rfl rfl rfl (r_eqlB rfl rfl Try.underlying4) ?_
     refine WL_val (dd := some 35) rfl rfl rfl (r_pick_t rfl (v := .bool _) rfl) ?_
     refine WL_split (dd := some 36) rfl rfl rfl (r_move (v := .bool _) rfl) (fun hs4_17 => ?_) (fun hs4_17 => ?_)
     ·
      try with_reducible replace hs4_17 := of_decide_eq_true hs4_17
      refine WL_call (dd := some 37) rfl rfl rfl (r_call0 tb_c46) (C_drawknifelaw13_knows _) (fun v4_18 W39 hE40 hP4_18 => ?_)
      have hsz41 := (Below.size hB)
      replace hB := below_ext hB hE40 (Nat.le_refl _)
      replace hm0_0 := hE40.at hm0_0
      clear hE40
      clear hsz41
      obtain rfl := hP4_18
      refine WL_val (dd := some 38) rfl rfl rfl (r_pick_t rfl (v := .bool _) rfl) ?_
      refine WL_val (dd := some 4) rfl rfl rfl (r_assign (v := .bool _) rfl) ?_
      refine WL_nil ?_
      refine hK29 _ _ ?_
      clear hK29 K28
      refine WC_ret ?_
      repeat (first | refine thenQ_ret ?_ | refine blockQ_ret ?_)
      refine ret_t (v := .bool _) rfl ?_
      refine ⟨hB, ?_⟩
      rfl
     ·
      try with_reducible replace hs4_17 := of_decide_eq_false hs4_17
      exact absurd (by rw [hs4_9]; rfl) hs4_17
    ·
     try with_reducible replace hs4_9 := of_decide_eq_false hs4_9
     refine WL_skip (dd := some 29) rfl rfl rfl ?_
     refine WL_skip (dd := some 30) rfl rfl rfl ?_
     refine WL_skip (dd := some 31) rfl rfl rfl ?_
     refine WL_skip (dd := some 32) rfl rfl rfl ?_
     refine WL_val (dd := some 33) rfl rfl rfl (r_pick_f rfl (v := .bool false) rfl) ?_
     refine WL_val (dd := some 34) rfl rfl rfl (r_eqlB rfl rfl Try.underlying4) ?_
     refine WL_val (dd := some 35) rfl rfl rfl (r_pick_t rfl (v := .bool _) rfl) ?_
     refine WL_split (dd := some 36) rfl rfl rfl (r_move (v := .bool _) rfl) (fun hs4_17 => ?_) (fun hs4_17 => ?_)
     ·
      try with_reducible replace hs4_17 := of_decide_eq_true hs4_17
      refine WL_call (dd := some 37) rfl rfl rfl (r_call0 tb_c46) (C_drawknifelaw13_knows _) (fun v4_18 W42 hE43 hP4_18 => ?_)
      have hsz44 := (Below.size hB)
      replace hB := below_ext hB hE43 (Nat.le_refl _)
      replace hm0_0 := hE43.at hm0_0
      clear hE43
      clear hsz44
      obtain rfl := hP4_18
      refine WL_val (dd := some 38) rfl rfl rfl (r_pick_t rfl (v := .bool _) rfl) ?_
      refine WL_val (dd := some 4) rfl rfl rfl (r_assign (v := .bool _) rfl) ?_
      refine WL_nil ?_
      refine hK29 _ _ ?_
      clear hK29 K28
      refine WC_ret ?_
      repeat (first | refine thenQ_ret ?_ | refine blockQ_ret ?_)
      refine ret_t (v := .bool _) rfl ?_
      refine ⟨hB, ?_⟩
      rfl
     ·
      try with_reducible replace hs4_17 := of_decide_eq_false hs4_17
      exact absurd (by rw [hs4_9]; rfl) hs4_17
   ·
    try with_reducible replace hs4_4 := of_decide_eq_false hs4_4
    exact absurd rfl hs4_4

set_option maxRecDepth 10000 in
theorem C_drawknifelaw13_CoverMakes (S : Sp) (onV mayV : Value) (xa : Value) (l : List Rw) (w : World) (hon : SlT encS 4 w onV S.on) (hmay : SlT encS 4 w mayV S.may) (hl : SlT encR 3 w xa l) (hlr : RowB l) :
    Fn Try.prog 11 #[.agg #[.int .i64 S.n, onV, mayV], xa] w fun v w' => v = .bool true := by
 refine Fn_intro (n := 64) Try.func11 rfl rfl (Nat.le_of_ble_eq_true rfl) ?_
 have hB : Below w.heap.size w w := Below.refl _ _
 refine WC_seq (fun K1 hK2 => ?_)
 refine WC_region ?_
 refine WL_step (dd := some 2) rfl rfl rfl (Y_box (c := #[_, _, _]) rfl rfl (fun b0_0 W3 hb4 hE5 hm0_0 => ?_))
 have lo_b0_0 : w.heap.size ≤ b0_0 := hb4 ▸ (Below.size hB)
 clear hb4
 replace hB := below_ext hB hE5 (Nat.le_refl _)
 clear hE5
 refine WL_val (dd := some 4) rfl rfl rfl (r_assign (v := .bool false) rfl) ?_
 refine WL_nil ?_
 refine hK2 _ _ ?_
 clear hK2 K1
 refine WC_seq (fun K6 hK7 => ?_)
 refine WC_seq (fun K8 hK9 => ?_)
 refine WC_region ?_
 refine WL_val (dd := some 8) rfl rfl rfl (r_loadW rfl tb_ag64 rfl hm0_0) ?_
 refine WL_val (dd := some 9) rfl rfl rfl (r_move (v := xa) rfl) ?_
 refine WL_call (dd := some 10) rfl rfl rfl (r_call2 tb_c51 (v0 := .agg #[_, _, _]) rfl (v1 := xa) rfl) (C_drawknifelaw13_great S _ _ _ l _ (Below.slT hB hon) (Below.slT hB hmay) (Below.slT hB hl) ) (fun v1_2 W10 hE11 hP1_2 => ?_)
 have hsz12 := (Below.size hB)
 replace hB := below_ext hB hE11 (Nat.le_refl _)
 replace hm0_0 := hE11.at hm0_0
 clear hE11
 clear hsz12
 obtain rfl := hP1_2
 refine WL_nil ?_
 refine hK9 _ _ ?_
 clear hK9 K8
 refine WC_cond (b := _) rfl (fun hc0 => ?_) (fun hc0 => ?_)
 ·
  try with_reducible replace hc0 := of_decide_eq_true hc0
  refine WC_seq (fun K13 hK14 => ?_)
  refine WC_region ?_
  refine WL_call (dd := some 11) rfl rfl rfl (r_call0 tb_c46) (C_drawknifelaw13_knows _) (fun v2_0 W15 hE16 hP2_0 => ?_)
  have hsz17 := (Below.size hB)
  replace hB := below_ext hB hE16 (Nat.le_refl _)
  replace hm0_0 := hE16.at hm0_0
  clear hE16
  clear hsz17
  obtain rfl := hP2_0
  refine WL_val (dd := some 4) rfl rfl rfl (r_assign (v := .bool _) rfl) ?_
  refine WL_nil ?_
  refine hK14 _ _ ?_
  clear hK14 K13
  refine WC_ret ?_
  repeat (first | refine thenQ_ret ?_ | refine blockQ_ret ?_)
  try clear hK7 K6
  refine ret_t (v := .bool _) rfl ?_
  refine ⟨hB, ?_⟩
  rfl
 ·
  try with_reducible replace hc0 := of_decide_eq_false hc0
  refine WC_skip ?_
  refine hK7 _ _ ?_
  clear hK7 K6
  refine WC_seq (fun K18 hK19 => ?_)
  have hg := g13_no hc0
  refine WC_region ?_
  refine WL_val (dd := some 13) rfl rfl rfl (r_loadW rfl tb_ag64 rfl hm0_0) ?_
  refine WL_val (dd := some 14) rfl rfl rfl (r_move (v := xa) rfl) ?_
  refine WL_call (dd := some 15) rfl rfl rfl (r_call2 tb_c52 (v0 := .agg #[_, _, _]) rfl (v1 := xa) rfl) (C_cover_Make S _ _ _ l _ (Below.slT hB hon) (Below.slT hB hmay) (Below.slT hB hl) (by omega) hlr) (fun v3_2 W20 hE21 hP3_2 => ?_)
  have hsz22 := (Below.size hB)
  replace hB := below_ext hB hE21 (Nat.le_refl _)
  replace hm0_0 := hE21.at hm0_0
  clear hE21
  obtain ⟨mn3_2, mrv3_2, mvs3_2, mL3_2, mer3_2, rfl, hmo3_2, hml3_2, hmc3_2⟩ := make_res hP3_2
  replace hmo3_2 := OwT.mono hmo3_2 hsz22
  replace hml3_2 := LO.mono hml3_2 hsz22
  clear hsz22
  refine WL_val (dd := some 12) rfl rfl rfl (r_move (v := .tuple #[.agg #[.int .i64 _, mrv3_2], .int .i64 _]) rfl) ?_
  refine WL_val (dd := some 16) rfl rfl rfl (r_ext2_0 (h := rfl)) ?_
  refine WL_val (dd := some 17) rfl rfl rfl (r_ext2_1 (h := rfl)) ?_
  refine WL_step (dd := some 5) rfl rfl rfl (Y_alloc tb_z56 rfl (fun b3_6 W23 hb24 hE25 hm3_6 => ?_))
  have lo_b3_6 : w.heap.size ≤ b3_6 := hb24 ▸ (Below.size hB)
  clear hb24
  replace hB := below_ext hB hE25 (Nat.le_refl _)
  replace hm0_0 := hE25.at hm0_0
  replace hmo3_2 := hE25.ow hmo3_2
  replace hml3_2 := LO.ext hE25 hml3_2
  clear hE25
  refine WL_step (dd := none) rfl rfl rfl (Y_storeW rfl rfl tb_ag56 rfl hm3_6 rfl (by simp only [List.all_cons, List.all_nil, OwT.one hmo3_2, Bool.and_true]; rfl) (fun W26 hG27 hm28 => ?_))
  replace hB := below_grown hB hG27 (Nat.le_refl _) (fun j hj => by cases hj; exact lo_b3_6)
  replace hm0_0 := At.grownAt hm0_0 hm3_6 hG27 (by decide)
  replace hmo3_2 := OwT.grownAt hmo3_2 hm3_6 hG27 (by decide)
  replace hml3_2 := LO.grownAt hml3_2 hm3_6 hG27 (by decide)
  clear hG27 hm3_6
  have hm3_6 := hm28
  clear hm28
  refine WL_val (dd := some 6) rfl rfl rfl (r_assign (v := .int .i64 _) rfl) ?_
  refine WL_nil ?_
  refine hK19 _ _ ?_
  clear hK19 K18
  refine WC_seq (fun K29 hK30 => ?_)
  refine WC_region ?_
  refine WL_val (dd := some 18) rfl rfl rfl (r_loadW rfl tb_ag64 rfl hm0_0) ?_
  refine WL_val (dd := some 19) rfl rfl rfl (r_move (v := xa) rfl) ?_
  refine WL_call (dd := some 20) rfl rfl rfl (r_call2 tb_c53 (v0 := .agg #[_, _, _]) rfl (v1 := xa) rfl) (C_drawkniferef13_May S _ _ _ l _ (Below.slT hB hon) (Below.slT hB hmay) (Below.slT hB hl) (by omega) hlr) (fun v4_2 W31 hE32 hP4_2 => ?_)
  have hsz33 := (Below.size hB)
  replace hB := below_ext hB hE32 (Nat.le_refl _)
  replace hm0_0 := hE32.at hm0_0
  replace hmo3_2 := hE32.ow hmo3_2
  replace hml3_2 := LO.ext hE32 hml3_2
  replace hm3_6 := hE32.at hm3_6
  clear hE32
  clear hsz33
  obtain rfl := hP4_2
  refine WL_val (dd := some 7) rfl rfl rfl (r_assign (v := .int .i64 _) rfl) ?_
  refine WL_nil ?_
  refine hK30 _ _ ?_
  clear hK30 K29
  refine WC_seq (fun K34 hK35 => ?_)
  refine WC_seq (fun K36 hK37 => ?_)
  refine WC_region ?_
  refine WL_val (dd := some 21) rfl rfl rfl (r_move (v := .int .i64 _) rfl) ?_
  refine WL_val (dd := some 22) rfl rfl rfl (r_neq rfl rfl) ?_
  refine WL_nil ?_
  refine hK37 _ _ ?_
  clear hK37 K36
  refine WC_cond (b := _) rfl (fun hc1 => ?_) (fun hc1 => ?_)
  ·
   try with_reducible replace hc1 := of_decide_eq_true hc1
   refine WC_seq (fun K38 hK39 => ?_)
   obtain ⟨-, h1, h2, h3⟩ := hmc3_2.resolve_left (fun h => hc1 h.1)
   subst h1 h2 h3
   have hvl : mvs3_2.length = 0 := hml3_2.len
   refine WC_region ?_
   refine WL_val (dd := some 23) rfl rfl rfl (r_fieldAddr (b := _) (o := _) rfl tb_fo56_0) ?_
   refine WL_val (dd := some 24) rfl rfl rfl (r_load1 (v := .int .i64 _) rfl tb_sc3 (At.cell hm3_6 rfl)) ?_
   refine WL_val (dd := some 25) rfl rfl rfl (r_eql rfl rfl) ?_
   refine WL_split (dd := some 26) rfl rfl rfl (r_move (v := .bool _) rfl) (fun hs6_3 => ?_) (fun hs6_3 => ?_)
   ·
    try with_reducible replace hs6_3 := of_decide_eq_true hs6_3
    refine WL_val (dd := some 27) rfl rfl rfl (r_fieldAddr (b := _) (o := _) rfl tb_fo56_1) ?_
    refine WL_val (dd := some 28) rfl rfl rfl (r_load1 (v := mrv3_2) rfl tb_sc54 (At.cell hm3_6 rfl)) ?_
    refine WL_val (dd := some 29) rfl rfl rfl (r_lenS (v := mrv3_2) rfl hmo3_2.sl tb_el54) ?_
    refine WL_val (dd := some 30) rfl rfl rfl (r_eql rfl rfl) ?_
    refine WL_val (dd := some 31) rfl rfl rfl (r_pick_t rfl (v := .bool _) rfl) ?_
    refine WL_split (dd := some 32) rfl rfl rfl (r_move (v := .bool _) rfl) (fun hs6_9 => ?_) (fun hs6_9 => ?_)
    ·
     try with_reducible replace hs6_9 := of_decide_eq_true hs6_9
     refine WL_val (dd := some 33) rfl rfl rfl (r_move (v := .int .i64 _) rfl) ?_
     refine WL_val (dd := some 34) rfl rfl rfl (r_move (v := .int .i64 _) rfl) ?_
     refine WL_val (dd := some 35) rfl rfl rfl (r_eql rfl rfl) ?_
     refine WL_val (dd := some 36) rfl rfl rfl (r_pick_t rfl (v := .bool _) rfl) ?_
     refine WL_split (dd := some 37) rfl rfl rfl (r_move (v := .bool _) rfl) (fun hs6_14 => ?_) (fun hs6_14 => ?_)
     ·
      try with_reducible replace hs6_14 := of_decide_eq_true hs6_14
      refine WL_call (dd := some 38) rfl rfl rfl (r_call0 tb_c46) (C_drawknifelaw13_knows _) (fun v6_15 W40 hE41 hP6_15 => ?_)
      have hsz42 := (Below.size hB)
      replace hB := below_ext hB hE41 (Nat.le_refl _)
      replace hm0_0 := hE41.at hm0_0
      replace hmo3_2 := hE41.ow hmo3_2
      replace hml3_2 := LO.ext hE41 hml3_2
      replace hm3_6 := hE41.at hm3_6
      clear hE41
      clear hsz42
      obtain rfl := hP6_15
      refine WL_val (dd := some 39) rfl rfl rfl (r_pick_t rfl (v := .bool _) rfl) ?_
      refine WL_val (dd := some 4) rfl rfl rfl (r_assign (v := .bool _) rfl) ?_
      refine WL_nil ?_
      refine hK39 _ _ ?_
      clear hK39 K38
      refine WC_ret ?_
      repeat (first | refine thenQ_ret ?_ | refine blockQ_ret ?_)
      try clear hK35 K34
      refine ret_t (v := .bool _) rfl ?_
      refine ⟨hB, ?_⟩
      rfl
     ·
      try with_reducible replace hs6_14 := of_decide_eq_false hs6_14
      exact absurd rfl hs6_14
    ·
     try with_reducible replace hs6_9 := of_decide_eq_false hs6_9
     exact absurd (by rw [hvl]; rfl) hs6_9
   ·
    try with_reducible replace hs6_3 := of_decide_eq_false hs6_3
    exact absurd rfl hs6_3
  ·
   try with_reducible replace hc1 := of_decide_eq_false hc1
   refine WC_skip ?_
   refine hK35 _ _ ?_
   clear hK35 K34
   refine WC_seq (fun K43 hK44 => ?_)
   have hm0 : mayM S l = 0 := by omega
   obtain ⟨-, h1, h2, h3⟩ := hmc3_2.resolve_right (fun h => h.1 hm0)
   subst h1 h2 h3
   have hr := may_right hm0
   have hrl1 : (rowsA S l).length ≤ 1000000 := by have := rowsA_len S l; have := rows_lim (l := l) hr; omega
   have hrl2 : ∀ i, ((rowsA S l).getD i []).length ≤ 1000000 := fun i => by have := rows_len (S := S) (l := l) i; omega
   have hrr := rows_right (S := S) (l := l) (by omega)
   refine WC_draw Ext tb_mix (fun W45 hE46 => ?_)
   replace hB := below_ext hB hE46 (Nat.le_refl _)
   replace hm0_0 := hE46.at hm0_0
   replace hmo3_2 := hE46.ow hmo3_2
   replace hml3_2 := LO.ext hE46 hml3_2
   replace hm3_6 := hE46.at hm3_6
   have hS := Ext.refl W45
   refine WT_take (dd := some 40) 0 rfl (by kernel_rfl) (by kernel_rfl) (by kernel_rfl) rfl rfl rfl (fun _wq _hq => r_fieldAddr (b := _) (o := _) rfl tb_fo56_0) hS ?_
   refine WT_take (dd := some 41) 1 rfl (by kernel_rfl) (by kernel_rfl) (by kernel_rfl) rfl rfl rfl (fun _wq hq => r_load1 (v := .int .i64 _) rfl tb_sc3 (At.cell (hq.at hm3_6) rfl)) hS ?_
   refine WT_take (dd := some 42) 2 rfl (by kernel_rfl) (by kernel_rfl) (by kernel_rfl) rfl rfl rfl (fun _wq _hq => r_move (v := xa) rfl) hS ?_
   refine WT_take (dd := some 43) 3 rfl (by kernel_rfl) (by kernel_rfl) (by kernel_rfl) rfl rfl rfl (fun _wq hq => r_lenS (v := xa) rfl (hq.slT (Below.slT hB hl)) tb_el65) hS ?_
   refine WT_take (dd := some 44) 4 rfl (by kernel_rfl) (by kernel_rfl) (by kernel_rfl) rfl rfl rfl (fun _wq _hq => r_eql rfl rfl) hS ?_
   refine WT_split (dd := some 45) 5 rfl (by kernel_rfl) (by kernel_rfl) (by kernel_rfl) rfl rfl rfl (fun wq hq => r_move (v := .bool _) rfl) hS (fun hs7_5 => ?_) (fun hs7_5 => ?_)
   ·
    try with_reducible replace hs7_5 := of_decide_eq_true hs7_5
    refine WT_take (dd := some 46) 6 rfl (by kernel_rfl) (by kernel_rfl) (by kernel_rfl) rfl rfl rfl (fun _wq _hq => r_fieldAddr (b := _) (o := _) rfl tb_fo56_1) hS ?_
    refine WT_take (dd := some 47) 7 rfl (by kernel_rfl) (by kernel_rfl) (by kernel_rfl) rfl rfl rfl (fun _wq hq => r_load1 (v := mrv3_2) rfl tb_sc54 (At.cell (hq.at hm3_6) rfl)) hS ?_
    refine WT_take (dd := some 48) 8 rfl (by kernel_rfl) (by kernel_rfl) (by kernel_rfl) rfl rfl rfl (fun _wq hq => r_loadW rfl tb_ag64 rfl (hq.at hm0_0)) hS ?_
    refine WT_take (dd := some 49) 9 rfl (by kernel_rfl) (by kernel_rfl) (by kernel_rfl) rfl rfl rfl (fun _wq _hq => r_move (v := xa) rfl) hS ?_
    refine WT_one (dd := some 50) 10 (by kernel_rfl) rfl rfl rfl rfl (Yd.call (r_call2 tb_c55 (v0 := .agg #[_, _, _]) rfl (v1 := xa) rfl) (C_drawkniferef13_Rows S _ _ _ l _ (Below.slT hB hon) (Below.slT hB hmay) (Below.slT hB hl) (by omega) hlr hr (by omega)) (fun v7_10 W47 hE48 hP7_10 => ⟨.inl (hS.trans hE48), ?_⟩))
    have hlt49 := OwT.lt2 hmo3_2
    have hsz50 := (Below.size hB)
    have sv51_hB := hB
    have sv51_hm0_0 := hm0_0
    have sv51_hmo3_2 := hmo3_2
    have sv51_hm3_6 := hm3_6
    replace hB := below_ext hB hE48 (Nat.le_refl _)
    replace hm0_0 := hE48.at hm0_0
    replace hmo3_2 := hE48.ow hmo3_2
    replace hml3_2 := LO.ext hE48 hml3_2
    replace hm3_6 := hE48.at hm3_6
    replace hS := hS.trans hE48
    clear hE48
    obtain ⟨vsR, hRo, hRl⟩ := hP7_10
    replace hRo := OwT.mono hRo hsz50
    clear hsz50
    refine WT_one (dd := some 51) 11 (by kernel_rfl) rfl rfl rfl rfl (Yd.call (r_call2 tb_c54 (v0 := mrv3_2) rfl (v1 := v7_10) rfl) (C_drawkniferef13_SameRows _ _ mvs3_2 vsR (rowsA S l) (rowsA S l) _ hmo3_2.sl hRo.sl (LO.ll hml3_2) hRl hrl1 hrl1 hrl2 hrl2) (fun v7_11 W52 hE53 hP7_11 => ⟨.inl (hS.trans hE53), ?_⟩))
    have hsz54 := (Below.size hB)
    replace hB := below_ext hB hE53 (Nat.le_refl _)
    replace hm0_0 := hE53.at hm0_0
    replace hmo3_2 := hE53.ow hmo3_2
    replace hml3_2 := LO.ext hE53 hml3_2
    replace hm3_6 := hE53.at hm3_6
    replace hRo := hE53.ow hRo
    replace hRl := LL.ext hE53 hRl
    replace hS := hS.trans hE53
    clear hE53
    clear hsz54
    obtain rfl := hP7_11
    refine WT_take (dd := some 52) 12 rfl (by kernel_rfl) (by kernel_rfl) (by kernel_rfl) rfl rfl rfl (fun _wq _hq => r_pick_t rfl (v := .bool _) rfl) hS ?_
    refine WT_split (dd := some 53) 13 rfl (by kernel_rfl) (by kernel_rfl) (by kernel_rfl) rfl rfl rfl (fun wq hq => r_move (v := .bool _) rfl) hS (fun hs7_13 => ?_) (fun hs7_13 => ?_)
    ·
     try with_reducible replace hs7_13 := of_decide_eq_true hs7_13
     refine WT_take (dd := some 54) 14 rfl (by kernel_rfl) (by kernel_rfl) (by kernel_rfl) rfl rfl rfl (fun _wq _hq => r_move (v := .int .i64 _) rfl) hS ?_
     refine WT_take (dd := some 55) 15 rfl (by kernel_rfl) (by kernel_rfl) (by kernel_rfl) rfl rfl rfl (fun _wq _hq => r_eql rfl rfl) hS ?_
     refine WT_take (dd := some 56) 16 rfl (by kernel_rfl) (by kernel_rfl) (by kernel_rfl) rfl rfl rfl (fun _wq _hq => r_pick_t rfl (v := .bool _) rfl) hS ?_
     refine WT_split (dd := some 57) 17 rfl (by kernel_rfl) (by kernel_rfl) (by kernel_rfl) rfl rfl rfl (fun wq hq => r_move (v := .bool _) rfl) hS (fun hs7_17 => ?_) (fun hs7_17 => ?_)
     ·
      try with_reducible replace hs7_17 := of_decide_eq_true hs7_17
      refine WT_take (dd := some 58) 18 rfl (by kernel_rfl) (by kernel_rfl) (by kernel_rfl) rfl rfl rfl (fun _wq hq => r_loadW rfl tb_ag56 rfl (hq.at sv51_hm3_6)) hS ?_
      refine WT_one (dd := some 59) 19 (by kernel_rfl) rfl rfl rfl rfl (Yd.call (r_call1 tb_c48 (v0 := .agg #[_, _]) rfl) (C_cover_Right (l.length : Int) _ mvs3_2 (rowsA S l) _ hmo3_2.sl (LO.ll hml3_2) hrl1 hrl2) (fun v7_19 W55 hE56 hP7_19 => ⟨.inl (hS.trans hE56), ?_⟩))
      have hsz57 := (Below.size hB)
      replace hB := below_ext hB hE56 (Nat.le_refl _)
      replace hm0_0 := hE56.at hm0_0
      replace hmo3_2 := hE56.ow hmo3_2
      replace hml3_2 := LO.ext hE56 hml3_2
      replace hm3_6 := hE56.at hm3_6
      replace hRo := hE56.ow hRo
      replace hRl := LL.ext hE56 hRl
      replace hS := hS.trans hE56
      clear hE56
      clear hsz57
      obtain rfl := hP7_19
      refine WT_take (dd := some 60) 20 rfl (by kernel_rfl) (by kernel_rfl) (by kernel_rfl) rfl rfl rfl (fun _wq _hq => r_pick_t rfl (v := .bool _) rfl) hS ?_
      refine WT_split (dd := some 61) 21 rfl (by kernel_rfl) (by kernel_rfl) (by kernel_rfl) rfl rfl rfl (fun wq hq => r_move (v := .bool _) rfl) hS (fun hs7_21 => ?_) (fun hs7_21 => ?_)
      ·
       try with_reducible replace hs7_21 := of_decide_eq_true hs7_21
       refine WT_one (dd := some 62) 22 (by kernel_rfl) rfl rfl rfl rfl (Yd.call (r_call0 tb_c46) (C_drawknifelaw13_knows _) (fun v7_22 W58 hE59 hP7_22 => ⟨.inl (hS.trans hE59), ?_⟩))
       have hsz60 := (Below.size hB)
       replace hB := below_ext hB hE59 (Nat.le_refl _)
       replace hm0_0 := hE59.at hm0_0
       replace hmo3_2 := hE59.ow hmo3_2
       replace hml3_2 := LO.ext hE59 hml3_2
       replace hm3_6 := hE59.at hm3_6
       replace hRo := hE59.ow hRo
       replace hRl := LL.ext hE59 hRl
       replace hS := hS.trans hE59
       clear hE59
       clear hsz60
       obtain rfl := hP7_22
       refine WT_take (dd := some 63) 23 rfl (by kernel_rfl) (by kernel_rfl) (by kernel_rfl) rfl rfl rfl (fun _wq _hq => r_pick_t rfl (v := .bool _) rfl) hS ?_
       refine WT_take (dd := some 4) 24 rfl (by kernel_rfl) (by kernel_rfl) (by kernel_rfl) rfl rfl rfl (fun _wq _hq => r_assign (v := .bool _) rfl) hS ?_
       refine WT_done (by kernel_rfl) ?_
       try clear sv51_hB sv51_hm0_0 sv51_hmo3_2 sv51_hm3_6
       refine hK44 _ _ ?_
       clear hK44 K43
       refine WC_ret ?_
       repeat (first | refine thenQ_ret ?_ | refine blockQ_ret ?_)
       refine ret_t (v := .bool _) rfl ?_
       refine ⟨hB, ?_⟩
       rfl
      ·
       try with_reducible replace hs7_21 := of_decide_eq_false hs7_21
       exact absurd hrr (by rw [hs7_21]; decide)
     ·
      try with_reducible replace hs7_17 := of_decide_eq_false hs7_17
      exact absurd rfl hs7_17
    ·
     try with_reducible replace hs7_13 := of_decide_eq_false hs7_13
     first | exact absurd rfl (of_decide_eq_false hs7_13) | exact absurd rfl hs7_13
   ·
    try with_reducible replace hs7_5 := of_decide_eq_false hs7_5
    exact absurd rfl hs7_5

set_option maxRecDepth 10000 in
theorem C_drawknifelaw13_CoverMore (n : Int) (rv : Value) (vs : List Value) (L : List (List Int)) (xc : Value) (cols : List Int) (xd : Value) (more : List Int) (w : World) (hrv : SlT encV 1 w rv vs) (hll : LL w vs L) (hvm : vs.length ≤ 9223372036854775807) (hc : SlT encI 1 w xc cols) (hd : SlT encI 1 w xd more) :
    Fn Try.prog 12 #[.agg #[.int .i64 n, rv], xc, xd] w fun v w' => v = .bool true := by
 refine Fn_intro (n := 104) Try.func12 rfl rfl (Nat.le_of_ble_eq_true rfl) ?_
 have hB : Below w.heap.size w w := Below.refl _ _
 have hvl := hll.len
 refine WC_seq (fun K1 hK2 => ?_)
 refine WC_region ?_
 refine WL_step (dd := some 3) rfl rfl rfl (Y_box (c := #[_, _]) rfl rfl (fun b0_0 W3 hb4 hE5 hm0_0 => ?_))
 have lo_b0_0 : w.heap.size ≤ b0_0 := hb4 ▸ (Below.size hB)
 clear hb4
 replace hB := below_ext hB hE5 (Nat.le_refl _)
 clear hE5
 refine WL_val (dd := some 6) rfl rfl rfl (r_assign (v := .bool false) rfl) ?_
 refine WL_nil ?_
 refine hK2 _ _ ?_
 clear hK2 K1
 refine WC_seq (fun K6 hK7 => ?_)
 refine WC_seq (fun K8 hK9 => ?_)
 refine WC_region ?_
 refine WL_val (dd := some 13) rfl rfl rfl (r_loadW rfl tb_ag56 rfl hm0_0) ?_
 refine WL_call (dd := some 14) rfl rfl rfl (r_call1 tb_c45 (v0 := .agg #[_, _]) rfl) (C_drawknifelaw13_Great n _ vs L _ (Below.slT hB hrv) (LL.below hB hll) hvm) (fun v1_1 W10 hE11 hP1_1 => ?_)
 have hsz12 := (Below.size hB)
 replace hB := below_ext hB hE11 (Nat.le_refl _)
 replace hm0_0 := hE11.at hm0_0
 clear hE11
 clear hsz12
 obtain rfl := hP1_1
 refine WL_split (dd := some 15) rfl rfl rfl (r_move (v := .bool _) rfl) (fun hs1_2 => ?_) (fun hs1_2 => ?_)
 ·
  try with_reducible replace hs1_2 := of_decide_eq_true hs1_2
  refine WL_skip (dd := some 16) rfl rfl rfl ?_
  refine WL_skip (dd := some 17) rfl rfl rfl ?_
  refine WL_skip (dd := some 18) rfl rfl rfl ?_
  refine WL_val (dd := some 19) rfl rfl rfl (r_pick_t rfl (v := .bool true) rfl) ?_
  refine WL_val (dd := some 20) rfl rfl rfl (r_move (v := .bool true) rfl) ?_
  refine WL_skip (dd := some 21) rfl rfl rfl ?_
  refine WL_skip (dd := some 22) rfl rfl rfl ?_
  refine WL_skip (dd := some 23) rfl rfl rfl ?_
  refine WL_val (dd := some 24) rfl rfl rfl (r_pick_t rfl (v := .bool true) rfl) ?_
  refine WL_val (dd := some 25) rfl rfl rfl (r_move (v := .bool true) rfl) ?_
  refine WL_skip (dd := some 26) rfl rfl rfl ?_
  refine WL_skip (dd := some 27) rfl rfl rfl ?_
  refine WL_skip (dd := some 28) rfl rfl rfl ?_
  refine WL_skip (dd := some 29) rfl rfl rfl ?_
  refine WL_skip (dd := some 30) rfl rfl rfl ?_
  refine WL_skip (dd := some 31) rfl rfl rfl ?_
  refine WL_val (dd := some 32) rfl rfl rfl (r_pick_t rfl (v := .bool true) rfl) ?_
  refine WL_val (dd := some 33) rfl rfl rfl (r_move (v := .bool true) rfl) ?_
  refine WL_skip (dd := some 34) rfl rfl rfl ?_
  refine WL_skip (dd := some 35) rfl rfl rfl ?_
  refine WL_skip (dd := some 36) rfl rfl rfl ?_
  refine WL_val (dd := some 37) rfl rfl rfl (r_pick_t rfl (v := .bool true) rfl) ?_
  refine WL_nil ?_
  refine hK9 _ _ ?_
  clear hK9 K8
  refine WC_cond_true rfl ?_
  refine WC_seq (fun K13 hK14 => ?_)
  refine WC_region ?_
  refine WL_call (dd := some 38) rfl rfl rfl (r_call0 tb_c46) (C_drawknifelaw13_knows _) (fun v2_0 W15 hE16 hP2_0 => ?_)
  have hsz17 := (Below.size hB)
  replace hB := below_ext hB hE16 (Nat.le_refl _)
  replace hm0_0 := hE16.at hm0_0
  clear hE16
  clear hsz17
  obtain rfl := hP2_0
  refine WL_val (dd := some 6) rfl rfl rfl (r_assign (v := .bool _) rfl) ?_
  refine WL_nil ?_
  refine hK14 _ _ ?_
  clear hK14 K13
  refine WC_ret ?_
  repeat (first | refine thenQ_ret ?_ | refine blockQ_ret ?_)
  try clear hK7 K6
  refine ret_t (v := .bool _) rfl ?_
  refine ⟨hB, ?_⟩
  rfl
 ·
  try with_reducible replace hs1_2 := of_decide_eq_false hs1_2
  refine WL_val (dd := some 16) rfl rfl rfl (r_move (v := xc) rfl) ?_
  refine WL_val (dd := some 17) rfl rfl rfl (r_lenS (v := xc) rfl (Below.slT hB hc) tb_el57) ?_
  refine WL_val (dd := some 18) rfl rfl rfl (r_gtr rfl rfl) ?_
  refine WL_val (dd := some 19) rfl rfl rfl (r_pick_f rfl (v := .bool _) rfl) ?_
  refine WL_split (dd := some 20) rfl rfl rfl (r_move (v := .bool _) rfl) (fun hs1_7 => ?_) (fun hs1_7 => ?_)
  ·
   try with_reducible replace hs1_7 := of_decide_eq_true hs1_7
   refine WL_skip (dd := some 21) rfl rfl rfl ?_
   refine WL_skip (dd := some 22) rfl rfl rfl ?_
   refine WL_skip (dd := some 23) rfl rfl rfl ?_
   refine WL_val (dd := some 24) rfl rfl rfl (r_pick_t rfl (v := .bool true) rfl) ?_
   refine WL_val (dd := some 25) rfl rfl rfl (r_move (v := .bool true) rfl) ?_
   refine WL_skip (dd := some 26) rfl rfl rfl ?_
   refine WL_skip (dd := some 27) rfl rfl rfl ?_
   refine WL_skip (dd := some 28) rfl rfl rfl ?_
   refine WL_skip (dd := some 29) rfl rfl rfl ?_
   refine WL_skip (dd := some 30) rfl rfl rfl ?_
   refine WL_skip (dd := some 31) rfl rfl rfl ?_
   refine WL_val (dd := some 32) rfl rfl rfl (r_pick_t rfl (v := .bool true) rfl) ?_
   refine WL_val (dd := some 33) rfl rfl rfl (r_move (v := .bool true) rfl) ?_
   refine WL_skip (dd := some 34) rfl rfl rfl ?_
   refine WL_skip (dd := some 35) rfl rfl rfl ?_
   refine WL_skip (dd := some 36) rfl rfl rfl ?_
   refine WL_val (dd := some 37) rfl rfl rfl (r_pick_t rfl (v := .bool true) rfl) ?_
   refine WL_nil ?_
   refine hK9 _ _ ?_
   clear hK9 K8
   refine WC_cond_true rfl ?_
   refine WC_seq (fun K18 hK19 => ?_)
   refine WC_region ?_
   refine WL_call (dd := some 38) rfl rfl rfl (r_call0 tb_c46) (C_drawknifelaw13_knows _) (fun v2_0 W20 hE21 hP2_0 => ?_)
   have hsz22 := (Below.size hB)
   replace hB := below_ext hB hE21 (Nat.le_refl _)
   replace hm0_0 := hE21.at hm0_0
   clear hE21
   clear hsz22
   obtain rfl := hP2_0
   refine WL_val (dd := some 6) rfl rfl rfl (r_assign (v := .bool _) rfl) ?_
   refine WL_nil ?_
   refine hK19 _ _ ?_
   clear hK19 K18
   refine WC_ret ?_
   repeat (first | refine thenQ_ret ?_ | refine blockQ_ret ?_)
   try clear hK7 K6
   refine ret_t (v := .bool _) rfl ?_
   refine ⟨hB, ?_⟩
   rfl
  ·
   try with_reducible replace hs1_7 := of_decide_eq_false hs1_7
   refine WL_val (dd := some 21) rfl rfl rfl (r_move (v := xd) rfl) ?_
   refine WL_val (dd := some 22) rfl rfl rfl (r_lenS (v := xd) rfl (Below.slT hB hd) tb_el57) ?_
   refine WL_val (dd := some 23) rfl rfl rfl (r_gtr rfl rfl) ?_
   refine WL_val (dd := some 24) rfl rfl rfl (r_pick_f rfl (v := .bool _) rfl) ?_
   refine WL_split (dd := some 25) rfl rfl rfl (r_move (v := .bool _) rfl) (fun hs1_12 => ?_) (fun hs1_12 => ?_)
   ·
    try with_reducible replace hs1_12 := of_decide_eq_true hs1_12
    refine WL_skip (dd := some 26) rfl rfl rfl ?_
    refine WL_skip (dd := some 27) rfl rfl rfl ?_
    refine WL_skip (dd := some 28) rfl rfl rfl ?_
    refine WL_skip (dd := some 29) rfl rfl rfl ?_
    refine WL_skip (dd := some 30) rfl rfl rfl ?_
    refine WL_skip (dd := some 31) rfl rfl rfl ?_
    refine WL_val (dd := some 32) rfl rfl rfl (r_pick_t rfl (v := .bool true) rfl) ?_
    refine WL_val (dd := some 33) rfl rfl rfl (r_move (v := .bool true) rfl) ?_
    refine WL_skip (dd := some 34) rfl rfl rfl ?_
    refine WL_skip (dd := some 35) rfl rfl rfl ?_
    refine WL_skip (dd := some 36) rfl rfl rfl ?_
    refine WL_val (dd := some 37) rfl rfl rfl (r_pick_t rfl (v := .bool true) rfl) ?_
    refine WL_nil ?_
    refine hK9 _ _ ?_
    clear hK9 K8
    refine WC_cond_true rfl ?_
    refine WC_seq (fun K23 hK24 => ?_)
    refine WC_region ?_
    refine WL_call (dd := some 38) rfl rfl rfl (r_call0 tb_c46) (C_drawknifelaw13_knows _) (fun v2_0 W25 hE26 hP2_0 => ?_)
    have hsz27 := (Below.size hB)
    replace hB := below_ext hB hE26 (Nat.le_refl _)
    replace hm0_0 := hE26.at hm0_0
    clear hE26
    clear hsz27
    obtain rfl := hP2_0
    refine WL_val (dd := some 6) rfl rfl rfl (r_assign (v := .bool _) rfl) ?_
    refine WL_nil ?_
    refine hK24 _ _ ?_
    clear hK24 K23
    refine WC_ret ?_
    repeat (first | refine thenQ_ret ?_ | refine blockQ_ret ?_)
    try clear hK7 K6
    refine ret_t (v := .bool _) rfl ?_
    refine ⟨hB, ?_⟩
    rfl
   ·
    try with_reducible replace hs1_12 := of_decide_eq_false hs1_12
    refine WL_val (dd := some 26) rfl rfl rfl (r_fieldAddr (b := _) (o := _) rfl tb_fo56_0) ?_
    refine WL_val (dd := some 27) rfl rfl rfl (r_load1 (v := .int .i64 _) rfl tb_sc3 (At.cell hm0_0 rfl)) ?_
    refine WL_val (dd := some 28) rfl rfl rfl (r_fieldAddr (b := _) (o := _) rfl tb_fo56_1) ?_
    refine WL_val (dd := some 29) rfl rfl rfl (r_load1 (v := rv) rfl tb_sc54 (At.cell hm0_0 rfl)) ?_
    refine WL_call (dd := some 30) rfl rfl rfl (r_call2 tb_c47 (v0 := .int .i64 _) rfl (v1 := rv) rfl) (C_drawkniferef13_Right n _ vs L _ (Below.slT hB hrv) (LL.below hB hll) (gm_no hs1_2).1 (gm_no hs1_2).2) (fun v1_17 W28 hE29 hP1_17 => ?_)
    have hsz30 := (Below.size hB)
    replace hB := below_ext hB hE29 (Nat.le_refl _)
    replace hm0_0 := hE29.at hm0_0
    clear hE29
    clear hsz30
    obtain rfl := hP1_17
    refine WL_val (dd := some 31) rfl rfl rfl (r_not rfl) ?_
    refine WL_val (dd := some 32) rfl rfl rfl (r_pick_f rfl (v := .bool _) rfl) ?_
    refine WL_split (dd := some 33) rfl rfl rfl (r_move (v := .bool _) rfl) (fun hs1_20 => ?_) (fun hs1_20 => ?_)
    ·
     try with_reducible replace hs1_20 := of_decide_eq_true hs1_20
     refine WL_skip (dd := some 34) rfl rfl rfl ?_
     refine WL_skip (dd := some 35) rfl rfl rfl ?_
     refine WL_skip (dd := some 36) rfl rfl rfl ?_
     refine WL_val (dd := some 37) rfl rfl rfl (r_pick_t rfl (v := .bool true) rfl) ?_
     refine WL_nil ?_
     refine hK9 _ _ ?_
     clear hK9 K8
     refine WC_cond_true rfl ?_
     refine WC_seq (fun K31 hK32 => ?_)
     refine WC_region ?_
     refine WL_call (dd := some 38) rfl rfl rfl (r_call0 tb_c46) (C_drawknifelaw13_knows _) (fun v2_0 W33 hE34 hP2_0 => ?_)
     have hsz35 := (Below.size hB)
     replace hB := below_ext hB hE34 (Nat.le_refl _)
     replace hm0_0 := hE34.at hm0_0
     clear hE34
     clear hsz35
     obtain rfl := hP2_0
     refine WL_val (dd := some 6) rfl rfl rfl (r_assign (v := .bool _) rfl) ?_
     refine WL_nil ?_
     refine hK32 _ _ ?_
     clear hK32 K31
     refine WC_ret ?_
     repeat (first | refine thenQ_ret ?_ | refine blockQ_ret ?_)
     try clear hK7 K6
     refine ret_t (v := .bool _) rfl ?_
     refine ⟨hB, ?_⟩
     rfl
    ·
     try with_reducible replace hs1_20 := of_decide_eq_false hs1_20
     refine WL_val (dd := some 34) rfl rfl rfl (r_fieldAddr (b := _) (o := _) rfl tb_fo56_0) ?_
     refine WL_val (dd := some 35) rfl rfl rfl (r_load1 (v := .int .i64 _) rfl tb_sc3 (At.cell hm0_0 rfl)) ?_
     refine WL_val (dd := some 36) rfl rfl rfl (r_gtr rfl rfl) ?_
     refine WL_val (dd := some 37) rfl rfl rfl (r_pick_f rfl (v := .bool _) rfl) ?_
     refine WL_nil ?_
     refine hK9 _ _ ?_
     clear hK9 K8
     refine WC_cond (b := _) rfl (fun hc0 => ?_) (fun hc0 => ?_)
     ·
      try with_reducible replace hc0 := of_decide_eq_true hc0
      refine WC_seq (fun K36 hK37 => ?_)
      refine WC_region ?_
      refine WL_call (dd := some 38) rfl rfl rfl (r_call0 tb_c46) (C_drawknifelaw13_knows _) (fun v2_0 W38 hE39 hP2_0 => ?_)
      have hsz40 := (Below.size hB)
      replace hB := below_ext hB hE39 (Nat.le_refl _)
      replace hm0_0 := hE39.at hm0_0
      clear hE39
      clear hsz40
      obtain rfl := hP2_0
      refine WL_val (dd := some 6) rfl rfl rfl (r_assign (v := .bool _) rfl) ?_
      refine WL_nil ?_
      refine hK37 _ _ ?_
      clear hK37 K36
      refine WC_ret ?_
      repeat (first | refine thenQ_ret ?_ | refine blockQ_ret ?_)
      try clear hK7 K6
      refine ret_t (v := .bool _) rfl ?_
      refine ⟨hB, ?_⟩
      rfl
     ·
      try with_reducible replace hc0 := of_decide_eq_false hc0
      refine WC_skip ?_
      refine hK7 _ _ ?_
      clear hK7 K6
      refine WC_seq (fun K41 hK42 => ?_)
      obtain ⟨hLb, hRb⟩ := gm_no hs1_2
      have hrt : rightM n L = true := not_f (by first | exact hs1_20 | exact hs1_17)
      have hn0 := (rightM_iff.1 hrt).1
      refine WC_region ?_
      refine WL_step (dd := some 39) rfl rfl rfl (Y_lit0 tb_el57 (fun b3_0 W43 hb44 hE45 hm3_0 => ?_))
      have lo_b3_0 : w.heap.size ≤ b3_0 := hb44 ▸ (Below.size hB)
      clear hb44
      replace hB := below_ext hB hE45 (Nat.le_refl _)
      replace hm0_0 := hE45.at hm0_0
      clear hE45
      have ho3_0 := own_lit0 (enc := encI) (sz := 1) hm3_0 lo_b3_0
      clear hm3_0
      refine WL_val (dd := some 40) rfl rfl rfl (r_move (v := xc) rfl) ?_
      refine WL_step (dd := some 41) rfl rfl rfl (Y_append (v := .slice (some ⟨b3_0, 0, none⟩) 0 0) (v2 := xc) rfl rfl tb_el57 tb_zs3 (by decide) ho3_0 (Below.slT hB hc) (enc_one_encI) (by have := Below.size hB; omega) (by first | omega | (simp; omega) | (simp only [flagsTo_len, litsTo_len, firstF_len, ptF_len, setF_len]; omega)) (by first | omega | (simp; omega) | (simp only [flagsTo_len, litsTo_len, firstF_len, ptF_len, setF_len]; omega)) (fun v3_2 W46 hG47 ho3_2 => ?_))
      replace ho3_2 := OwT.app (enc := encI) rfl rfl rfl rfl ho3_2
      replace hB := below_grown hB hG47 (Nat.le_refl _) (fun j hj => (OwT.lt ho3_0 j hj))
      replace hm0_0 := At.grownOw hm0_0 ho3_0 hG47 (by decide)
      clear hG47
      clear ho3_0
      rw [List.nil_append] at ho3_2
      refine WL_val (dd := some 42) rfl rfl rfl (r_move (v := xd) rfl) ?_
      refine WL_step (dd := some 43) rfl rfl rfl (Y_append (v := v3_2) (v2 := xd) rfl rfl tb_el57 tb_zs3 (by decide) ho3_2 (Below.slT hB hd) (enc_one_encI) (by have := Below.size hB; omega) (by first | omega | (simp; omega) | (simp only [flagsTo_len, litsTo_len, firstF_len, ptF_len, setF_len]; omega)) (by first | omega | (simp; omega) | (simp only [flagsTo_len, litsTo_len, firstF_len, ptF_len, setF_len]; omega)) (fun v3_4 W49 hG50 ho3_4 => ?_))
      replace ho3_4 := OwT.app (enc := encI) rfl rfl rfl rfl ho3_4
      replace hB := below_grown hB hG50 (Nat.le_refl _) (fun j hj => (OwT.lt ho3_2 j hj))
      replace hm0_0 := At.grownOw hm0_0 ho3_2 hG50 (by decide)
      clear hG50
      clear ho3_2
      refine WL_val (dd := some 7) rfl rfl rfl (r_assign (v := v3_4) rfl) ?_
      refine WL_nil ?_
      refine hK42 _ _ ?_
      clear hK42 K41
      refine WC_seq (fun K52 hK53 => ?_)
      refine WC_seq (fun K54 hK55 => ?_)
      refine WC_region ?_
      refine WL_val (dd := some 44) rfl rfl rfl (r_loadW rfl tb_ag56 rfl hm0_0) ?_
      refine WL_val (dd := some 45) rfl rfl rfl (r_move (v := xc) rfl) ?_
      refine WL_call (dd := some 46) rfl rfl rfl (r_call2 tb_c49 (v0 := .agg #[_, _]) rfl (v1 := xc) rfl) (C_cover_Solves n _ vs L _ cols _ (Below.slT hB hrv) (LL.below hB hll) hLb hRb (Below.slT hB hc) (by omega)) (fun v4_2 W56 hE57 hP4_2 => ?_)
      have hsz58 := (Below.size hB)
      replace hB := below_ext hB hE57 (Nat.le_refl _)
      replace hm0_0 := hE57.at hm0_0
      replace ho3_4 := hE57.ow ho3_4
      clear hE57
      clear hsz58
      obtain rfl := hP4_2
      refine WL_split (dd := some 47) rfl rfl rfl (r_move (v := .bool _) rfl) (fun hs4_3 => ?_) (fun hs4_3 => ?_)
      ·
       try with_reducible replace hs4_3 := of_decide_eq_true hs4_3
       refine WL_val (dd := some 48) rfl rfl rfl (r_loadW rfl tb_ag56 rfl hm0_0) ?_
       refine WL_val (dd := some 49) rfl rfl rfl (r_move (v := v3_4) rfl) ?_
       refine WL_call (dd := some 50) rfl rfl rfl (r_call2 tb_c49 (v0 := .agg #[_, _]) rfl (v1 := v3_4) rfl) (C_cover_Solves n _ vs L _ (cols ++ more) _ (Below.slT hB hrv) (LL.below hB hll) hLb hRb ho3_4.sl (by rw [List.length_append]; omega)) (fun v4_6 W59 hE60 hP4_6 => ?_)
       have hsz61 := (Below.size hB)
       replace hB := below_ext hB hE60 (Nat.le_refl _)
       replace hm0_0 := hE60.at hm0_0
       replace ho3_4 := hE60.ow ho3_4
       clear hE60
       clear hsz61
       obtain rfl := hP4_6
       refine WL_val (dd := some 51) rfl rfl rfl (r_not rfl) ?_
       refine WL_val (dd := some 52) rfl rfl rfl (r_pick_t rfl (v := .bool _) rfl) ?_
       refine WL_nil ?_
       refine hK55 _ _ ?_
       clear hK55 K54
       refine WC_cond (b := _) rfl (fun hc1 => ?_) (fun hc1 => ?_)
       ·
        try with_reducible replace hc1 := of_decide_eq_true hc1
        exact absurd hs4_3 (fun h => by have h2 := not_t hc1; rw [hrt, Bool.true_and] at h h2; rw [more_sol h] at h2; cases h2)
       ·
        try with_reducible replace hc1 := of_decide_eq_false hc1
        refine WC_skip ?_
        refine hK53 _ _ ?_
        clear hK53 K52
        refine WC_seq (fun K62 hK63 => ?_)
        refine WC_region ?_
        refine WL_val (dd := some 8) rfl rfl rfl (r_assign (v := .slice none 0 0) rfl) ?_
        refine WL_nil ?_
        refine hK63 _ _ ?_
        clear hK63 K62
        refine WC_seq (fun K64 hK65 => ?_)
        refine WC_seq (fun K66 hK67 => ?_)
        refine WC_region ?_
        refine WL_val (dd := some 9) rfl rfl rfl (r_assign (v := .int .i64 0) rfl) ?_
        refine WL_nil ?_
        refine hK67 _ _ ?_
        clear hK67 K66
        refine WC_block ?_
        refine WC_loop (σ := (Nat) × (Value)) [8, 9, 53, 54, 55, 56, 57, 58, 59, 60, 61, 62] (fun (c, v0) => [(9, .int .i64 (c : Int)), (8, v0)]) (fun sg W => match sg with | (c, v0) => (Below w.heap.size w W) ∧ (At W b0_0 _ 56) ∧ (OwT encI 1 3 W w.heap.size v0 (upL c)) ∧ (c ≤ n.toNat) ∧ (True)) (fun (c, v0) => n.toNat - c) ((0, .slice none 0 0)) ⟨rfl, rfl, trivial⟩ ⟨hB, hm0_0, OwT.nil, (Nat.zero_le _), trivial⟩ ?_
        clear hB hm0_0 ho3_4
        rintro ⟨c, v0⟩ g69 W68 ⟨hB, hm0_0, ho, hcn, _⟩ J70 hJ71
        refine WC_seq (fun K72 hK73 => ?_)
        refine WC_seq (fun K74 hK75 => ?_)
        refine WC_region ?_
        refine WL_val (dd := some 53) rfl rfl rfl (r_move (v := .int .i64 _) rfl) ?_
        refine WL_val (dd := some 54) rfl rfl rfl (r_fieldAddr (b := _) (o := _) rfl tb_fo56_0) ?_
        refine WL_val (dd := some 55) rfl rfl rfl (r_load1 (v := .int .i64 _) rfl tb_sc3 (At.cell hm0_0 rfl)) ?_
        refine WL_val (dd := some 56) rfl rfl rfl (r_lss rfl rfl) ?_
        refine WL_nil ?_
        refine hK75 _ _ ?_
        clear hK75 K74
        refine WC_cond (b := _) rfl (fun hc2 => ?_) (fun hc2 => ?_)
        ·
         try with_reducible replace hc2 := of_decide_eq_true hc2
         refine WC_skip ?_
         refine hK73 _ _ ?_
         clear hK73 K72
         refine WC_seq (fun K76 hK77 => ?_)
         refine WC_block ?_
         have hul := upL_len c
         refine WC_region ?_
         refine WL_val (dd := some 59) rfl rfl rfl (r_move (v := v0) rfl) ?_
         refine WL_val (dd := some 60) rfl rfl rfl (r_move (v := .int .i64 _) rfl) ?_
         refine WL_step (dd := some 61) rfl rfl rfl (Y_lit1 (u := .int .i64 _) rfl tb_el57 tb_zs3 rfl (by decide) (by decide) (fun b10_2 W78 hb79 hE80 hm10_2 => ?_))
         have lo_b10_2 : w.heap.size ≤ b10_2 := hb79 ▸ (Below.size hB)
         have no_v0_b10_2 := OwT.neB (b := b10_2) ho (Nat.le_of_eq hb79.symm)
         clear hb79
         replace hB := below_ext hB hE80 (Nat.le_refl _)
         replace hm0_0 := hE80.at hm0_0
         replace ho := hE80.ow ho
         clear hE80
         refine WL_step (dd := some 62) rfl rfl rfl (Y_append (v := v0) (v2 := .slice (some ⟨b10_2, 0, none⟩) 1 1) rfl rfl tb_el57 tb_zs3 (by decide) ho (sl_lit1 hm10_2 rfl) rfl (by have := Below.size hB; omega) (by first | omega | (simp; omega) | (simp only [flagsTo_len, litsTo_len, firstF_len, ptF_len, setF_len]; omega)) (by first | omega | (simp; omega) | (simp only [flagsTo_len, litsTo_len, firstF_len, ptF_len, setF_len]; omega)) (fun v10_3 W81 hG82 ho10_3 => ?_))
         replace ho10_3 := OwT.snoc (enc := encI) (x := _) rfl rfl rfl rfl ho10_3
         clear hm10_2
         replace hB := below_grown hB hG82 (Nat.le_refl _) (fun j hj => (OwT.lt ho j hj))
         replace hm0_0 := At.grownOw hm0_0 ho hG82 (by decide)
         clear hG82
         clear ho
         refine WL_val (dd := some 8) rfl rfl rfl (r_assign (v := v10_3) rfl) ?_
         refine WL_nil ?_
         refine hK77 _ _ ?_
         clear hK77 K76
         refine WC_region ?_
         refine WL_val (dd := some 57) rfl rfl rfl (r_move (v := .int .i64 _) rfl) ?_
         refine WL_val (dd := some 58) rfl rfl rfl (r_addI rfl rfl (by omega) (by omega)) ?_
         refine WL_val (dd := some 9) rfl rfl rfl (r_assign (v := .int .i64 _) rfl) ?_
         refine WL_nil ?_
         refine hJ71 _ _ ((c + 1, v10_3)) ?_ ?_ ?_ ?_
         · repeat (first | exact agree.mask _ _ _ | refine agree.updo ?_ rfl _ | refine agree.updL ?_ _ rfl | refine agree.maskS rfl ?_)
         · exact ⟨rfl, rfl, trivial⟩
         · exact ⟨hB, hm0_0, (by rw [← upL_snoc]; exact ho10_3), (by omega), trivial⟩
         · show n.toNat - (c + 1) < n.toNat - c; omega
        ·
         try with_reducible replace hc2 := of_decide_eq_false hc2
         refine WC_exit ?_
         refine hK65 _ _ ?_
         clear hK73 K72
         clear hJ71 J70
         clear hK65 K64
         refine WC_seq (fun K84 hK85 => ?_)
         obtain rfl : c = n.toNat := by omega
         refine WC_region ?_
         refine WL_val (dd := some 10) rfl rfl rfl (r_assign (v := .bool true) rfl) ?_
         refine WL_nil ?_
         refine hK85 _ _ ?_
         clear hK85 K84
         refine WC_seq (fun K86 hK87 => ?_)
         refine WC_seq (fun K88 hK89 => ?_)
         refine WC_region ?_
         refine WL_val (dd := some 11) rfl rfl rfl (r_assign (v := .int .i64 0) rfl) ?_
         refine WL_nil ?_
         refine hK89 _ _ ?_
         clear hK89 K88
         refine WC_block ?_
         refine WC_loop (σ := (Nat)) [10, 11, 63, 64, 65, 66, 67, 68, 69, 70, 71, 72, 73, 74, 75, 76, 77, 78, 79] (fun i => [(11, .int .i64 (i : Int)), (10, .bool (fullTo L i))]) (fun i W => (Below w.heap.size w W) ∧ (At W b0_0 _ 56) ∧ (OwT encI 1 3 W w.heap.size v0 _) ∧ (i ≤ L.length) ∧ (True)) (fun i => L.length - i) (0) ⟨rfl, congrArg Value.bool (full_0 _), trivial⟩ ⟨hB, hm0_0, ho, (Nat.zero_le _), trivial⟩ ?_
         clear hB hm0_0 ho
         rintro i g91 W90 ⟨hB, hm0_0, ho, hi, _⟩ J92 hJ93
         refine WC_seq (fun K94 hK95 => ?_)
         refine WC_seq (fun K96 hK97 => ?_)
         refine WC_region ?_
         refine WL_val (dd := some 63) rfl rfl rfl (r_move (v := .int .i64 _) rfl) ?_
         refine WL_val (dd := some 64) rfl rfl rfl (r_fieldAddr (b := _) (o := _) rfl tb_fo56_1) ?_
         refine WL_val (dd := some 65) rfl rfl rfl (r_load1 (v := rv) rfl tb_sc54 (At.cell hm0_0 rfl)) ?_
         refine WL_val (dd := some 66) rfl rfl rfl (r_lenS (v := rv) rfl (Below.slT hB hrv) tb_el54) ?_
         refine WL_val (dd := some 67) rfl rfl rfl (r_lss rfl rfl) ?_
         refine WL_nil ?_
         refine hK97 _ _ ?_
         clear hK97 K96
         refine WC_cond (b := _) rfl (fun hc3 => ?_) (fun hc3 => ?_)
         ·
          try with_reducible replace hc3 := of_decide_eq_true hc3
          refine WC_skip ?_
          refine hK95 _ _ ?_
          clear hK95 K94
          refine WC_seq (fun K98 hK99 => ?_)
          refine WC_block ?_
          refine WC_region ?_
          refine WL_val (dd := some 70) rfl rfl rfl (r_move (v := .bool _) rfl) ?_
          refine WL_split (dd := some 71) rfl rfl rfl (r_move (v := .bool _) rfl) (fun hs15_1 => ?_) (fun hs15_1 => ?_)
          ·
           try with_reducible replace hs15_1 := of_decide_eq_true hs15_1
           refine WL_val (dd := some 72) rfl rfl rfl (r_fieldAddr (b := _) (o := _) rfl tb_fo56_1) ?_
           refine WL_val (dd := some 73) rfl rfl rfl (r_load1 (v := rv) rfl tb_sc54 (At.cell hm0_0 rfl)) ?_
           refine WL_val (dd := some 74) rfl rfl rfl (r_move (v := .int .i64 _) rfl) ?_
           refine WL_val (dd := some 75) rfl rfl rfl (r_idxS (v := rv) rfl (Below.slT hB hrv) rfl tb_el54 (by omega) (by first | omega | (simp only [flagsTo_len, litsTo_len, firstF_len, ptF_len, setF_len]; omega))) ?_
           refine WL_val (dd := some 76) rfl rfl rfl (r_load1 (v := (vs.getD i undef)) rfl tb_sc57 (SlT.cell (Below.slT hB hrv) encV_len undef (by omega) (by first | omega | (simp only [flagsTo_len, litsTo_len, firstF_len, ptF_len, setF_len]; omega)) 0 rfl)) ?_
           have hp15_6 : SlT encI 1 w ((vs.getD i undef)) (L.getD i []) := hll.get i (by omega)
           refine WL_val (dd := some 77) rfl rfl rfl (r_lenS (v := (vs.getD i undef)) rfl (Below.slT hB hp15_6) tb_el57) ?_
           refine WL_val (dd := some 78) rfl rfl rfl (r_gtr rfl rfl) ?_
           refine WL_val (dd := some 79) rfl rfl rfl (r_pick_t rfl (v := .bool _) rfl) ?_
           refine WL_val (dd := some 10) rfl rfl rfl (r_assign (v := .bool _) rfl) ?_
           refine WL_nil ?_
           refine hK99 _ _ ?_
           clear hK99 K98
           refine WC_region ?_
           refine WL_val (dd := some 68) rfl rfl rfl (r_move (v := .int .i64 _) rfl) ?_
           refine WL_val (dd := some 69) rfl rfl rfl (r_addI rfl rfl (by omega) (by omega)) ?_
           refine WL_val (dd := some 11) rfl rfl rfl (r_assign (v := .int .i64 _) rfl) ?_
           refine WL_nil ?_
           refine hJ93 _ _ (i + 1) ?_ ?_ ?_ ?_
           · repeat (first | exact agree.mask _ _ _ | refine agree.updo ?_ rfl _ | refine agree.updL ?_ _ rfl | refine agree.maskS rfl ?_)
           · exact ⟨rfl, (by first | exact congrArg Value.bool (full_t hs15_1) | exact congrArg Value.bool (full_f hs15_1)), trivial⟩
           · exact ⟨hB, hm0_0, ho, (by omega), trivial⟩
           · first | omega | (dsimp only; omega)
          ·
           try with_reducible replace hs15_1 := of_decide_eq_false hs15_1
           refine WL_skip (dd := some 72) rfl rfl rfl ?_
           refine WL_skip (dd := some 73) rfl rfl rfl ?_
           refine WL_skip (dd := some 74) rfl rfl rfl ?_
           refine WL_skip (dd := some 75) rfl rfl rfl ?_
           refine WL_skip (dd := some 76) rfl rfl rfl ?_
           refine WL_skip (dd := some 77) rfl rfl rfl ?_
           refine WL_skip (dd := some 78) rfl rfl rfl ?_
           refine WL_val (dd := some 79) rfl rfl rfl (r_pick_f rfl (v := .bool false) rfl) ?_
           refine WL_val (dd := some 10) rfl rfl rfl (r_assign (v := .bool false) rfl) ?_
           refine WL_nil ?_
           refine hK99 _ _ ?_
           clear hK99 K98
           refine WC_region ?_
           refine WL_val (dd := some 68) rfl rfl rfl (r_move (v := .int .i64 _) rfl) ?_
           refine WL_val (dd := some 69) rfl rfl rfl (r_addI rfl rfl (by omega) (by omega)) ?_
           refine WL_val (dd := some 11) rfl rfl rfl (r_assign (v := .int .i64 _) rfl) ?_
           refine WL_nil ?_
           refine hJ93 _ _ (i + 1) ?_ ?_ ?_ ?_
           · repeat (first | exact agree.mask _ _ _ | refine agree.updo ?_ rfl _ | refine agree.updL ?_ _ rfl | refine agree.maskS rfl ?_)
           · exact ⟨rfl, (by first | exact congrArg Value.bool (full_t hs15_1) | exact congrArg Value.bool (full_f hs15_1)), trivial⟩
           · exact ⟨hB, hm0_0, ho, (by omega), trivial⟩
           · first | omega | (dsimp only; omega)
         ·
          try with_reducible replace hc3 := of_decide_eq_false hc3
          refine WC_exit ?_
          refine hK87 _ _ ?_
          clear hK95 K94
          clear hJ93 J92
          clear hK87 K86
          refine WC_seq (fun K100 hK101 => ?_)
          obtain rfl : i = L.length := by omega
          refine WC_draw Ext tb_mix (fun W102 hE103 => ?_)
          replace hB := below_ext hB hE103 (Nat.le_refl _)
          replace hm0_0 := hE103.at hm0_0
          replace ho := hE103.ow ho
          have hS := Ext.refl W102
          refine WT_take (dd := some 81) 1 rfl (by kernel_rfl) (by kernel_rfl) (by kernel_rfl) rfl rfl rfl (fun _wq _hq => r_move (v := xc) rfl) hS ?_
          refine WT_take (dd := some 83) 3 rfl (by kernel_rfl) (by kernel_rfl) (by kernel_rfl) rfl rfl rfl (fun _wq _hq => r_fieldAddr (b := _) (o := _) rfl tb_fo56_0) hS ?_
          refine WT_take (dd := some 84) 4 rfl (by kernel_rfl) (by kernel_rfl) (by kernel_rfl) rfl rfl rfl (fun _wq hq => r_load1 (v := .int .i64 _) rfl tb_sc3 (At.cell (hq.at hm0_0) rfl)) hS ?_
          refine WT_two 0 5 (by kernel_rfl) rfl rfl rfl rfl rfl rfl rfl rfl (Y_lit0 tb_el57 (fun b16_0 W104 hb105 hE106 hm16_0 => ⟨.inl (hS.trans hE106), ?_⟩)) (Y_lit2 (u0 := .int .i64 _) (u1 := .int .i64 _) rfl rfl tb_el57 tb_zs3 rfl rfl (by decide) (by decide) (fun b16_5 W110 hb111 hE112 hm16_5 => ⟨.inl (hS.trans hE112), ?_⟩))
          ·
           have lo_b16_0 : w.heap.size ≤ b16_0 := hb105 ▸ (Below.size hB)
           have los_b16_0 := Nat.le_trans (Ext.size hS) (Nat.le_of_eq hb105.symm)
           have olt_ho := OwT.lt2 ho
           have hap107 : Apart v0 (.slice (some ⟨b16_0, 0, none⟩) 0 0) := fun j h1 h2 => by cases h2; exact absurd (olt_ho _ h1) (by rw [hb105]; exact Nat.lt_irrefl _)
           clear hb105
           have sv108_hB := hB
           have sv108_hm0_0 := hm0_0
           have sv108_ho := ho
           replace hB := below_ext hB hE106 (Nat.le_refl _)
           replace hm0_0 := hE106.at hm0_0
           replace ho := hE106.ow ho
           replace hS := hS.trans hE106
           clear hE106
           have ho16_0 := own_lit0 (enc := encI) (sz := 1) hm16_0 lo_b16_0
           clear hm16_0
           have losO109 : ∀ j, Value.ownBlock (.slice (some ⟨b16_0, 0, none⟩) 0 0) = some j → W102.heap.size ≤ j := fun j e => by have e2 : b16_0 = j := Option.some.inj e; rw [← e2]; exact los_b16_0
           refine WT_two 2 5 (by kernel_rfl) rfl rfl rfl rfl rfl rfl rfl rfl (Y_appendA (v := .slice (some ⟨b16_0, 0, none⟩) 0 0) (v2 := xc) rfl rfl tb_el57 tb_zs3 (by decide) ho16_0 (Below.slT hB hc) (enc_one_encI) (by have := Below.size hB; omega) (by simp; omega) (by simp; omega) (fun v16_2 W116 hG117 ho16_2 hob119 => ⟨.inl (below_grown hS hG117 (Nat.le_refl _) losO109), ?_⟩)) (Y_lit2 (u0 := .int .i64 _) (u1 := .int .i64 _) rfl rfl tb_el57 tb_zs3 rfl rfl (by decide) (by decide) (fun b16_5 W122 hb123 hE124 hm16_5 => ⟨.inl (hS.trans hE124), ?_⟩))
           ·
            have hsS118 := Ext.size hS
            replace hS : Ext _ _ := below_grown hS hG117 (Nat.le_refl _) losO109
            have hap120 := Apart.app (Apart.symm hap107) hob119 ho
            replace ho16_2 := OwT.app (enc := encI) rfl rfl rfl rfl ho16_2
            have losO121 := los_app losO109 hsS118 hob119
            replace hB := below_grown hB hG117 (Nat.le_refl _) (fun j hj => (OwT.lt ho16_0 j hj))
            replace hm0_0 := At.grownOw hm0_0 ho16_0 hG117 (by decide)
            replace ho := OwT.grownAp ho (Apart.symm hap107) hG117
            clear hG117
            clear ho16_0
            rw [List.nil_append] at ho16_2
            refine WT_one (dd := some 85) 5 (by kernel_rfl) rfl rfl rfl rfl (Y_lit2 (u0 := .int .i64 _) (u1 := .int .i64 _) rfl rfl tb_el57 tb_zs3 rfl rfl (by decide) (by decide) (fun b16_5 W128 hb129 hE130 hm16_5 => ⟨.inl (hS.trans hE130), ?_⟩))
            have lo_b16_5 : w.heap.size ≤ b16_5 := hb129 ▸ (Below.size hB)
            have los_b16_5 := Nat.le_trans (Ext.size hS) (Nat.le_of_eq hb129.symm)
            have olt_ho := OwT.lt2 ho
            have olt_ho16_2 := OwT.lt2 ho16_2
            have hap131 : Apart v0 (.slice (some ⟨b16_5, 0, none⟩) 2 2) := fun j h1 h2 => by cases h2; exact absurd (olt_ho _ h1) (by rw [hb129]; exact Nat.lt_irrefl _)
            have hap132 : Apart v16_2 (.slice (some ⟨b16_5, 0, none⟩) 2 2) := fun j h1 h2 => by cases h2; exact absurd (olt_ho16_2 _ h1) (by rw [hb129]; exact Nat.lt_irrefl _)
            clear hb129
            replace hB := below_ext hB hE130 (Nat.le_refl _)
            replace hm0_0 := hE130.at hm0_0
            replace ho := hE130.ow ho
            replace ho16_2 := hE130.ow ho16_2
            replace hS := hS.trans hE130
            clear hE130
            have ho16_5 := own_lit2 (enc := encI) (sz := 1) (a0 := _) (a1 := _) hm16_5 rfl rfl rfl rfl lo_b16_5
            clear hm16_5
            have losO133 : ∀ j, Value.ownBlock (.slice (some ⟨b16_5, 0, none⟩) 2 2) = some j → W102.heap.size ≤ j := fun j e => by have e2 : b16_5 = j := Option.some.inj e; rw [← e2]; exact los_b16_5
            refine WT_one (dd := some 86) 6 (by kernel_rfl) rfl rfl rfl rfl (Y_appendA (v := v16_2) (v2 := .slice (some ⟨b16_5, 0, none⟩) 2 2) rfl rfl tb_el57 tb_zs3 (by decide) ho16_2 ho16_5.sl (enc_one_encI) (by have := Below.size hB; omega) (by simp; omega) (by simp; omega) (fun v16_6 W134 hG135 ho16_6 hob137 => ⟨.inl (below_grown hS hG135 (Nat.le_refl _) losO121), ?_⟩))
            have hsS136 := Ext.size hS
            replace hS : Ext _ _ := below_grown hS hG135 (Nat.le_refl _) losO121
            have hap138 := Apart.app hap120 hob137 ho
            have hap139 := Apart.app hap132 hob137 ho16_5
            replace ho16_6 := OwT.app (enc := encI) rfl rfl rfl rfl ho16_6
            have losO140 := los_app losO121 hsS136 hob137
            replace hB := below_grown hB hG135 (Nat.le_refl _) (fun j hj => (OwT.lt ho16_2 j hj))
            replace hm0_0 := At.grownOw hm0_0 ho16_2 hG135 (by decide)
            replace ho := OwT.grownAp ho hap120 hG135
            replace ho16_5 := OwT.grownAp ho16_5 hap132 hG135
            clear hG135
            clear ho16_2
            refine WT_take (dd := some 12) 7 rfl (by kernel_rfl) (by kernel_rfl) (by kernel_rfl) rfl rfl rfl (fun _wq _hq => r_assign (v := v16_6) rfl) hS ?_
            refine WT_done (by kernel_rfl) ?_
            try clear sv108_hB sv108_hm0_0 sv108_ho
            refine hK101 _ _ ?_
            clear hK101 K100
            refine WC_seq (fun K141 hK142 => ?_)
            refine WC_draw Ext tb_mix (fun W143 hE144 => ?_)
            replace hB := below_ext hB hE144 (Nat.le_refl _)
            replace hm0_0 := hE144.at hm0_0
            replace ho := hE144.ow ho
            replace ho16_5 := hE144.ow ho16_5
            replace ho16_6 := hE144.ow ho16_6
            have hS := Ext.refl W143
            refine WT_take (dd := some 87) 0 rfl (by kernel_rfl) (by kernel_rfl) (by kernel_rfl) rfl rfl rfl (fun _wq hq => r_loadW rfl tb_ag56 rfl (hq.at hm0_0)) hS ?_
            refine WT_take (dd := some 88) 1 rfl (by kernel_rfl) (by kernel_rfl) (by kernel_rfl) rfl rfl rfl (fun _wq _hq => r_move (v := v0) rfl) hS ?_
            refine WT_take (dd := some 90) 3 rfl (by kernel_rfl) (by kernel_rfl) (by kernel_rfl) rfl rfl rfl (fun _wq _hq => r_move (v := .bool _) rfl) hS ?_
            refine WT_one (dd := some 89) 2 (by kernel_rfl) rfl rfl rfl rfl (Yd.call (r_call2 tb_c49 (v0 := .agg #[_, _]) rfl (v1 := v0) rfl) (C_cover_Solves n _ vs L _ (upL n.toNat) _ (Below.slT hB hrv) (LL.below hB hll) hLb hRb ho.sl (by rw [upL_len]; omega)) (fun v17_2 W145 hE146 hP17_2 => ⟨.inl (hS.trans hE146), ?_⟩))
            have hsz147 := (Below.size hB)
            have sv148_hB := hB
            have sv148_hm0_0 := hm0_0
            have sv148_ho := ho
            have sv148_ho16_5 := ho16_5
            have sv148_ho16_6 := ho16_6
            replace hB := below_ext hB hE146 (Nat.le_refl _)
            replace hm0_0 := hE146.at hm0_0
            replace ho := hE146.ow ho
            replace ho16_5 := hE146.ow ho16_5
            replace ho16_6 := hE146.ow ho16_6
            replace hS := hS.trans hE146
            clear hE146
            clear hsz147
            obtain rfl := hP17_2
            refine WT_take (dd := some 91) 4 rfl (by kernel_rfl) (by kernel_rfl) (by kernel_rfl) rfl rfl rfl (fun _wq _hq => r_eqlB rfl rfl Try.underlying4) hS ?_
            refine WT_split (dd := some 92) 5 rfl (by kernel_rfl) (by kernel_rfl) (by kernel_rfl) rfl rfl rfl (fun wq hq => r_move (v := .bool _) rfl) hS (fun hs17_5 => ?_) (fun hs17_5 => ?_)
            ·
             try with_reducible replace hs17_5 := of_decide_eq_true hs17_5
             refine WT_take (dd := some 93) 6 rfl (by kernel_rfl) (by kernel_rfl) (by kernel_rfl) rfl rfl rfl (fun _wq hq => r_loadW rfl tb_ag56 rfl (hq.at sv148_hm0_0)) hS ?_
             refine WT_take (dd := some 94) 7 rfl (by kernel_rfl) (by kernel_rfl) (by kernel_rfl) rfl rfl rfl (fun _wq _hq => r_move (v := v16_6) rfl) hS ?_
             refine WT_take (dd := some 96) 9 rfl (by kernel_rfl) (by kernel_rfl) (by kernel_rfl) rfl rfl rfl (fun _wq hq => r_loadW rfl tb_ag56 rfl (hq.at sv148_hm0_0)) hS ?_
             refine WT_take (dd := some 97) 10 rfl (by kernel_rfl) (by kernel_rfl) (by kernel_rfl) rfl rfl rfl (fun _wq _hq => r_move (v := xc) rfl) hS ?_
             refine WT_one (dd := some 95) 8 (by kernel_rfl) rfl rfl rfl rfl (Yd.call (r_call2 tb_c49 (v0 := .agg #[_, _]) rfl (v1 := v16_6) rfl) (C_cover_Solves n _ vs L _ (cols ++ [-1, n]) _ (Below.slT hB hrv) (LL.below hB hll) hLb hRb ho16_6.sl (by simp; omega)) (fun v17_8 W149 hE150 hP17_8 => ⟨.inl (hS.trans hE150), ?_⟩))
             have hsz151 := (Below.size hB)
             replace hB := below_ext hB hE150 (Nat.le_refl _)
             replace hm0_0 := hE150.at hm0_0
             replace ho := hE150.ow ho
             replace ho16_5 := hE150.ow ho16_5
             replace ho16_6 := hE150.ow ho16_6
             replace hS := hS.trans hE150
             clear hE150
             clear hsz151
             obtain rfl := hP17_8
             refine WT_one (dd := some 98) 11 (by kernel_rfl) rfl rfl rfl rfl (Yd.call (r_call2 tb_c49 (v0 := .agg #[_, _]) rfl (v1 := xc) rfl) (C_cover_Solves n _ vs L _ cols _ (Below.slT hB hrv) (LL.below hB hll) hLb hRb (Below.slT hB hc) (by omega)) (fun v17_11 W152 hE153 hP17_11 => ⟨.inl (hS.trans hE153), ?_⟩))
             have hsz154 := (Below.size hB)
             replace hB := below_ext hB hE153 (Nat.le_refl _)
             replace hm0_0 := hE153.at hm0_0
             replace ho := hE153.ow ho
             replace ho16_5 := hE153.ow ho16_5
             replace ho16_6 := hE153.ow ho16_6
             replace hS := hS.trans hE153
             clear hE153
             clear hsz154
             obtain rfl := hP17_11
             refine WT_take (dd := some 99) 12 rfl (by kernel_rfl) (by kernel_rfl) (by kernel_rfl) rfl rfl rfl (fun _wq _hq => r_eqlB rfl rfl Try.underlying4) hS ?_
             refine WT_take (dd := some 100) 13 rfl (by kernel_rfl) (by kernel_rfl) (by kernel_rfl) rfl rfl rfl (fun _wq _hq => r_pick_t rfl (v := .bool _) rfl) hS ?_
             refine WT_split (dd := some 101) 14 rfl (by kernel_rfl) (by kernel_rfl) (by kernel_rfl) rfl rfl rfl (fun wq hq => r_move (v := .bool _) rfl) hS (fun hs17_14 => ?_) (fun hs17_14 => ?_)
             ·
              try with_reducible replace hs17_14 := of_decide_eq_true hs17_14
              refine WT_one (dd := some 102) 15 (by kernel_rfl) rfl rfl rfl rfl (Yd.call (r_call0 tb_c46) (C_drawknifelaw13_knows _) (fun v17_15 W155 hE156 hP17_15 => ⟨.inl (hS.trans hE156), ?_⟩))
              have hsz157 := (Below.size hB)
              replace hB := below_ext hB hE156 (Nat.le_refl _)
              replace hm0_0 := hE156.at hm0_0
              replace ho := hE156.ow ho
              replace ho16_5 := hE156.ow ho16_5
              replace ho16_6 := hE156.ow ho16_6
              replace hS := hS.trans hE156
              clear hE156
              clear hsz157
              obtain rfl := hP17_15
              refine WT_take (dd := some 103) 16 rfl (by kernel_rfl) (by kernel_rfl) (by kernel_rfl) rfl rfl rfl (fun _wq _hq => r_pick_t rfl (v := .bool _) rfl) hS ?_
              refine WT_take (dd := some 6) 17 rfl (by kernel_rfl) (by kernel_rfl) (by kernel_rfl) rfl rfl rfl (fun _wq _hq => r_assign (v := .bool _) rfl) hS ?_
              refine WT_done (by kernel_rfl) ?_
              try clear sv148_hB sv148_hm0_0 sv148_ho sv148_ho16_5 sv148_ho16_6
              refine hK142 _ _ ?_
              clear hK142 K141
              refine WC_ret ?_
              repeat (first | refine thenQ_ret ?_ | refine blockQ_ret ?_)
              refine ret_t (v := .bool _) rfl ?_
              refine ⟨hB, ?_⟩
              rfl
             ·
              try with_reducible replace hs17_14 := of_decide_eq_false hs17_14
              exact absurd (by rw [hrt, Bool.true_and, Bool.true_and, strange_sol hrt]) hs17_14
            ·
             try with_reducible replace hs17_5 := of_decide_eq_false hs17_5
             exact absurd (by rw [hrt, Bool.true_and, all_sol hrt]) hs17_5
           ·
            have lo_b16_5 : w.heap.size ≤ b16_5 := hb123 ▸ (Below.size hB)
            have los_b16_5 := Nat.le_trans (Ext.size hS) (Nat.le_of_eq hb123.symm)
            have olt_ho := OwT.lt2 ho
            have olt_ho16_0 := OwT.lt2 ho16_0
            have hap125 : Apart v0 (.slice (some ⟨b16_5, 0, none⟩) 2 2) := fun j h1 h2 => by cases h2; exact absurd (olt_ho _ h1) (by rw [hb123]; exact Nat.lt_irrefl _)
            have hap126 : Apart (.slice (some ⟨b16_0, 0, none⟩) 0 0) (.slice (some ⟨b16_5, 0, none⟩) 2 2) := fun j h1 h2 => by cases h2; exact absurd (olt_ho16_0 _ h1) (by rw [hb123]; exact Nat.lt_irrefl _)
            clear hb123
            replace hB := below_ext hB hE124 (Nat.le_refl _)
            replace hm0_0 := hE124.at hm0_0
            replace ho := hE124.ow ho
            replace ho16_0 := hE124.ow ho16_0
            replace hS := hS.trans hE124
            clear hE124
            have ho16_5 := own_lit2 (enc := encI) (sz := 1) (a0 := _) (a1 := _) hm16_5 rfl rfl rfl rfl lo_b16_5
            clear hm16_5
            have losO127 : ∀ j, Value.ownBlock (.slice (some ⟨b16_5, 0, none⟩) 2 2) = some j → W102.heap.size ≤ j := fun j e => by have e2 : b16_5 = j := Option.some.inj e; rw [← e2]; exact los_b16_5
            refine WT_one (dd := some 82) 2 (by kernel_rfl) rfl rfl rfl rfl (Y_appendA (v := .slice (some ⟨b16_0, 0, none⟩) 0 0) (v2 := xc) rfl rfl tb_el57 tb_zs3 (by decide) ho16_0 (Below.slT hB hc) (enc_one_encI) (by have := Below.size hB; omega) (by simp; omega) (by simp; omega) (fun v16_2 W158 hG159 ho16_2 hob161 => ⟨.inl (below_grown hS hG159 (Nat.le_refl _) losO109), ?_⟩))
            have hsS160 := Ext.size hS
            replace hS : Ext _ _ := below_grown hS hG159 (Nat.le_refl _) losO109
            have hap162 := Apart.app (Apart.symm hap107) hob161 ho
            have hap163 := Apart.app hap126 hob161 ho16_5
            replace ho16_2 := OwT.app (enc := encI) rfl rfl rfl rfl ho16_2
            have losO164 := los_app losO109 hsS160 hob161
            replace hB := below_grown hB hG159 (Nat.le_refl _) (fun j hj => (OwT.lt ho16_0 j hj))
            replace hm0_0 := At.grownOw hm0_0 ho16_0 hG159 (by decide)
            replace ho := OwT.grownAp ho (Apart.symm hap107) hG159
            replace ho16_5 := OwT.grownAp ho16_5 hap126 hG159
            clear hG159
            clear ho16_0
            rw [List.nil_append] at ho16_2
            refine WT_one (dd := some 86) 6 (by kernel_rfl) rfl rfl rfl rfl (Y_appendA (v := v16_2) (v2 := .slice (some ⟨b16_5, 0, none⟩) 2 2) rfl rfl tb_el57 tb_zs3 (by decide) ho16_2 ho16_5.sl (enc_one_encI) (by have := Below.size hB; omega) (by simp; omega) (by simp; omega) (fun v16_6 W165 hG166 ho16_6 hob168 => ⟨.inl (below_grown hS hG166 (Nat.le_refl _) losO164), ?_⟩))
            have hsS167 := Ext.size hS
            replace hS : Ext _ _ := below_grown hS hG166 (Nat.le_refl _) losO164
            have hap169 := Apart.app hap162 hob168 ho
            have hap170 := Apart.app hap163 hob168 ho16_5
            replace ho16_6 := OwT.app (enc := encI) rfl rfl rfl rfl ho16_6
            have losO171 := los_app losO164 hsS167 hob168
            replace hB := below_grown hB hG166 (Nat.le_refl _) (fun j hj => (OwT.lt ho16_2 j hj))
            replace hm0_0 := At.grownOw hm0_0 ho16_2 hG166 (by decide)
            replace ho := OwT.grownAp ho hap162 hG166
            replace ho16_5 := OwT.grownAp ho16_5 hap163 hG166
            clear hG166
            clear ho16_2
            refine WT_take (dd := some 12) 7 rfl (by kernel_rfl) (by kernel_rfl) (by kernel_rfl) rfl rfl rfl (fun _wq _hq => r_assign (v := v16_6) rfl) hS ?_
            refine WT_done (by kernel_rfl) ?_
            try clear sv108_hB sv108_hm0_0 sv108_ho
            refine hK101 _ _ ?_
            clear hK101 K100
            refine WC_seq (fun K172 hK173 => ?_)
            refine WC_draw Ext tb_mix (fun W174 hE175 => ?_)
            replace hB := below_ext hB hE175 (Nat.le_refl _)
            replace hm0_0 := hE175.at hm0_0
            replace ho := hE175.ow ho
            replace ho16_5 := hE175.ow ho16_5
            replace ho16_6 := hE175.ow ho16_6
            have hS := Ext.refl W174
            refine WT_take (dd := some 87) 0 rfl (by kernel_rfl) (by kernel_rfl) (by kernel_rfl) rfl rfl rfl (fun _wq hq => r_loadW rfl tb_ag56 rfl (hq.at hm0_0)) hS ?_
            refine WT_take (dd := some 88) 1 rfl (by kernel_rfl) (by kernel_rfl) (by kernel_rfl) rfl rfl rfl (fun _wq _hq => r_move (v := v0) rfl) hS ?_
            refine WT_take (dd := some 90) 3 rfl (by kernel_rfl) (by kernel_rfl) (by kernel_rfl) rfl rfl rfl (fun _wq _hq => r_move (v := .bool _) rfl) hS ?_
            refine WT_one (dd := some 89) 2 (by kernel_rfl) rfl rfl rfl rfl (Yd.call (r_call2 tb_c49 (v0 := .agg #[_, _]) rfl (v1 := v0) rfl) (C_cover_Solves n _ vs L _ (upL n.toNat) _ (Below.slT hB hrv) (LL.below hB hll) hLb hRb ho.sl (by rw [upL_len]; omega)) (fun v17_2 W176 hE177 hP17_2 => ⟨.inl (hS.trans hE177), ?_⟩))
            have hsz178 := (Below.size hB)
            have sv179_hB := hB
            have sv179_hm0_0 := hm0_0
            have sv179_ho := ho
            have sv179_ho16_5 := ho16_5
            have sv179_ho16_6 := ho16_6
            replace hB := below_ext hB hE177 (Nat.le_refl _)
            replace hm0_0 := hE177.at hm0_0
            replace ho := hE177.ow ho
            replace ho16_5 := hE177.ow ho16_5
            replace ho16_6 := hE177.ow ho16_6
            replace hS := hS.trans hE177
            clear hE177
            clear hsz178
            obtain rfl := hP17_2
            refine WT_take (dd := some 91) 4 rfl (by kernel_rfl) (by kernel_rfl) (by kernel_rfl) rfl rfl rfl (fun _wq _hq => r_eqlB rfl rfl Try.underlying4) hS ?_
            refine WT_split (dd := some 92) 5 rfl (by kernel_rfl) (by kernel_rfl) (by kernel_rfl) rfl rfl rfl (fun wq hq => r_move (v := .bool _) rfl) hS (fun hs17_5 => ?_) (fun hs17_5 => ?_)
            ·
             try with_reducible replace hs17_5 := of_decide_eq_true hs17_5
             refine WT_take (dd := some 93) 6 rfl (by kernel_rfl) (by kernel_rfl) (by kernel_rfl) rfl rfl rfl (fun _wq hq => r_loadW rfl tb_ag56 rfl (hq.at sv179_hm0_0)) hS ?_
             refine WT_take (dd := some 94) 7 rfl (by kernel_rfl) (by kernel_rfl) (by kernel_rfl) rfl rfl rfl (fun _wq _hq => r_move (v := v16_6) rfl) hS ?_
             refine WT_take (dd := some 96) 9 rfl (by kernel_rfl) (by kernel_rfl) (by kernel_rfl) rfl rfl rfl (fun _wq hq => r_loadW rfl tb_ag56 rfl (hq.at sv179_hm0_0)) hS ?_
             refine WT_take (dd := some 97) 10 rfl (by kernel_rfl) (by kernel_rfl) (by kernel_rfl) rfl rfl rfl (fun _wq _hq => r_move (v := xc) rfl) hS ?_
             refine WT_one (dd := some 95) 8 (by kernel_rfl) rfl rfl rfl rfl (Yd.call (r_call2 tb_c49 (v0 := .agg #[_, _]) rfl (v1 := v16_6) rfl) (C_cover_Solves n _ vs L _ (cols ++ [-1, n]) _ (Below.slT hB hrv) (LL.below hB hll) hLb hRb ho16_6.sl (by simp; omega)) (fun v17_8 W180 hE181 hP17_8 => ⟨.inl (hS.trans hE181), ?_⟩))
             have hsz182 := (Below.size hB)
             replace hB := below_ext hB hE181 (Nat.le_refl _)
             replace hm0_0 := hE181.at hm0_0
             replace ho := hE181.ow ho
             replace ho16_5 := hE181.ow ho16_5
             replace ho16_6 := hE181.ow ho16_6
             replace hS := hS.trans hE181
             clear hE181
             clear hsz182
             obtain rfl := hP17_8
             refine WT_one (dd := some 98) 11 (by kernel_rfl) rfl rfl rfl rfl (Yd.call (r_call2 tb_c49 (v0 := .agg #[_, _]) rfl (v1 := xc) rfl) (C_cover_Solves n _ vs L _ cols _ (Below.slT hB hrv) (LL.below hB hll) hLb hRb (Below.slT hB hc) (by omega)) (fun v17_11 W183 hE184 hP17_11 => ⟨.inl (hS.trans hE184), ?_⟩))
             have hsz185 := (Below.size hB)
             replace hB := below_ext hB hE184 (Nat.le_refl _)
             replace hm0_0 := hE184.at hm0_0
             replace ho := hE184.ow ho
             replace ho16_5 := hE184.ow ho16_5
             replace ho16_6 := hE184.ow ho16_6
             replace hS := hS.trans hE184
             clear hE184
             clear hsz185
             obtain rfl := hP17_11
             refine WT_take (dd := some 99) 12 rfl (by kernel_rfl) (by kernel_rfl) (by kernel_rfl) rfl rfl rfl (fun _wq _hq => r_eqlB rfl rfl Try.underlying4) hS ?_
             refine WT_take (dd := some 100) 13 rfl (by kernel_rfl) (by kernel_rfl) (by kernel_rfl) rfl rfl rfl (fun _wq _hq => r_pick_t rfl (v := .bool _) rfl) hS ?_
             refine WT_split (dd := some 101) 14 rfl (by kernel_rfl) (by kernel_rfl) (by kernel_rfl) rfl rfl rfl (fun wq hq => r_move (v := .bool _) rfl) hS (fun hs17_14 => ?_) (fun hs17_14 => ?_)
             ·
              try with_reducible replace hs17_14 := of_decide_eq_true hs17_14
              refine WT_one (dd := some 102) 15 (by kernel_rfl) rfl rfl rfl rfl (Yd.call (r_call0 tb_c46) (C_drawknifelaw13_knows _) (fun v17_15 W186 hE187 hP17_15 => ⟨.inl (hS.trans hE187), ?_⟩))
              have hsz188 := (Below.size hB)
              replace hB := below_ext hB hE187 (Nat.le_refl _)
              replace hm0_0 := hE187.at hm0_0
              replace ho := hE187.ow ho
              replace ho16_5 := hE187.ow ho16_5
              replace ho16_6 := hE187.ow ho16_6
              replace hS := hS.trans hE187
              clear hE187
              clear hsz188
              obtain rfl := hP17_15
              refine WT_take (dd := some 103) 16 rfl (by kernel_rfl) (by kernel_rfl) (by kernel_rfl) rfl rfl rfl (fun _wq _hq => r_pick_t rfl (v := .bool _) rfl) hS ?_
              refine WT_take (dd := some 6) 17 rfl (by kernel_rfl) (by kernel_rfl) (by kernel_rfl) rfl rfl rfl (fun _wq _hq => r_assign (v := .bool _) rfl) hS ?_
              refine WT_done (by kernel_rfl) ?_
              try clear sv179_hB sv179_hm0_0 sv179_ho sv179_ho16_5 sv179_ho16_6
              refine hK173 _ _ ?_
              clear hK173 K172
              refine WC_ret ?_
              repeat (first | refine thenQ_ret ?_ | refine blockQ_ret ?_)
              refine ret_t (v := .bool _) rfl ?_
              refine ⟨hB, ?_⟩
              rfl
             ·
              try with_reducible replace hs17_14 := of_decide_eq_false hs17_14
              exact absurd (by rw [hrt, Bool.true_and, Bool.true_and, strange_sol hrt]) hs17_14
            ·
             try with_reducible replace hs17_5 := of_decide_eq_false hs17_5
             exact absurd (by rw [hrt, Bool.true_and, all_sol hrt]) hs17_5
          ·
           have lo_b16_5 : w.heap.size ≤ b16_5 := hb111 ▸ (Below.size hB)
           have los_b16_5 := Nat.le_trans (Ext.size hS) (Nat.le_of_eq hb111.symm)
           have olt_ho := OwT.lt2 ho
           have hap113 : Apart v0 (.slice (some ⟨b16_5, 0, none⟩) 2 2) := fun j h1 h2 => by cases h2; exact absurd (olt_ho _ h1) (by rw [hb111]; exact Nat.lt_irrefl _)
           clear hb111
           have sv114_hB := hB
           have sv114_hm0_0 := hm0_0
           have sv114_ho := ho
           replace hB := below_ext hB hE112 (Nat.le_refl _)
           replace hm0_0 := hE112.at hm0_0
           replace ho := hE112.ow ho
           replace hS := hS.trans hE112
           clear hE112
           have ho16_5 := own_lit2 (enc := encI) (sz := 1) (a0 := _) (a1 := _) hm16_5 rfl rfl rfl rfl lo_b16_5
           clear hm16_5
           have losO115 : ∀ j, Value.ownBlock (.slice (some ⟨b16_5, 0, none⟩) 2 2) = some j → W102.heap.size ≤ j := fun j e => by have e2 : b16_5 = j := Option.some.inj e; rw [← e2]; exact los_b16_5
           refine WT_one (dd := some 80) 0 (by kernel_rfl) rfl rfl rfl rfl (Y_lit0 tb_el57 (fun b16_0 W189 hb190 hE191 hm16_0 => ⟨.inl (hS.trans hE191), ?_⟩))
           have lo_b16_0 : w.heap.size ≤ b16_0 := hb190 ▸ (Below.size hB)
           have los_b16_0 := Nat.le_trans (Ext.size hS) (Nat.le_of_eq hb190.symm)
           have olt_ho := OwT.lt2 ho
           have olt_ho16_5 := OwT.lt2 ho16_5
           have hap192 : Apart v0 (.slice (some ⟨b16_0, 0, none⟩) 0 0) := fun j h1 h2 => by cases h2; exact absurd (olt_ho _ h1) (by rw [hb190]; exact Nat.lt_irrefl _)
           have hap193 : Apart (.slice (some ⟨b16_5, 0, none⟩) 2 2) (.slice (some ⟨b16_0, 0, none⟩) 0 0) := fun j h1 h2 => by cases h2; exact absurd (olt_ho16_5 _ h1) (by rw [hb190]; exact Nat.lt_irrefl _)
           clear hb190
           replace hB := below_ext hB hE191 (Nat.le_refl _)
           replace hm0_0 := hE191.at hm0_0
           replace ho := hE191.ow ho
           replace ho16_5 := hE191.ow ho16_5
           replace hS := hS.trans hE191
           clear hE191
           have ho16_0 := own_lit0 (enc := encI) (sz := 1) hm16_0 lo_b16_0
           clear hm16_0
           have losO194 : ∀ j, Value.ownBlock (.slice (some ⟨b16_0, 0, none⟩) 0 0) = some j → W102.heap.size ≤ j := fun j e => by have e2 : b16_0 = j := Option.some.inj e; rw [← e2]; exact los_b16_0
           refine WT_one (dd := some 82) 2 (by kernel_rfl) rfl rfl rfl rfl (Y_appendA (v := .slice (some ⟨b16_0, 0, none⟩) 0 0) (v2 := xc) rfl rfl tb_el57 tb_zs3 (by decide) ho16_0 (Below.slT hB hc) (enc_one_encI) (by have := Below.size hB; omega) (by simp; omega) (by simp; omega) (fun v16_2 W195 hG196 ho16_2 hob198 => ⟨.inl (below_grown hS hG196 (Nat.le_refl _) losO194), ?_⟩))
           have hsS197 := Ext.size hS
           replace hS : Ext _ _ := below_grown hS hG196 (Nat.le_refl _) losO194
           have hap199 := Apart.app (Apart.symm hap192) hob198 ho
           have hap200 := Apart.app (Apart.symm hap193) hob198 ho16_5
           replace ho16_2 := OwT.app (enc := encI) rfl rfl rfl rfl ho16_2
           have losO201 := los_app losO194 hsS197 hob198
           replace hB := below_grown hB hG196 (Nat.le_refl _) (fun j hj => (OwT.lt ho16_0 j hj))
           replace hm0_0 := At.grownOw hm0_0 ho16_0 hG196 (by decide)
           replace ho := OwT.grownAp ho (Apart.symm hap192) hG196
           replace ho16_5 := OwT.grownAp ho16_5 (Apart.symm hap193) hG196
           clear hG196
           clear ho16_0
           rw [List.nil_append] at ho16_2
           refine WT_one (dd := some 86) 6 (by kernel_rfl) rfl rfl rfl rfl (Y_appendA (v := v16_2) (v2 := .slice (some ⟨b16_5, 0, none⟩) 2 2) rfl rfl tb_el57 tb_zs3 (by decide) ho16_2 ho16_5.sl (enc_one_encI) (by have := Below.size hB; omega) (by simp; omega) (by simp; omega) (fun v16_6 W202 hG203 ho16_6 hob205 => ⟨.inl (below_grown hS hG203 (Nat.le_refl _) losO201), ?_⟩))
           have hsS204 := Ext.size hS
           replace hS : Ext _ _ := below_grown hS hG203 (Nat.le_refl _) losO201
           have hap206 := Apart.app hap199 hob205 ho
           have hap207 := Apart.app hap200 hob205 ho16_5
           replace ho16_6 := OwT.app (enc := encI) rfl rfl rfl rfl ho16_6
           have losO208 := los_app losO201 hsS204 hob205
           replace hB := below_grown hB hG203 (Nat.le_refl _) (fun j hj => (OwT.lt ho16_2 j hj))
           replace hm0_0 := At.grownOw hm0_0 ho16_2 hG203 (by decide)
           replace ho := OwT.grownAp ho hap199 hG203
           replace ho16_5 := OwT.grownAp ho16_5 hap200 hG203
           clear hG203
           clear ho16_2
           refine WT_take (dd := some 12) 7 rfl (by kernel_rfl) (by kernel_rfl) (by kernel_rfl) rfl rfl rfl (fun _wq _hq => r_assign (v := v16_6) rfl) hS ?_
           refine WT_done (by kernel_rfl) ?_
           try clear sv114_hB sv114_hm0_0 sv114_ho
           refine hK101 _ _ ?_
           clear hK101 K100
           refine WC_seq (fun K209 hK210 => ?_)
           refine WC_draw Ext tb_mix (fun W211 hE212 => ?_)
           replace hB := below_ext hB hE212 (Nat.le_refl _)
           replace hm0_0 := hE212.at hm0_0
           replace ho := hE212.ow ho
           replace ho16_5 := hE212.ow ho16_5
           replace ho16_6 := hE212.ow ho16_6
           have hS := Ext.refl W211
           refine WT_take (dd := some 87) 0 rfl (by kernel_rfl) (by kernel_rfl) (by kernel_rfl) rfl rfl rfl (fun _wq hq => r_loadW rfl tb_ag56 rfl (hq.at hm0_0)) hS ?_
           refine WT_take (dd := some 88) 1 rfl (by kernel_rfl) (by kernel_rfl) (by kernel_rfl) rfl rfl rfl (fun _wq _hq => r_move (v := v0) rfl) hS ?_
           refine WT_take (dd := some 90) 3 rfl (by kernel_rfl) (by kernel_rfl) (by kernel_rfl) rfl rfl rfl (fun _wq _hq => r_move (v := .bool _) rfl) hS ?_
           refine WT_one (dd := some 89) 2 (by kernel_rfl) rfl rfl rfl rfl (Yd.call (r_call2 tb_c49 (v0 := .agg #[_, _]) rfl (v1 := v0) rfl) (C_cover_Solves n _ vs L _ (upL n.toNat) _ (Below.slT hB hrv) (LL.below hB hll) hLb hRb ho.sl (by rw [upL_len]; omega)) (fun v17_2 W213 hE214 hP17_2 => ⟨.inl (hS.trans hE214), ?_⟩))
           have hsz215 := (Below.size hB)
           have sv216_hB := hB
           have sv216_hm0_0 := hm0_0
           have sv216_ho := ho
           have sv216_ho16_5 := ho16_5
           have sv216_ho16_6 := ho16_6
           replace hB := below_ext hB hE214 (Nat.le_refl _)
           replace hm0_0 := hE214.at hm0_0
           replace ho := hE214.ow ho
           replace ho16_5 := hE214.ow ho16_5
           replace ho16_6 := hE214.ow ho16_6
           replace hS := hS.trans hE214
           clear hE214
           clear hsz215
           obtain rfl := hP17_2
           refine WT_take (dd := some 91) 4 rfl (by kernel_rfl) (by kernel_rfl) (by kernel_rfl) rfl rfl rfl (fun _wq _hq => r_eqlB rfl rfl Try.underlying4) hS ?_
           refine WT_split (dd := some 92) 5 rfl (by kernel_rfl) (by kernel_rfl) (by kernel_rfl) rfl rfl rfl (fun wq hq => r_move (v := .bool _) rfl) hS (fun hs17_5 => ?_) (fun hs17_5 => ?_)
           ·
            try with_reducible replace hs17_5 := of_decide_eq_true hs17_5
            refine WT_take (dd := some 93) 6 rfl (by kernel_rfl) (by kernel_rfl) (by kernel_rfl) rfl rfl rfl (fun _wq hq => r_loadW rfl tb_ag56 rfl (hq.at sv216_hm0_0)) hS ?_
            refine WT_take (dd := some 94) 7 rfl (by kernel_rfl) (by kernel_rfl) (by kernel_rfl) rfl rfl rfl (fun _wq _hq => r_move (v := v16_6) rfl) hS ?_
            refine WT_take (dd := some 96) 9 rfl (by kernel_rfl) (by kernel_rfl) (by kernel_rfl) rfl rfl rfl (fun _wq hq => r_loadW rfl tb_ag56 rfl (hq.at sv216_hm0_0)) hS ?_
            refine WT_take (dd := some 97) 10 rfl (by kernel_rfl) (by kernel_rfl) (by kernel_rfl) rfl rfl rfl (fun _wq _hq => r_move (v := xc) rfl) hS ?_
            refine WT_one (dd := some 95) 8 (by kernel_rfl) rfl rfl rfl rfl (Yd.call (r_call2 tb_c49 (v0 := .agg #[_, _]) rfl (v1 := v16_6) rfl) (C_cover_Solves n _ vs L _ (cols ++ [-1, n]) _ (Below.slT hB hrv) (LL.below hB hll) hLb hRb ho16_6.sl (by simp; omega)) (fun v17_8 W217 hE218 hP17_8 => ⟨.inl (hS.trans hE218), ?_⟩))
            have hsz219 := (Below.size hB)
            replace hB := below_ext hB hE218 (Nat.le_refl _)
            replace hm0_0 := hE218.at hm0_0
            replace ho := hE218.ow ho
            replace ho16_5 := hE218.ow ho16_5
            replace ho16_6 := hE218.ow ho16_6
            replace hS := hS.trans hE218
            clear hE218
            clear hsz219
            obtain rfl := hP17_8
            refine WT_one (dd := some 98) 11 (by kernel_rfl) rfl rfl rfl rfl (Yd.call (r_call2 tb_c49 (v0 := .agg #[_, _]) rfl (v1 := xc) rfl) (C_cover_Solves n _ vs L _ cols _ (Below.slT hB hrv) (LL.below hB hll) hLb hRb (Below.slT hB hc) (by omega)) (fun v17_11 W220 hE221 hP17_11 => ⟨.inl (hS.trans hE221), ?_⟩))
            have hsz222 := (Below.size hB)
            replace hB := below_ext hB hE221 (Nat.le_refl _)
            replace hm0_0 := hE221.at hm0_0
            replace ho := hE221.ow ho
            replace ho16_5 := hE221.ow ho16_5
            replace ho16_6 := hE221.ow ho16_6
            replace hS := hS.trans hE221
            clear hE221
            clear hsz222
            obtain rfl := hP17_11
            refine WT_take (dd := some 99) 12 rfl (by kernel_rfl) (by kernel_rfl) (by kernel_rfl) rfl rfl rfl (fun _wq _hq => r_eqlB rfl rfl Try.underlying4) hS ?_
            refine WT_take (dd := some 100) 13 rfl (by kernel_rfl) (by kernel_rfl) (by kernel_rfl) rfl rfl rfl (fun _wq _hq => r_pick_t rfl (v := .bool _) rfl) hS ?_
            refine WT_split (dd := some 101) 14 rfl (by kernel_rfl) (by kernel_rfl) (by kernel_rfl) rfl rfl rfl (fun wq hq => r_move (v := .bool _) rfl) hS (fun hs17_14 => ?_) (fun hs17_14 => ?_)
            ·
             try with_reducible replace hs17_14 := of_decide_eq_true hs17_14
             refine WT_one (dd := some 102) 15 (by kernel_rfl) rfl rfl rfl rfl (Yd.call (r_call0 tb_c46) (C_drawknifelaw13_knows _) (fun v17_15 W223 hE224 hP17_15 => ⟨.inl (hS.trans hE224), ?_⟩))
             have hsz225 := (Below.size hB)
             replace hB := below_ext hB hE224 (Nat.le_refl _)
             replace hm0_0 := hE224.at hm0_0
             replace ho := hE224.ow ho
             replace ho16_5 := hE224.ow ho16_5
             replace ho16_6 := hE224.ow ho16_6
             replace hS := hS.trans hE224
             clear hE224
             clear hsz225
             obtain rfl := hP17_15
             refine WT_take (dd := some 103) 16 rfl (by kernel_rfl) (by kernel_rfl) (by kernel_rfl) rfl rfl rfl (fun _wq _hq => r_pick_t rfl (v := .bool _) rfl) hS ?_
             refine WT_take (dd := some 6) 17 rfl (by kernel_rfl) (by kernel_rfl) (by kernel_rfl) rfl rfl rfl (fun _wq _hq => r_assign (v := .bool _) rfl) hS ?_
             refine WT_done (by kernel_rfl) ?_
             try clear sv216_hB sv216_hm0_0 sv216_ho sv216_ho16_5 sv216_ho16_6
             refine hK210 _ _ ?_
             clear hK210 K209
             refine WC_ret ?_
             repeat (first | refine thenQ_ret ?_ | refine blockQ_ret ?_)
             refine ret_t (v := .bool _) rfl ?_
             refine ⟨hB, ?_⟩
             rfl
            ·
             try with_reducible replace hs17_14 := of_decide_eq_false hs17_14
             exact absurd (by rw [hrt, Bool.true_and, Bool.true_and, strange_sol hrt]) hs17_14
           ·
            try with_reducible replace hs17_5 := of_decide_eq_false hs17_5
            exact absurd (by rw [hrt, Bool.true_and, all_sol hrt]) hs17_5
      ·
       try with_reducible replace hs4_3 := of_decide_eq_false hs4_3
       refine WL_skip (dd := some 48) rfl rfl rfl ?_
       refine WL_skip (dd := some 49) rfl rfl rfl ?_
       refine WL_skip (dd := some 50) rfl rfl rfl ?_
       refine WL_skip (dd := some 51) rfl rfl rfl ?_
       refine WL_val (dd := some 52) rfl rfl rfl (r_pick_f rfl (v := .bool false) rfl) ?_
       refine WL_nil ?_
       refine hK55 _ _ ?_
       clear hK55 K54
       refine WC_cond_false rfl ?_
       refine WC_skip ?_
       refine hK53 _ _ ?_
       clear hK53 K52
       refine WC_seq (fun K226 hK227 => ?_)
       refine WC_region ?_
       refine WL_val (dd := some 8) rfl rfl rfl (r_assign (v := .slice none 0 0) rfl) ?_
       refine WL_nil ?_
       refine hK227 _ _ ?_
       clear hK227 K226
       refine WC_seq (fun K228 hK229 => ?_)
       refine WC_seq (fun K230 hK231 => ?_)
       refine WC_region ?_
       refine WL_val (dd := some 9) rfl rfl rfl (r_assign (v := .int .i64 0) rfl) ?_
       refine WL_nil ?_
       refine hK231 _ _ ?_
       clear hK231 K230
       refine WC_block ?_
       refine WC_loop (σ := (Nat) × (Value)) [8, 9, 53, 54, 55, 56, 57, 58, 59, 60, 61, 62] (fun (c, v0) => [(9, .int .i64 (c : Int)), (8, v0)]) (fun sg W => match sg with | (c, v0) => (Below w.heap.size w W) ∧ (At W b0_0 _ 56) ∧ (OwT encI 1 3 W w.heap.size v0 (upL c)) ∧ (c ≤ n.toNat) ∧ (True)) (fun (c, v0) => n.toNat - c) ((0, .slice none 0 0)) ⟨rfl, rfl, trivial⟩ ⟨hB, hm0_0, OwT.nil, (Nat.zero_le _), trivial⟩ ?_
       clear hB hm0_0 ho3_4
       rintro ⟨c, v0⟩ g233 W232 ⟨hB, hm0_0, ho, hcn, _⟩ J234 hJ235
       refine WC_seq (fun K236 hK237 => ?_)
       refine WC_seq (fun K238 hK239 => ?_)
       refine WC_region ?_
       refine WL_val (dd := some 53) rfl rfl rfl (r_move (v := .int .i64 _) rfl) ?_
       refine WL_val (dd := some 54) rfl rfl rfl (r_fieldAddr (b := _) (o := _) rfl tb_fo56_0) ?_
       refine WL_val (dd := some 55) rfl rfl rfl (r_load1 (v := .int .i64 _) rfl tb_sc3 (At.cell hm0_0 rfl)) ?_
       refine WL_val (dd := some 56) rfl rfl rfl (r_lss rfl rfl) ?_
       refine WL_nil ?_
       refine hK239 _ _ ?_
       clear hK239 K238
       refine WC_cond (b := _) rfl (fun hc2 => ?_) (fun hc2 => ?_)
       ·
        try with_reducible replace hc2 := of_decide_eq_true hc2
        refine WC_skip ?_
        refine hK237 _ _ ?_
        clear hK237 K236
        refine WC_seq (fun K240 hK241 => ?_)
        refine WC_block ?_
        have hul := upL_len c
        refine WC_region ?_
        refine WL_val (dd := some 59) rfl rfl rfl (r_move (v := v0) rfl) ?_
        refine WL_val (dd := some 60) rfl rfl rfl (r_move (v := .int .i64 _) rfl) ?_
        refine WL_step (dd := some 61) rfl rfl rfl (Y_lit1 (u := .int .i64 _) rfl tb_el57 tb_zs3 rfl (by decide) (by decide) (fun b10_2 W242 hb243 hE244 hm10_2 => ?_))
        have lo_b10_2 : w.heap.size ≤ b10_2 := hb243 ▸ (Below.size hB)
        have no_v0_b10_2 := OwT.neB (b := b10_2) ho (Nat.le_of_eq hb243.symm)
        clear hb243
        replace hB := below_ext hB hE244 (Nat.le_refl _)
        replace hm0_0 := hE244.at hm0_0
        replace ho := hE244.ow ho
        clear hE244
        refine WL_step (dd := some 62) rfl rfl rfl (Y_append (v := v0) (v2 := .slice (some ⟨b10_2, 0, none⟩) 1 1) rfl rfl tb_el57 tb_zs3 (by decide) ho (sl_lit1 hm10_2 rfl) rfl (by have := Below.size hB; omega) (by first | omega | (simp; omega) | (simp only [flagsTo_len, litsTo_len, firstF_len, ptF_len, setF_len]; omega)) (by first | omega | (simp; omega) | (simp only [flagsTo_len, litsTo_len, firstF_len, ptF_len, setF_len]; omega)) (fun v10_3 W245 hG246 ho10_3 => ?_))
        replace ho10_3 := OwT.snoc (enc := encI) (x := _) rfl rfl rfl rfl ho10_3
        clear hm10_2
        replace hB := below_grown hB hG246 (Nat.le_refl _) (fun j hj => (OwT.lt ho j hj))
        replace hm0_0 := At.grownOw hm0_0 ho hG246 (by decide)
        clear hG246
        clear ho
        refine WL_val (dd := some 8) rfl rfl rfl (r_assign (v := v10_3) rfl) ?_
        refine WL_nil ?_
        refine hK241 _ _ ?_
        clear hK241 K240
        refine WC_region ?_
        refine WL_val (dd := some 57) rfl rfl rfl (r_move (v := .int .i64 _) rfl) ?_
        refine WL_val (dd := some 58) rfl rfl rfl (r_addI rfl rfl (by omega) (by omega)) ?_
        refine WL_val (dd := some 9) rfl rfl rfl (r_assign (v := .int .i64 _) rfl) ?_
        refine WL_nil ?_
        refine hJ235 _ _ ((c + 1, v10_3)) ?_ ?_ ?_ ?_
        · repeat (first | exact agree.mask _ _ _ | refine agree.updo ?_ rfl _ | refine agree.updL ?_ _ rfl | refine agree.maskS rfl ?_)
        · exact ⟨rfl, rfl, trivial⟩
        · exact ⟨hB, hm0_0, (by rw [← upL_snoc]; exact ho10_3), (by omega), trivial⟩
        · show n.toNat - (c + 1) < n.toNat - c; omega
       ·
        try with_reducible replace hc2 := of_decide_eq_false hc2
        refine WC_exit ?_
        refine hK229 _ _ ?_
        clear hK237 K236
        clear hJ235 J234
        clear hK229 K228
        refine WC_seq (fun K248 hK249 => ?_)
        obtain rfl : c = n.toNat := by omega
        refine WC_region ?_
        refine WL_val (dd := some 10) rfl rfl rfl (r_assign (v := .bool true) rfl) ?_
        refine WL_nil ?_
        refine hK249 _ _ ?_
        clear hK249 K248
        refine WC_seq (fun K250 hK251 => ?_)
        refine WC_seq (fun K252 hK253 => ?_)
        refine WC_region ?_
        refine WL_val (dd := some 11) rfl rfl rfl (r_assign (v := .int .i64 0) rfl) ?_
        refine WL_nil ?_
        refine hK253 _ _ ?_
        clear hK253 K252
        refine WC_block ?_
        refine WC_loop (σ := (Nat)) [10, 11, 63, 64, 65, 66, 67, 68, 69, 70, 71, 72, 73, 74, 75, 76, 77, 78, 79] (fun i => [(11, .int .i64 (i : Int)), (10, .bool (fullTo L i))]) (fun i W => (Below w.heap.size w W) ∧ (At W b0_0 _ 56) ∧ (OwT encI 1 3 W w.heap.size v0 _) ∧ (i ≤ L.length) ∧ (True)) (fun i => L.length - i) (0) ⟨rfl, congrArg Value.bool (full_0 _), trivial⟩ ⟨hB, hm0_0, ho, (Nat.zero_le _), trivial⟩ ?_
        clear hB hm0_0 ho
        rintro i g255 W254 ⟨hB, hm0_0, ho, hi, _⟩ J256 hJ257
        refine WC_seq (fun K258 hK259 => ?_)
        refine WC_seq (fun K260 hK261 => ?_)
        refine WC_region ?_
        refine WL_val (dd := some 63) rfl rfl rfl (r_move (v := .int .i64 _) rfl) ?_
        refine WL_val (dd := some 64) rfl rfl rfl (r_fieldAddr (b := _) (o := _) rfl tb_fo56_1) ?_
        refine WL_val (dd := some 65) rfl rfl rfl (r_load1 (v := rv) rfl tb_sc54 (At.cell hm0_0 rfl)) ?_
        refine WL_val (dd := some 66) rfl rfl rfl (r_lenS (v := rv) rfl (Below.slT hB hrv) tb_el54) ?_
        refine WL_val (dd := some 67) rfl rfl rfl (r_lss rfl rfl) ?_
        refine WL_nil ?_
        refine hK261 _ _ ?_
        clear hK261 K260
        refine WC_cond (b := _) rfl (fun hc3 => ?_) (fun hc3 => ?_)
        ·
         try with_reducible replace hc3 := of_decide_eq_true hc3
         refine WC_skip ?_
         refine hK259 _ _ ?_
         clear hK259 K258
         refine WC_seq (fun K262 hK263 => ?_)
         refine WC_block ?_
         refine WC_region ?_
         refine WL_val (dd := some 70) rfl rfl rfl (r_move (v := .bool _) rfl) ?_
         refine WL_split (dd := some 71) rfl rfl rfl (r_move (v := .bool _) rfl) (fun hs15_1 => ?_) (fun hs15_1 => ?_)
         ·
          try with_reducible replace hs15_1 := of_decide_eq_true hs15_1
          refine WL_val (dd := some 72) rfl rfl rfl (r_fieldAddr (b := _) (o := _) rfl tb_fo56_1) ?_
          refine WL_val (dd := some 73) rfl rfl rfl (r_load1 (v := rv) rfl tb_sc54 (At.cell hm0_0 rfl)) ?_
          refine WL_val (dd := some 74) rfl rfl rfl (r_move (v := .int .i64 _) rfl) ?_
          refine WL_val (dd := some 75) rfl rfl rfl (r_idxS (v := rv) rfl (Below.slT hB hrv) rfl tb_el54 (by omega) (by first | omega | (simp only [flagsTo_len, litsTo_len, firstF_len, ptF_len, setF_len]; omega))) ?_
          refine WL_val (dd := some 76) rfl rfl rfl (r_load1 (v := (vs.getD i undef)) rfl tb_sc57 (SlT.cell (Below.slT hB hrv) encV_len undef (by omega) (by first | omega | (simp only [flagsTo_len, litsTo_len, firstF_len, ptF_len, setF_len]; omega)) 0 rfl)) ?_
          have hp15_6 : SlT encI 1 w ((vs.getD i undef)) (L.getD i []) := hll.get i (by omega)
          refine WL_val (dd := some 77) rfl rfl rfl (r_lenS (v := (vs.getD i undef)) rfl (Below.slT hB hp15_6) tb_el57) ?_
          refine WL_val (dd := some 78) rfl rfl rfl (r_gtr rfl rfl) ?_
          refine WL_val (dd := some 79) rfl rfl rfl (r_pick_t rfl (v := .bool _) rfl) ?_
          refine WL_val (dd := some 10) rfl rfl rfl (r_assign (v := .bool _) rfl) ?_
          refine WL_nil ?_
          refine hK263 _ _ ?_
          clear hK263 K262
          refine WC_region ?_
          refine WL_val (dd := some 68) rfl rfl rfl (r_move (v := .int .i64 _) rfl) ?_
          refine WL_val (dd := some 69) rfl rfl rfl (r_addI rfl rfl (by omega) (by omega)) ?_
          refine WL_val (dd := some 11) rfl rfl rfl (r_assign (v := .int .i64 _) rfl) ?_
          refine WL_nil ?_
          refine hJ257 _ _ (i + 1) ?_ ?_ ?_ ?_
          · repeat (first | exact agree.mask _ _ _ | refine agree.updo ?_ rfl _ | refine agree.updL ?_ _ rfl | refine agree.maskS rfl ?_)
          · exact ⟨rfl, (by first | exact congrArg Value.bool (full_t hs15_1) | exact congrArg Value.bool (full_f hs15_1)), trivial⟩
          · exact ⟨hB, hm0_0, ho, (by omega), trivial⟩
          · first | omega | (dsimp only; omega)
         ·
          try with_reducible replace hs15_1 := of_decide_eq_false hs15_1
          refine WL_skip (dd := some 72) rfl rfl rfl ?_
          refine WL_skip (dd := some 73) rfl rfl rfl ?_
          refine WL_skip (dd := some 74) rfl rfl rfl ?_
          refine WL_skip (dd := some 75) rfl rfl rfl ?_
          refine WL_skip (dd := some 76) rfl rfl rfl ?_
          refine WL_skip (dd := some 77) rfl rfl rfl ?_
          refine WL_skip (dd := some 78) rfl rfl rfl ?_
          refine WL_val (dd := some 79) rfl rfl rfl (r_pick_f rfl (v := .bool false) rfl) ?_
          refine WL_val (dd := some 10) rfl rfl rfl (r_assign (v := .bool false) rfl) ?_
          refine WL_nil ?_
          refine hK263 _ _ ?_
          clear hK263 K262
          refine WC_region ?_
          refine WL_val (dd := some 68) rfl rfl rfl (r_move (v := .int .i64 _) rfl) ?_
          refine WL_val (dd := some 69) rfl rfl rfl (r_addI rfl rfl (by omega) (by omega)) ?_
          refine WL_val (dd := some 11) rfl rfl rfl (r_assign (v := .int .i64 _) rfl) ?_
          refine WL_nil ?_
          refine hJ257 _ _ (i + 1) ?_ ?_ ?_ ?_
          · repeat (first | exact agree.mask _ _ _ | refine agree.updo ?_ rfl _ | refine agree.updL ?_ _ rfl | refine agree.maskS rfl ?_)
          · exact ⟨rfl, (by first | exact congrArg Value.bool (full_t hs15_1) | exact congrArg Value.bool (full_f hs15_1)), trivial⟩
          · exact ⟨hB, hm0_0, ho, (by omega), trivial⟩
          · first | omega | (dsimp only; omega)
        ·
         try with_reducible replace hc3 := of_decide_eq_false hc3
         refine WC_exit ?_
         refine hK251 _ _ ?_
         clear hK259 K258
         clear hJ257 J256
         clear hK251 K250
         refine WC_seq (fun K264 hK265 => ?_)
         obtain rfl : i = L.length := by omega
         refine WC_draw Ext tb_mix (fun W266 hE267 => ?_)
         replace hB := below_ext hB hE267 (Nat.le_refl _)
         replace hm0_0 := hE267.at hm0_0
         replace ho := hE267.ow ho
         have hS := Ext.refl W266
         refine WT_take (dd := some 81) 1 rfl (by kernel_rfl) (by kernel_rfl) (by kernel_rfl) rfl rfl rfl (fun _wq _hq => r_move (v := xc) rfl) hS ?_
         refine WT_take (dd := some 83) 3 rfl (by kernel_rfl) (by kernel_rfl) (by kernel_rfl) rfl rfl rfl (fun _wq _hq => r_fieldAddr (b := _) (o := _) rfl tb_fo56_0) hS ?_
         refine WT_take (dd := some 84) 4 rfl (by kernel_rfl) (by kernel_rfl) (by kernel_rfl) rfl rfl rfl (fun _wq hq => r_load1 (v := .int .i64 _) rfl tb_sc3 (At.cell (hq.at hm0_0) rfl)) hS ?_
         refine WT_two 0 5 (by kernel_rfl) rfl rfl rfl rfl rfl rfl rfl rfl (Y_lit0 tb_el57 (fun b16_0 W268 hb269 hE270 hm16_0 => ⟨.inl (hS.trans hE270), ?_⟩)) (Y_lit2 (u0 := .int .i64 _) (u1 := .int .i64 _) rfl rfl tb_el57 tb_zs3 rfl rfl (by decide) (by decide) (fun b16_5 W274 hb275 hE276 hm16_5 => ⟨.inl (hS.trans hE276), ?_⟩))
         ·
          have lo_b16_0 : w.heap.size ≤ b16_0 := hb269 ▸ (Below.size hB)
          have los_b16_0 := Nat.le_trans (Ext.size hS) (Nat.le_of_eq hb269.symm)
          have olt_ho := OwT.lt2 ho
          have hap271 : Apart v0 (.slice (some ⟨b16_0, 0, none⟩) 0 0) := fun j h1 h2 => by cases h2; exact absurd (olt_ho _ h1) (by rw [hb269]; exact Nat.lt_irrefl _)
          clear hb269
          have sv272_hB := hB
          have sv272_hm0_0 := hm0_0
          have sv272_ho := ho
          replace hB := below_ext hB hE270 (Nat.le_refl _)
          replace hm0_0 := hE270.at hm0_0
          replace ho := hE270.ow ho
          replace hS := hS.trans hE270
          clear hE270
          have ho16_0 := own_lit0 (enc := encI) (sz := 1) hm16_0 lo_b16_0
          clear hm16_0
          have losO273 : ∀ j, Value.ownBlock (.slice (some ⟨b16_0, 0, none⟩) 0 0) = some j → W266.heap.size ≤ j := fun j e => by have e2 : b16_0 = j := Option.some.inj e; rw [← e2]; exact los_b16_0
          refine WT_two 2 5 (by kernel_rfl) rfl rfl rfl rfl rfl rfl rfl rfl (Y_appendA (v := .slice (some ⟨b16_0, 0, none⟩) 0 0) (v2 := xc) rfl rfl tb_el57 tb_zs3 (by decide) ho16_0 (Below.slT hB hc) (enc_one_encI) (by have := Below.size hB; omega) (by simp; omega) (by simp; omega) (fun v16_2 W280 hG281 ho16_2 hob283 => ⟨.inl (below_grown hS hG281 (Nat.le_refl _) losO273), ?_⟩)) (Y_lit2 (u0 := .int .i64 _) (u1 := .int .i64 _) rfl rfl tb_el57 tb_zs3 rfl rfl (by decide) (by decide) (fun b16_5 W286 hb287 hE288 hm16_5 => ⟨.inl (hS.trans hE288), ?_⟩))
          ·
           have hsS282 := Ext.size hS
           replace hS : Ext _ _ := below_grown hS hG281 (Nat.le_refl _) losO273
           have hap284 := Apart.app (Apart.symm hap271) hob283 ho
           replace ho16_2 := OwT.app (enc := encI) rfl rfl rfl rfl ho16_2
           have losO285 := los_app losO273 hsS282 hob283
           replace hB := below_grown hB hG281 (Nat.le_refl _) (fun j hj => (OwT.lt ho16_0 j hj))
           replace hm0_0 := At.grownOw hm0_0 ho16_0 hG281 (by decide)
           replace ho := OwT.grownAp ho (Apart.symm hap271) hG281
           clear hG281
           clear ho16_0
           rw [List.nil_append] at ho16_2
           refine WT_one (dd := some 85) 5 (by kernel_rfl) rfl rfl rfl rfl (Y_lit2 (u0 := .int .i64 _) (u1 := .int .i64 _) rfl rfl tb_el57 tb_zs3 rfl rfl (by decide) (by decide) (fun b16_5 W292 hb293 hE294 hm16_5 => ⟨.inl (hS.trans hE294), ?_⟩))
           have lo_b16_5 : w.heap.size ≤ b16_5 := hb293 ▸ (Below.size hB)
           have los_b16_5 := Nat.le_trans (Ext.size hS) (Nat.le_of_eq hb293.symm)
           have olt_ho := OwT.lt2 ho
           have olt_ho16_2 := OwT.lt2 ho16_2
           have hap295 : Apart v0 (.slice (some ⟨b16_5, 0, none⟩) 2 2) := fun j h1 h2 => by cases h2; exact absurd (olt_ho _ h1) (by rw [hb293]; exact Nat.lt_irrefl _)
           have hap296 : Apart v16_2 (.slice (some ⟨b16_5, 0, none⟩) 2 2) := fun j h1 h2 => by cases h2; exact absurd (olt_ho16_2 _ h1) (by rw [hb293]; exact Nat.lt_irrefl _)
           clear hb293
           replace hB := below_ext hB hE294 (Nat.le_refl _)
           replace hm0_0 := hE294.at hm0_0
           replace ho := hE294.ow ho
           replace ho16_2 := hE294.ow ho16_2
           replace hS := hS.trans hE294
           clear hE294
           have ho16_5 := own_lit2 (enc := encI) (sz := 1) (a0 := _) (a1 := _) hm16_5 rfl rfl rfl rfl lo_b16_5
           clear hm16_5
           have losO297 : ∀ j, Value.ownBlock (.slice (some ⟨b16_5, 0, none⟩) 2 2) = some j → W266.heap.size ≤ j := fun j e => by have e2 : b16_5 = j := Option.some.inj e; rw [← e2]; exact los_b16_5
           refine WT_one (dd := some 86) 6 (by kernel_rfl) rfl rfl rfl rfl (Y_appendA (v := v16_2) (v2 := .slice (some ⟨b16_5, 0, none⟩) 2 2) rfl rfl tb_el57 tb_zs3 (by decide) ho16_2 ho16_5.sl (enc_one_encI) (by have := Below.size hB; omega) (by simp; omega) (by simp; omega) (fun v16_6 W298 hG299 ho16_6 hob301 => ⟨.inl (below_grown hS hG299 (Nat.le_refl _) losO285), ?_⟩))
           have hsS300 := Ext.size hS
           replace hS : Ext _ _ := below_grown hS hG299 (Nat.le_refl _) losO285
           have hap302 := Apart.app hap284 hob301 ho
           have hap303 := Apart.app hap296 hob301 ho16_5
           replace ho16_6 := OwT.app (enc := encI) rfl rfl rfl rfl ho16_6
           have losO304 := los_app losO285 hsS300 hob301
           replace hB := below_grown hB hG299 (Nat.le_refl _) (fun j hj => (OwT.lt ho16_2 j hj))
           replace hm0_0 := At.grownOw hm0_0 ho16_2 hG299 (by decide)
           replace ho := OwT.grownAp ho hap284 hG299
           replace ho16_5 := OwT.grownAp ho16_5 hap296 hG299
           clear hG299
           clear ho16_2
           refine WT_take (dd := some 12) 7 rfl (by kernel_rfl) (by kernel_rfl) (by kernel_rfl) rfl rfl rfl (fun _wq _hq => r_assign (v := v16_6) rfl) hS ?_
           refine WT_done (by kernel_rfl) ?_
           try clear sv272_hB sv272_hm0_0 sv272_ho
           refine hK265 _ _ ?_
           clear hK265 K264
           refine WC_seq (fun K305 hK306 => ?_)
           refine WC_draw Ext tb_mix (fun W307 hE308 => ?_)
           replace hB := below_ext hB hE308 (Nat.le_refl _)
           replace hm0_0 := hE308.at hm0_0
           replace ho := hE308.ow ho
           replace ho16_5 := hE308.ow ho16_5
           replace ho16_6 := hE308.ow ho16_6
           have hS := Ext.refl W307
           refine WT_take (dd := some 87) 0 rfl (by kernel_rfl) (by kernel_rfl) (by kernel_rfl) rfl rfl rfl (fun _wq hq => r_loadW rfl tb_ag56 rfl (hq.at hm0_0)) hS ?_
           refine WT_take (dd := some 88) 1 rfl (by kernel_rfl) (by kernel_rfl) (by kernel_rfl) rfl rfl rfl (fun _wq _hq => r_move (v := v0) rfl) hS ?_
           refine WT_take (dd := some 90) 3 rfl (by kernel_rfl) (by kernel_rfl) (by kernel_rfl) rfl rfl rfl (fun _wq _hq => r_move (v := .bool _) rfl) hS ?_
           refine WT_one (dd := some 89) 2 (by kernel_rfl) rfl rfl rfl rfl (Yd.call (r_call2 tb_c49 (v0 := .agg #[_, _]) rfl (v1 := v0) rfl) (C_cover_Solves n _ vs L _ (upL n.toNat) _ (Below.slT hB hrv) (LL.below hB hll) hLb hRb ho.sl (by rw [upL_len]; omega)) (fun v17_2 W309 hE310 hP17_2 => ⟨.inl (hS.trans hE310), ?_⟩))
           have hsz311 := (Below.size hB)
           have sv312_hB := hB
           have sv312_hm0_0 := hm0_0
           have sv312_ho := ho
           have sv312_ho16_5 := ho16_5
           have sv312_ho16_6 := ho16_6
           replace hB := below_ext hB hE310 (Nat.le_refl _)
           replace hm0_0 := hE310.at hm0_0
           replace ho := hE310.ow ho
           replace ho16_5 := hE310.ow ho16_5
           replace ho16_6 := hE310.ow ho16_6
           replace hS := hS.trans hE310
           clear hE310
           clear hsz311
           obtain rfl := hP17_2
           refine WT_take (dd := some 91) 4 rfl (by kernel_rfl) (by kernel_rfl) (by kernel_rfl) rfl rfl rfl (fun _wq _hq => r_eqlB rfl rfl Try.underlying4) hS ?_
           refine WT_split (dd := some 92) 5 rfl (by kernel_rfl) (by kernel_rfl) (by kernel_rfl) rfl rfl rfl (fun wq hq => r_move (v := .bool _) rfl) hS (fun hs17_5 => ?_) (fun hs17_5 => ?_)
           ·
            try with_reducible replace hs17_5 := of_decide_eq_true hs17_5
            refine WT_take (dd := some 93) 6 rfl (by kernel_rfl) (by kernel_rfl) (by kernel_rfl) rfl rfl rfl (fun _wq hq => r_loadW rfl tb_ag56 rfl (hq.at sv312_hm0_0)) hS ?_
            refine WT_take (dd := some 94) 7 rfl (by kernel_rfl) (by kernel_rfl) (by kernel_rfl) rfl rfl rfl (fun _wq _hq => r_move (v := v16_6) rfl) hS ?_
            refine WT_take (dd := some 96) 9 rfl (by kernel_rfl) (by kernel_rfl) (by kernel_rfl) rfl rfl rfl (fun _wq hq => r_loadW rfl tb_ag56 rfl (hq.at sv312_hm0_0)) hS ?_
            refine WT_take (dd := some 97) 10 rfl (by kernel_rfl) (by kernel_rfl) (by kernel_rfl) rfl rfl rfl (fun _wq _hq => r_move (v := xc) rfl) hS ?_
            refine WT_one (dd := some 95) 8 (by kernel_rfl) rfl rfl rfl rfl (Yd.call (r_call2 tb_c49 (v0 := .agg #[_, _]) rfl (v1 := v16_6) rfl) (C_cover_Solves n _ vs L _ (cols ++ [-1, n]) _ (Below.slT hB hrv) (LL.below hB hll) hLb hRb ho16_6.sl (by simp; omega)) (fun v17_8 W313 hE314 hP17_8 => ⟨.inl (hS.trans hE314), ?_⟩))
            have hsz315 := (Below.size hB)
            replace hB := below_ext hB hE314 (Nat.le_refl _)
            replace hm0_0 := hE314.at hm0_0
            replace ho := hE314.ow ho
            replace ho16_5 := hE314.ow ho16_5
            replace ho16_6 := hE314.ow ho16_6
            replace hS := hS.trans hE314
            clear hE314
            clear hsz315
            obtain rfl := hP17_8
            refine WT_one (dd := some 98) 11 (by kernel_rfl) rfl rfl rfl rfl (Yd.call (r_call2 tb_c49 (v0 := .agg #[_, _]) rfl (v1 := xc) rfl) (C_cover_Solves n _ vs L _ cols _ (Below.slT hB hrv) (LL.below hB hll) hLb hRb (Below.slT hB hc) (by omega)) (fun v17_11 W316 hE317 hP17_11 => ⟨.inl (hS.trans hE317), ?_⟩))
            have hsz318 := (Below.size hB)
            replace hB := below_ext hB hE317 (Nat.le_refl _)
            replace hm0_0 := hE317.at hm0_0
            replace ho := hE317.ow ho
            replace ho16_5 := hE317.ow ho16_5
            replace ho16_6 := hE317.ow ho16_6
            replace hS := hS.trans hE317
            clear hE317
            clear hsz318
            obtain rfl := hP17_11
            refine WT_take (dd := some 99) 12 rfl (by kernel_rfl) (by kernel_rfl) (by kernel_rfl) rfl rfl rfl (fun _wq _hq => r_eqlB rfl rfl Try.underlying4) hS ?_
            refine WT_take (dd := some 100) 13 rfl (by kernel_rfl) (by kernel_rfl) (by kernel_rfl) rfl rfl rfl (fun _wq _hq => r_pick_t rfl (v := .bool _) rfl) hS ?_
            refine WT_split (dd := some 101) 14 rfl (by kernel_rfl) (by kernel_rfl) (by kernel_rfl) rfl rfl rfl (fun wq hq => r_move (v := .bool _) rfl) hS (fun hs17_14 => ?_) (fun hs17_14 => ?_)
            ·
             try with_reducible replace hs17_14 := of_decide_eq_true hs17_14
             refine WT_one (dd := some 102) 15 (by kernel_rfl) rfl rfl rfl rfl (Yd.call (r_call0 tb_c46) (C_drawknifelaw13_knows _) (fun v17_15 W319 hE320 hP17_15 => ⟨.inl (hS.trans hE320), ?_⟩))
             have hsz321 := (Below.size hB)
             replace hB := below_ext hB hE320 (Nat.le_refl _)
             replace hm0_0 := hE320.at hm0_0
             replace ho := hE320.ow ho
             replace ho16_5 := hE320.ow ho16_5
             replace ho16_6 := hE320.ow ho16_6
             replace hS := hS.trans hE320
             clear hE320
             clear hsz321
             obtain rfl := hP17_15
             refine WT_take (dd := some 103) 16 rfl (by kernel_rfl) (by kernel_rfl) (by kernel_rfl) rfl rfl rfl (fun _wq _hq => r_pick_t rfl (v := .bool _) rfl) hS ?_
             refine WT_take (dd := some 6) 17 rfl (by kernel_rfl) (by kernel_rfl) (by kernel_rfl) rfl rfl rfl (fun _wq _hq => r_assign (v := .bool _) rfl) hS ?_
             refine WT_done (by kernel_rfl) ?_
             try clear sv312_hB sv312_hm0_0 sv312_ho sv312_ho16_5 sv312_ho16_6
             refine hK306 _ _ ?_
             clear hK306 K305
             refine WC_ret ?_
             repeat (first | refine thenQ_ret ?_ | refine blockQ_ret ?_)
             refine ret_t (v := .bool _) rfl ?_
             refine ⟨hB, ?_⟩
             rfl
            ·
             try with_reducible replace hs17_14 := of_decide_eq_false hs17_14
             exact absurd (by rw [hrt, Bool.true_and, Bool.true_and, strange_sol hrt]) hs17_14
           ·
            try with_reducible replace hs17_5 := of_decide_eq_false hs17_5
            exact absurd (by rw [hrt, Bool.true_and, all_sol hrt]) hs17_5
          ·
           have lo_b16_5 : w.heap.size ≤ b16_5 := hb287 ▸ (Below.size hB)
           have los_b16_5 := Nat.le_trans (Ext.size hS) (Nat.le_of_eq hb287.symm)
           have olt_ho := OwT.lt2 ho
           have olt_ho16_0 := OwT.lt2 ho16_0
           have hap289 : Apart v0 (.slice (some ⟨b16_5, 0, none⟩) 2 2) := fun j h1 h2 => by cases h2; exact absurd (olt_ho _ h1) (by rw [hb287]; exact Nat.lt_irrefl _)
           have hap290 : Apart (.slice (some ⟨b16_0, 0, none⟩) 0 0) (.slice (some ⟨b16_5, 0, none⟩) 2 2) := fun j h1 h2 => by cases h2; exact absurd (olt_ho16_0 _ h1) (by rw [hb287]; exact Nat.lt_irrefl _)
           clear hb287
           replace hB := below_ext hB hE288 (Nat.le_refl _)
           replace hm0_0 := hE288.at hm0_0
           replace ho := hE288.ow ho
           replace ho16_0 := hE288.ow ho16_0
           replace hS := hS.trans hE288
           clear hE288
           have ho16_5 := own_lit2 (enc := encI) (sz := 1) (a0 := _) (a1 := _) hm16_5 rfl rfl rfl rfl lo_b16_5
           clear hm16_5
           have losO291 : ∀ j, Value.ownBlock (.slice (some ⟨b16_5, 0, none⟩) 2 2) = some j → W266.heap.size ≤ j := fun j e => by have e2 : b16_5 = j := Option.some.inj e; rw [← e2]; exact los_b16_5
           refine WT_one (dd := some 82) 2 (by kernel_rfl) rfl rfl rfl rfl (Y_appendA (v := .slice (some ⟨b16_0, 0, none⟩) 0 0) (v2 := xc) rfl rfl tb_el57 tb_zs3 (by decide) ho16_0 (Below.slT hB hc) (enc_one_encI) (by have := Below.size hB; omega) (by simp; omega) (by simp; omega) (fun v16_2 W322 hG323 ho16_2 hob325 => ⟨.inl (below_grown hS hG323 (Nat.le_refl _) losO273), ?_⟩))
           have hsS324 := Ext.size hS
           replace hS : Ext _ _ := below_grown hS hG323 (Nat.le_refl _) losO273
           have hap326 := Apart.app (Apart.symm hap271) hob325 ho
           have hap327 := Apart.app hap290 hob325 ho16_5
           replace ho16_2 := OwT.app (enc := encI) rfl rfl rfl rfl ho16_2
           have losO328 := los_app losO273 hsS324 hob325
           replace hB := below_grown hB hG323 (Nat.le_refl _) (fun j hj => (OwT.lt ho16_0 j hj))
           replace hm0_0 := At.grownOw hm0_0 ho16_0 hG323 (by decide)
           replace ho := OwT.grownAp ho (Apart.symm hap271) hG323
           replace ho16_5 := OwT.grownAp ho16_5 hap290 hG323
           clear hG323
           clear ho16_0
           rw [List.nil_append] at ho16_2
           refine WT_one (dd := some 86) 6 (by kernel_rfl) rfl rfl rfl rfl (Y_appendA (v := v16_2) (v2 := .slice (some ⟨b16_5, 0, none⟩) 2 2) rfl rfl tb_el57 tb_zs3 (by decide) ho16_2 ho16_5.sl (enc_one_encI) (by have := Below.size hB; omega) (by simp; omega) (by simp; omega) (fun v16_6 W329 hG330 ho16_6 hob332 => ⟨.inl (below_grown hS hG330 (Nat.le_refl _) losO328), ?_⟩))
           have hsS331 := Ext.size hS
           replace hS : Ext _ _ := below_grown hS hG330 (Nat.le_refl _) losO328
           have hap333 := Apart.app hap326 hob332 ho
           have hap334 := Apart.app hap327 hob332 ho16_5
           replace ho16_6 := OwT.app (enc := encI) rfl rfl rfl rfl ho16_6
           have losO335 := los_app losO328 hsS331 hob332
           replace hB := below_grown hB hG330 (Nat.le_refl _) (fun j hj => (OwT.lt ho16_2 j hj))
           replace hm0_0 := At.grownOw hm0_0 ho16_2 hG330 (by decide)
           replace ho := OwT.grownAp ho hap326 hG330
           replace ho16_5 := OwT.grownAp ho16_5 hap327 hG330
           clear hG330
           clear ho16_2
           refine WT_take (dd := some 12) 7 rfl (by kernel_rfl) (by kernel_rfl) (by kernel_rfl) rfl rfl rfl (fun _wq _hq => r_assign (v := v16_6) rfl) hS ?_
           refine WT_done (by kernel_rfl) ?_
           try clear sv272_hB sv272_hm0_0 sv272_ho
           refine hK265 _ _ ?_
           clear hK265 K264
           refine WC_seq (fun K336 hK337 => ?_)
           refine WC_draw Ext tb_mix (fun W338 hE339 => ?_)
           replace hB := below_ext hB hE339 (Nat.le_refl _)
           replace hm0_0 := hE339.at hm0_0
           replace ho := hE339.ow ho
           replace ho16_5 := hE339.ow ho16_5
           replace ho16_6 := hE339.ow ho16_6
           have hS := Ext.refl W338
           refine WT_take (dd := some 87) 0 rfl (by kernel_rfl) (by kernel_rfl) (by kernel_rfl) rfl rfl rfl (fun _wq hq => r_loadW rfl tb_ag56 rfl (hq.at hm0_0)) hS ?_
           refine WT_take (dd := some 88) 1 rfl (by kernel_rfl) (by kernel_rfl) (by kernel_rfl) rfl rfl rfl (fun _wq _hq => r_move (v := v0) rfl) hS ?_
           refine WT_take (dd := some 90) 3 rfl (by kernel_rfl) (by kernel_rfl) (by kernel_rfl) rfl rfl rfl (fun _wq _hq => r_move (v := .bool _) rfl) hS ?_
           refine WT_one (dd := some 89) 2 (by kernel_rfl) rfl rfl rfl rfl (Yd.call (r_call2 tb_c49 (v0 := .agg #[_, _]) rfl (v1 := v0) rfl) (C_cover_Solves n _ vs L _ (upL n.toNat) _ (Below.slT hB hrv) (LL.below hB hll) hLb hRb ho.sl (by rw [upL_len]; omega)) (fun v17_2 W340 hE341 hP17_2 => ⟨.inl (hS.trans hE341), ?_⟩))
           have hsz342 := (Below.size hB)
           have sv343_hB := hB
           have sv343_hm0_0 := hm0_0
           have sv343_ho := ho
           have sv343_ho16_5 := ho16_5
           have sv343_ho16_6 := ho16_6
           replace hB := below_ext hB hE341 (Nat.le_refl _)
           replace hm0_0 := hE341.at hm0_0
           replace ho := hE341.ow ho
           replace ho16_5 := hE341.ow ho16_5
           replace ho16_6 := hE341.ow ho16_6
           replace hS := hS.trans hE341
           clear hE341
           clear hsz342
           obtain rfl := hP17_2
           refine WT_take (dd := some 91) 4 rfl (by kernel_rfl) (by kernel_rfl) (by kernel_rfl) rfl rfl rfl (fun _wq _hq => r_eqlB rfl rfl Try.underlying4) hS ?_
           refine WT_split (dd := some 92) 5 rfl (by kernel_rfl) (by kernel_rfl) (by kernel_rfl) rfl rfl rfl (fun wq hq => r_move (v := .bool _) rfl) hS (fun hs17_5 => ?_) (fun hs17_5 => ?_)
           ·
            try with_reducible replace hs17_5 := of_decide_eq_true hs17_5
            refine WT_take (dd := some 93) 6 rfl (by kernel_rfl) (by kernel_rfl) (by kernel_rfl) rfl rfl rfl (fun _wq hq => r_loadW rfl tb_ag56 rfl (hq.at sv343_hm0_0)) hS ?_
            refine WT_take (dd := some 94) 7 rfl (by kernel_rfl) (by kernel_rfl) (by kernel_rfl) rfl rfl rfl (fun _wq _hq => r_move (v := v16_6) rfl) hS ?_
            refine WT_take (dd := some 96) 9 rfl (by kernel_rfl) (by kernel_rfl) (by kernel_rfl) rfl rfl rfl (fun _wq hq => r_loadW rfl tb_ag56 rfl (hq.at sv343_hm0_0)) hS ?_
            refine WT_take (dd := some 97) 10 rfl (by kernel_rfl) (by kernel_rfl) (by kernel_rfl) rfl rfl rfl (fun _wq _hq => r_move (v := xc) rfl) hS ?_
            refine WT_one (dd := some 95) 8 (by kernel_rfl) rfl rfl rfl rfl (Yd.call (r_call2 tb_c49 (v0 := .agg #[_, _]) rfl (v1 := v16_6) rfl) (C_cover_Solves n _ vs L _ (cols ++ [-1, n]) _ (Below.slT hB hrv) (LL.below hB hll) hLb hRb ho16_6.sl (by simp; omega)) (fun v17_8 W344 hE345 hP17_8 => ⟨.inl (hS.trans hE345), ?_⟩))
            have hsz346 := (Below.size hB)
            replace hB := below_ext hB hE345 (Nat.le_refl _)
            replace hm0_0 := hE345.at hm0_0
            replace ho := hE345.ow ho
            replace ho16_5 := hE345.ow ho16_5
            replace ho16_6 := hE345.ow ho16_6
            replace hS := hS.trans hE345
            clear hE345
            clear hsz346
            obtain rfl := hP17_8
            refine WT_one (dd := some 98) 11 (by kernel_rfl) rfl rfl rfl rfl (Yd.call (r_call2 tb_c49 (v0 := .agg #[_, _]) rfl (v1 := xc) rfl) (C_cover_Solves n _ vs L _ cols _ (Below.slT hB hrv) (LL.below hB hll) hLb hRb (Below.slT hB hc) (by omega)) (fun v17_11 W347 hE348 hP17_11 => ⟨.inl (hS.trans hE348), ?_⟩))
            have hsz349 := (Below.size hB)
            replace hB := below_ext hB hE348 (Nat.le_refl _)
            replace hm0_0 := hE348.at hm0_0
            replace ho := hE348.ow ho
            replace ho16_5 := hE348.ow ho16_5
            replace ho16_6 := hE348.ow ho16_6
            replace hS := hS.trans hE348
            clear hE348
            clear hsz349
            obtain rfl := hP17_11
            refine WT_take (dd := some 99) 12 rfl (by kernel_rfl) (by kernel_rfl) (by kernel_rfl) rfl rfl rfl (fun _wq _hq => r_eqlB rfl rfl Try.underlying4) hS ?_
            refine WT_take (dd := some 100) 13 rfl (by kernel_rfl) (by kernel_rfl) (by kernel_rfl) rfl rfl rfl (fun _wq _hq => r_pick_t rfl (v := .bool _) rfl) hS ?_
            refine WT_split (dd := some 101) 14 rfl (by kernel_rfl) (by kernel_rfl) (by kernel_rfl) rfl rfl rfl (fun wq hq => r_move (v := .bool _) rfl) hS (fun hs17_14 => ?_) (fun hs17_14 => ?_)
            ·
             try with_reducible replace hs17_14 := of_decide_eq_true hs17_14
             refine WT_one (dd := some 102) 15 (by kernel_rfl) rfl rfl rfl rfl (Yd.call (r_call0 tb_c46) (C_drawknifelaw13_knows _) (fun v17_15 W350 hE351 hP17_15 => ⟨.inl (hS.trans hE351), ?_⟩))
             have hsz352 := (Below.size hB)
             replace hB := below_ext hB hE351 (Nat.le_refl _)
             replace hm0_0 := hE351.at hm0_0
             replace ho := hE351.ow ho
             replace ho16_5 := hE351.ow ho16_5
             replace ho16_6 := hE351.ow ho16_6
             replace hS := hS.trans hE351
             clear hE351
             clear hsz352
             obtain rfl := hP17_15
             refine WT_take (dd := some 103) 16 rfl (by kernel_rfl) (by kernel_rfl) (by kernel_rfl) rfl rfl rfl (fun _wq _hq => r_pick_t rfl (v := .bool _) rfl) hS ?_
             refine WT_take (dd := some 6) 17 rfl (by kernel_rfl) (by kernel_rfl) (by kernel_rfl) rfl rfl rfl (fun _wq _hq => r_assign (v := .bool _) rfl) hS ?_
             refine WT_done (by kernel_rfl) ?_
             try clear sv343_hB sv343_hm0_0 sv343_ho sv343_ho16_5 sv343_ho16_6
             refine hK337 _ _ ?_
             clear hK337 K336
             refine WC_ret ?_
             repeat (first | refine thenQ_ret ?_ | refine blockQ_ret ?_)
             refine ret_t (v := .bool _) rfl ?_
             refine ⟨hB, ?_⟩
             rfl
            ·
             try with_reducible replace hs17_14 := of_decide_eq_false hs17_14
             exact absurd (by rw [hrt, Bool.true_and, Bool.true_and, strange_sol hrt]) hs17_14
           ·
            try with_reducible replace hs17_5 := of_decide_eq_false hs17_5
            exact absurd (by rw [hrt, Bool.true_and, all_sol hrt]) hs17_5
         ·
          have lo_b16_5 : w.heap.size ≤ b16_5 := hb275 ▸ (Below.size hB)
          have los_b16_5 := Nat.le_trans (Ext.size hS) (Nat.le_of_eq hb275.symm)
          have olt_ho := OwT.lt2 ho
          have hap277 : Apart v0 (.slice (some ⟨b16_5, 0, none⟩) 2 2) := fun j h1 h2 => by cases h2; exact absurd (olt_ho _ h1) (by rw [hb275]; exact Nat.lt_irrefl _)
          clear hb275
          have sv278_hB := hB
          have sv278_hm0_0 := hm0_0
          have sv278_ho := ho
          replace hB := below_ext hB hE276 (Nat.le_refl _)
          replace hm0_0 := hE276.at hm0_0
          replace ho := hE276.ow ho
          replace hS := hS.trans hE276
          clear hE276
          have ho16_5 := own_lit2 (enc := encI) (sz := 1) (a0 := _) (a1 := _) hm16_5 rfl rfl rfl rfl lo_b16_5
          clear hm16_5
          have losO279 : ∀ j, Value.ownBlock (.slice (some ⟨b16_5, 0, none⟩) 2 2) = some j → W266.heap.size ≤ j := fun j e => by have e2 : b16_5 = j := Option.some.inj e; rw [← e2]; exact los_b16_5
          refine WT_one (dd := some 80) 0 (by kernel_rfl) rfl rfl rfl rfl (Y_lit0 tb_el57 (fun b16_0 W353 hb354 hE355 hm16_0 => ⟨.inl (hS.trans hE355), ?_⟩))
          have lo_b16_0 : w.heap.size ≤ b16_0 := hb354 ▸ (Below.size hB)
          have los_b16_0 := Nat.le_trans (Ext.size hS) (Nat.le_of_eq hb354.symm)
          have olt_ho := OwT.lt2 ho
          have olt_ho16_5 := OwT.lt2 ho16_5
          have hap356 : Apart v0 (.slice (some ⟨b16_0, 0, none⟩) 0 0) := fun j h1 h2 => by cases h2; exact absurd (olt_ho _ h1) (by rw [hb354]; exact Nat.lt_irrefl _)
          have hap357 : Apart (.slice (some ⟨b16_5, 0, none⟩) 2 2) (.slice (some ⟨b16_0, 0, none⟩) 0 0) := fun j h1 h2 => by cases h2; exact absurd (olt_ho16_5 _ h1) (by rw [hb354]; exact Nat.lt_irrefl _)
          clear hb354
          replace hB := below_ext hB hE355 (Nat.le_refl _)
          replace hm0_0 := hE355.at hm0_0
          replace ho := hE355.ow ho
          replace ho16_5 := hE355.ow ho16_5
          replace hS := hS.trans hE355
          clear hE355
          have ho16_0 := own_lit0 (enc := encI) (sz := 1) hm16_0 lo_b16_0
          clear hm16_0
          have losO358 : ∀ j, Value.ownBlock (.slice (some ⟨b16_0, 0, none⟩) 0 0) = some j → W266.heap.size ≤ j := fun j e => by have e2 : b16_0 = j := Option.some.inj e; rw [← e2]; exact los_b16_0
          refine WT_one (dd := some 82) 2 (by kernel_rfl) rfl rfl rfl rfl (Y_appendA (v := .slice (some ⟨b16_0, 0, none⟩) 0 0) (v2 := xc) rfl rfl tb_el57 tb_zs3 (by decide) ho16_0 (Below.slT hB hc) (enc_one_encI) (by have := Below.size hB; omega) (by simp; omega) (by simp; omega) (fun v16_2 W359 hG360 ho16_2 hob362 => ⟨.inl (below_grown hS hG360 (Nat.le_refl _) losO358), ?_⟩))
          have hsS361 := Ext.size hS
          replace hS : Ext _ _ := below_grown hS hG360 (Nat.le_refl _) losO358
          have hap363 := Apart.app (Apart.symm hap356) hob362 ho
          have hap364 := Apart.app (Apart.symm hap357) hob362 ho16_5
          replace ho16_2 := OwT.app (enc := encI) rfl rfl rfl rfl ho16_2
          have losO365 := los_app losO358 hsS361 hob362
          replace hB := below_grown hB hG360 (Nat.le_refl _) (fun j hj => (OwT.lt ho16_0 j hj))
          replace hm0_0 := At.grownOw hm0_0 ho16_0 hG360 (by decide)
          replace ho := OwT.grownAp ho (Apart.symm hap356) hG360
          replace ho16_5 := OwT.grownAp ho16_5 (Apart.symm hap357) hG360
          clear hG360
          clear ho16_0
          rw [List.nil_append] at ho16_2
          refine WT_one (dd := some 86) 6 (by kernel_rfl) rfl rfl rfl rfl (Y_appendA (v := v16_2) (v2 := .slice (some ⟨b16_5, 0, none⟩) 2 2) rfl rfl tb_el57 tb_zs3 (by decide) ho16_2 ho16_5.sl (enc_one_encI) (by have := Below.size hB; omega) (by simp; omega) (by simp; omega) (fun v16_6 W366 hG367 ho16_6 hob369 => ⟨.inl (below_grown hS hG367 (Nat.le_refl _) losO365), ?_⟩))
          have hsS368 := Ext.size hS
          replace hS : Ext _ _ := below_grown hS hG367 (Nat.le_refl _) losO365
          have hap370 := Apart.app hap363 hob369 ho
          have hap371 := Apart.app hap364 hob369 ho16_5
          replace ho16_6 := OwT.app (enc := encI) rfl rfl rfl rfl ho16_6
          have losO372 := los_app losO365 hsS368 hob369
          replace hB := below_grown hB hG367 (Nat.le_refl _) (fun j hj => (OwT.lt ho16_2 j hj))
          replace hm0_0 := At.grownOw hm0_0 ho16_2 hG367 (by decide)
          replace ho := OwT.grownAp ho hap363 hG367
          replace ho16_5 := OwT.grownAp ho16_5 hap364 hG367
          clear hG367
          clear ho16_2
          refine WT_take (dd := some 12) 7 rfl (by kernel_rfl) (by kernel_rfl) (by kernel_rfl) rfl rfl rfl (fun _wq _hq => r_assign (v := v16_6) rfl) hS ?_
          refine WT_done (by kernel_rfl) ?_
          try clear sv278_hB sv278_hm0_0 sv278_ho
          refine hK265 _ _ ?_
          clear hK265 K264
          refine WC_seq (fun K373 hK374 => ?_)
          refine WC_draw Ext tb_mix (fun W375 hE376 => ?_)
          replace hB := below_ext hB hE376 (Nat.le_refl _)
          replace hm0_0 := hE376.at hm0_0
          replace ho := hE376.ow ho
          replace ho16_5 := hE376.ow ho16_5
          replace ho16_6 := hE376.ow ho16_6
          have hS := Ext.refl W375
          refine WT_take (dd := some 87) 0 rfl (by kernel_rfl) (by kernel_rfl) (by kernel_rfl) rfl rfl rfl (fun _wq hq => r_loadW rfl tb_ag56 rfl (hq.at hm0_0)) hS ?_
          refine WT_take (dd := some 88) 1 rfl (by kernel_rfl) (by kernel_rfl) (by kernel_rfl) rfl rfl rfl (fun _wq _hq => r_move (v := v0) rfl) hS ?_
          refine WT_take (dd := some 90) 3 rfl (by kernel_rfl) (by kernel_rfl) (by kernel_rfl) rfl rfl rfl (fun _wq _hq => r_move (v := .bool _) rfl) hS ?_
          refine WT_one (dd := some 89) 2 (by kernel_rfl) rfl rfl rfl rfl (Yd.call (r_call2 tb_c49 (v0 := .agg #[_, _]) rfl (v1 := v0) rfl) (C_cover_Solves n _ vs L _ (upL n.toNat) _ (Below.slT hB hrv) (LL.below hB hll) hLb hRb ho.sl (by rw [upL_len]; omega)) (fun v17_2 W377 hE378 hP17_2 => ⟨.inl (hS.trans hE378), ?_⟩))
          have hsz379 := (Below.size hB)
          have sv380_hB := hB
          have sv380_hm0_0 := hm0_0
          have sv380_ho := ho
          have sv380_ho16_5 := ho16_5
          have sv380_ho16_6 := ho16_6
          replace hB := below_ext hB hE378 (Nat.le_refl _)
          replace hm0_0 := hE378.at hm0_0
          replace ho := hE378.ow ho
          replace ho16_5 := hE378.ow ho16_5
          replace ho16_6 := hE378.ow ho16_6
          replace hS := hS.trans hE378
          clear hE378
          clear hsz379
          obtain rfl := hP17_2
          refine WT_take (dd := some 91) 4 rfl (by kernel_rfl) (by kernel_rfl) (by kernel_rfl) rfl rfl rfl (fun _wq _hq => r_eqlB rfl rfl Try.underlying4) hS ?_
          refine WT_split (dd := some 92) 5 rfl (by kernel_rfl) (by kernel_rfl) (by kernel_rfl) rfl rfl rfl (fun wq hq => r_move (v := .bool _) rfl) hS (fun hs17_5 => ?_) (fun hs17_5 => ?_)
          ·
           try with_reducible replace hs17_5 := of_decide_eq_true hs17_5
           refine WT_take (dd := some 93) 6 rfl (by kernel_rfl) (by kernel_rfl) (by kernel_rfl) rfl rfl rfl (fun _wq hq => r_loadW rfl tb_ag56 rfl (hq.at sv380_hm0_0)) hS ?_
           refine WT_take (dd := some 94) 7 rfl (by kernel_rfl) (by kernel_rfl) (by kernel_rfl) rfl rfl rfl (fun _wq _hq => r_move (v := v16_6) rfl) hS ?_
           refine WT_take (dd := some 96) 9 rfl (by kernel_rfl) (by kernel_rfl) (by kernel_rfl) rfl rfl rfl (fun _wq hq => r_loadW rfl tb_ag56 rfl (hq.at sv380_hm0_0)) hS ?_
           refine WT_take (dd := some 97) 10 rfl (by kernel_rfl) (by kernel_rfl) (by kernel_rfl) rfl rfl rfl (fun _wq _hq => r_move (v := xc) rfl) hS ?_
           refine WT_one (dd := some 95) 8 (by kernel_rfl) rfl rfl rfl rfl (Yd.call (r_call2 tb_c49 (v0 := .agg #[_, _]) rfl (v1 := v16_6) rfl) (C_cover_Solves n _ vs L _ (cols ++ [-1, n]) _ (Below.slT hB hrv) (LL.below hB hll) hLb hRb ho16_6.sl (by simp; omega)) (fun v17_8 W381 hE382 hP17_8 => ⟨.inl (hS.trans hE382), ?_⟩))
           have hsz383 := (Below.size hB)
           replace hB := below_ext hB hE382 (Nat.le_refl _)
           replace hm0_0 := hE382.at hm0_0
           replace ho := hE382.ow ho
           replace ho16_5 := hE382.ow ho16_5
           replace ho16_6 := hE382.ow ho16_6
           replace hS := hS.trans hE382
           clear hE382
           clear hsz383
           obtain rfl := hP17_8
           refine WT_one (dd := some 98) 11 (by kernel_rfl) rfl rfl rfl rfl (Yd.call (r_call2 tb_c49 (v0 := .agg #[_, _]) rfl (v1 := xc) rfl) (C_cover_Solves n _ vs L _ cols _ (Below.slT hB hrv) (LL.below hB hll) hLb hRb (Below.slT hB hc) (by omega)) (fun v17_11 W384 hE385 hP17_11 => ⟨.inl (hS.trans hE385), ?_⟩))
           have hsz386 := (Below.size hB)
           replace hB := below_ext hB hE385 (Nat.le_refl _)
           replace hm0_0 := hE385.at hm0_0
           replace ho := hE385.ow ho
           replace ho16_5 := hE385.ow ho16_5
           replace ho16_6 := hE385.ow ho16_6
           replace hS := hS.trans hE385
           clear hE385
           clear hsz386
           obtain rfl := hP17_11
           refine WT_take (dd := some 99) 12 rfl (by kernel_rfl) (by kernel_rfl) (by kernel_rfl) rfl rfl rfl (fun _wq _hq => r_eqlB rfl rfl Try.underlying4) hS ?_
           refine WT_take (dd := some 100) 13 rfl (by kernel_rfl) (by kernel_rfl) (by kernel_rfl) rfl rfl rfl (fun _wq _hq => r_pick_t rfl (v := .bool _) rfl) hS ?_
           refine WT_split (dd := some 101) 14 rfl (by kernel_rfl) (by kernel_rfl) (by kernel_rfl) rfl rfl rfl (fun wq hq => r_move (v := .bool _) rfl) hS (fun hs17_14 => ?_) (fun hs17_14 => ?_)
           ·
            try with_reducible replace hs17_14 := of_decide_eq_true hs17_14
            refine WT_one (dd := some 102) 15 (by kernel_rfl) rfl rfl rfl rfl (Yd.call (r_call0 tb_c46) (C_drawknifelaw13_knows _) (fun v17_15 W387 hE388 hP17_15 => ⟨.inl (hS.trans hE388), ?_⟩))
            have hsz389 := (Below.size hB)
            replace hB := below_ext hB hE388 (Nat.le_refl _)
            replace hm0_0 := hE388.at hm0_0
            replace ho := hE388.ow ho
            replace ho16_5 := hE388.ow ho16_5
            replace ho16_6 := hE388.ow ho16_6
            replace hS := hS.trans hE388
            clear hE388
            clear hsz389
            obtain rfl := hP17_15
            refine WT_take (dd := some 103) 16 rfl (by kernel_rfl) (by kernel_rfl) (by kernel_rfl) rfl rfl rfl (fun _wq _hq => r_pick_t rfl (v := .bool _) rfl) hS ?_
            refine WT_take (dd := some 6) 17 rfl (by kernel_rfl) (by kernel_rfl) (by kernel_rfl) rfl rfl rfl (fun _wq _hq => r_assign (v := .bool _) rfl) hS ?_
            refine WT_done (by kernel_rfl) ?_
            try clear sv380_hB sv380_hm0_0 sv380_ho sv380_ho16_5 sv380_ho16_6
            refine hK374 _ _ ?_
            clear hK374 K373
            refine WC_ret ?_
            repeat (first | refine thenQ_ret ?_ | refine blockQ_ret ?_)
            refine ret_t (v := .bool _) rfl ?_
            refine ⟨hB, ?_⟩
            rfl
           ·
            try with_reducible replace hs17_14 := of_decide_eq_false hs17_14
            exact absurd (by rw [hrt, Bool.true_and, Bool.true_and, strange_sol hrt]) hs17_14
          ·
           try with_reducible replace hs17_5 := of_decide_eq_false hs17_5
           exact absurd (by rw [hrt, Bool.true_and, all_sol hrt]) hs17_5

set_option maxRecDepth 10000 in
theorem C_drawknifelaw13_CoverMeans (S : Sp) (onV mayV : Value) (xa : Value) (l : List Rw) (xb : Value) (bs : List Bool) (w : World) (hon : SlT encS 4 w onV S.on) (hmay : SlT encS 4 w mayV S.may) (hl : SlT encR 3 w xa l) (hlr : RowB l) (hbs : SlT encB 1 w xb bs) :
    Fn Try.prog 16 #[.agg #[.int .i64 S.n, onV, mayV], xa, xb] w fun v w' => v = .bool true := by
 refine Fn_intro (n := 92) Try.func16 rfl rfl (Nat.le_of_ble_eq_true rfl) ?_
 have hB : Below w.heap.size w w := Below.refl _ _
 refine WC_seq (fun K1 hK2 => ?_)
 refine WC_region ?_
 refine WL_step (dd := some 3) rfl rfl rfl (Y_box (c := #[_, _, _]) rfl rfl (fun b0_0 W3 hb4 hE5 hm0_0 => ?_))
 have lo_b0_0 : w.heap.size ≤ b0_0 := hb4 ▸ (Below.size hB)
 clear hb4
 replace hB := below_ext hB hE5 (Nat.le_refl _)
 clear hE5
 refine WL_val (dd := some 6) rfl rfl rfl (r_assign (v := .bool false) rfl) ?_
 refine WL_nil ?_
 refine hK2 _ _ ?_
 clear hK2 K1
 refine WC_seq (fun K6 hK7 => ?_)
 refine WC_seq (fun K8 hK9 => ?_)
 refine WC_region ?_
 refine WL_val (dd := some 13) rfl rfl rfl (r_loadW rfl tb_ag64 rfl hm0_0) ?_
 refine WL_val (dd := some 14) rfl rfl rfl (r_move (v := xa) rfl) ?_
 refine WL_call (dd := some 15) rfl rfl rfl (r_call2 tb_c51 (v0 := .agg #[_, _, _]) rfl (v1 := xa) rfl) (C_drawknifelaw13_great S _ _ _ l _ (Below.slT hB hon) (Below.slT hB hmay) (Below.slT hB hl) ) (fun v1_2 W10 hE11 hP1_2 => ?_)
 have hsz12 := (Below.size hB)
 replace hB := below_ext hB hE11 (Nat.le_refl _)
 replace hm0_0 := hE11.at hm0_0
 clear hE11
 clear hsz12
 obtain rfl := hP1_2
 refine WL_split (dd := some 16) rfl rfl rfl (r_move (v := .bool _) rfl) (fun hs1_3 => ?_) (fun hs1_3 => ?_)
 ·
  try with_reducible replace hs1_3 := of_decide_eq_true hs1_3
  refine WL_skip (dd := some 17) rfl rfl rfl ?_
  refine WL_skip (dd := some 18) rfl rfl rfl ?_
  refine WL_skip (dd := some 19) rfl rfl rfl ?_
  refine WL_val (dd := some 20) rfl rfl rfl (r_pick_t rfl (v := .bool true) rfl) ?_
  refine WL_nil ?_
  refine hK9 _ _ ?_
  clear hK9 K8
  refine WC_cond_true rfl ?_
  refine WC_seq (fun K13 hK14 => ?_)
  refine WC_region ?_
  refine WL_call (dd := some 21) rfl rfl rfl (r_call0 tb_c46) (C_drawknifelaw13_knows _) (fun v2_0 W15 hE16 hP2_0 => ?_)
  have hsz17 := (Below.size hB)
  replace hB := below_ext hB hE16 (Nat.le_refl _)
  replace hm0_0 := hE16.at hm0_0
  clear hE16
  clear hsz17
  obtain rfl := hP2_0
  refine WL_val (dd := some 6) rfl rfl rfl (r_assign (v := .bool _) rfl) ?_
  refine WL_nil ?_
  refine hK14 _ _ ?_
  clear hK14 K13
  refine WC_ret ?_
  repeat (first | refine thenQ_ret ?_ | refine blockQ_ret ?_)
  try clear hK7 K6
  refine ret_t (v := .bool _) rfl ?_
  refine ⟨hB, ?_⟩
  rfl
 ·
  try with_reducible replace hs1_3 := of_decide_eq_false hs1_3
  refine WL_val (dd := some 17) rfl rfl rfl (r_loadW rfl tb_ag64 rfl hm0_0) ?_
  refine WL_call (dd := some 18) rfl rfl rfl (r_call1 tb_c56 (v0 := .agg #[_, _, _]) rfl) (C_drawkniferef04_Right S _ _  _ (Below.slT hB hon) (Below.slT hB hmay) ) (fun v1_5 W18 hE19 hP1_5 => ?_)
  have hsz20 := (Below.size hB)
  replace hB := below_ext hB hE19 (Nat.le_refl _)
  replace hm0_0 := hE19.at hm0_0
  clear hE19
  clear hsz20
  obtain rfl := hP1_5
  refine WL_val (dd := some 19) rfl rfl rfl (r_not rfl) ?_
  refine WL_val (dd := some 20) rfl rfl rfl (r_pick_f rfl (v := .bool _) rfl) ?_
  refine WL_nil ?_
  refine hK9 _ _ ?_
  clear hK9 K8
  refine WC_cond (b := _) rfl (fun hc0 => ?_) (fun hc0 => ?_)
  ·
   try with_reducible replace hc0 := of_decide_eq_true hc0
   refine WC_seq (fun K21 hK22 => ?_)
   refine WC_region ?_
   refine WL_call (dd := some 21) rfl rfl rfl (r_call0 tb_c46) (C_drawknifelaw13_knows _) (fun v2_0 W23 hE24 hP2_0 => ?_)
   have hsz25 := (Below.size hB)
   replace hB := below_ext hB hE24 (Nat.le_refl _)
   replace hm0_0 := hE24.at hm0_0
   clear hE24
   clear hsz25
   obtain rfl := hP2_0
   refine WL_val (dd := some 6) rfl rfl rfl (r_assign (v := .bool _) rfl) ?_
   refine WL_nil ?_
   refine hK22 _ _ ?_
   clear hK22 K21
   refine WC_ret ?_
   repeat (first | refine thenQ_ret ?_ | refine blockQ_ret ?_)
   try clear hK7 K6
   refine ret_t (v := .bool _) rfl ?_
   refine ⟨hB, ?_⟩
   rfl
  ·
   try with_reducible replace hc0 := of_decide_eq_false hc0
   refine WC_skip ?_
   refine hK7 _ _ ?_
   clear hK7 K6
   refine WC_seq (fun K26 hK27 => ?_)
   refine WC_seq (fun K28 hK29 => ?_)
   have hg := g13_no hs1_3
   have hr : rightS S = true := not_f hc0
   refine WC_region ?_
   refine WL_val (dd := some 7) rfl rfl rfl (r_assign (v := .int .i64 0) rfl) ?_
   refine WL_nil ?_
   refine hK29 _ _ ?_
   clear hK29 K28
   refine WC_block ?_
   refine WC_loop (σ := (Nat)) [6, 7, 22, 23, 24, 25, 26, 27, 28, 29, 30, 31, 32, 33, 34, 35] (fun i => [(7, .int .i64 (i : Int))]) (fun i W => (Below w.heap.size w W) ∧ (At W b0_0 _ 64) ∧ (i ≤ l.length) ∧ (∀ q, q < i → inR S (l.getD q ⟨⟨0, 0⟩, 0⟩) = true) ∧ (True)) (fun i => l.length - i) (0) ⟨rfl, trivial⟩ ⟨hB, hm0_0, (Nat.zero_le _), upTo_zero, trivial⟩ ?_
   clear hB hm0_0
   rintro i g31 W30 ⟨hB, hm0_0, hi, hq, _⟩ J32 hJ33
   refine WC_seq (fun K34 hK35 => ?_)
   refine WC_seq (fun K36 hK37 => ?_)
   refine WC_region ?_
   refine WL_val (dd := some 22) rfl rfl rfl (r_move (v := .int .i64 _) rfl) ?_
   refine WL_val (dd := some 23) rfl rfl rfl (r_move (v := xa) rfl) ?_
   refine WL_val (dd := some 24) rfl rfl rfl (r_lenS (v := xa) rfl (Below.slT hB hl) tb_el65) ?_
   refine WL_val (dd := some 25) rfl rfl rfl (r_lss rfl rfl) ?_
   refine WL_nil ?_
   refine hK37 _ _ ?_
   clear hK37 K36
   refine WC_cond (b := _) rfl (fun hc1 => ?_) (fun hc1 => ?_)
   ·
    try with_reducible replace hc1 := of_decide_eq_true hc1
    refine WC_skip ?_
    refine hK35 _ _ ?_
    clear hK35 K34
    refine WC_seq (fun K38 hK39 => ?_)
    refine WC_block ?_
    refine WC_seq (fun K40 hK41 => ?_)
    obtain ⟨hb1, hb2, hb3⟩ := hlr.get (k := i) (by omega)
    refine WC_draw Ext tb_mix (fun W42 hE43 => ?_)
    replace hB := below_ext hB hE43 (Nat.le_refl _)
    replace hm0_0 := hE43.at hm0_0
    have hS := Ext.refl W42
    refine WT_take (dd := some 28) 0 rfl (by kernel_rfl) (by kernel_rfl) (by kernel_rfl) rfl rfl rfl (fun _wq hq => r_loadW rfl tb_ag64 rfl (hq.at hm0_0)) hS ?_
    refine WT_take (dd := some 29) 1 rfl (by kernel_rfl) (by kernel_rfl) (by kernel_rfl) rfl rfl rfl (fun _wq _hq => r_move (v := xa) rfl) hS ?_
    refine WT_take (dd := some 30) 2 rfl (by kernel_rfl) (by kernel_rfl) (by kernel_rfl) rfl rfl rfl (fun _wq _hq => r_move (v := .int .i64 _) rfl) hS ?_
    refine WT_take (dd := some 31) 3 rfl (by kernel_rfl) (by kernel_rfl) (by kernel_rfl) rfl rfl rfl (fun _wq hq => r_idxS (v := xa) rfl (hq.slT (Below.slT hB hl)) rfl tb_el65 (by omega) (by first | omega | (simp only [flagsTo_len, litsTo_len, firstF_len, ptF_len, setF_len]; omega))) hS ?_
    refine WT_take (dd := some 32) 4 rfl (by kernel_rfl) (by kernel_rfl) (by kernel_rfl) rfl rfl rfl (fun _wq hq => r_load3 rfl tb_ag79 (SlT.cell (hq.slT (Below.slT hB hl)) encR_len ⟨⟨0, 0⟩, 0⟩ (by omega) (by first | omega | (simp only [flagsTo_len, litsTo_len, firstF_len, ptF_len, setF_len]; omega)) 0 rfl) (SlT.cell (hq.slT (Below.slT hB hl)) encR_len ⟨⟨0, 0⟩, 0⟩ (by omega) (by first | omega | (simp only [flagsTo_len, litsTo_len, firstF_len, ptF_len, setF_len]; omega)) 1 rfl) (SlT.cell (hq.slT (Below.slT hB hl)) encR_len ⟨⟨0, 0⟩, 0⟩ (by omega) (by first | omega | (simp only [flagsTo_len, litsTo_len, firstF_len, ptF_len, setF_len]; omega)) 2 rfl)) hS ?_
    refine WT_one (dd := some 33) 5 (by kernel_rfl) rfl rfl rfl rfl (Yd.call (r_call2 tb_c65 (v0 := .agg #[_, _, _]) rfl (v1 := .agg #[_, _, _]) rfl) (C_drawkniferef10_Within S _ _ _ _ _ _ (Below.slT hB hon) (Below.slT hB hmay) hr hb1 hb2 hb3) (fun v6_5 W44 hE45 hP6_5 => ⟨.inl (hS.trans hE45), ?_⟩))
    have hsz46 := (Below.size hB)
    have sv47_hB := hB
    have sv47_hm0_0 := hm0_0
    replace hB := below_ext hB hE45 (Nat.le_refl _)
    replace hm0_0 := hE45.at hm0_0
    replace hS := hS.trans hE45
    clear hE45
    clear hsz46
    obtain rfl := hP6_5
    refine WT_take (dd := some 34) 6 rfl (by kernel_rfl) (by kernel_rfl) (by kernel_rfl) rfl rfl rfl (fun _wq _hq => r_not rfl) hS ?_
    refine WT_done (by kernel_rfl) ?_
    try clear sv47_hB sv47_hm0_0
    refine hK41 _ _ ?_
    clear hK41 K40
    refine WC_cond (b := _) rfl (fun hc2 => ?_) (fun hc2 => ?_)
    ·
     try with_reducible replace hc2 := of_decide_eq_true hc2
     refine WC_seq (fun K48 hK49 => ?_)
     refine WC_region ?_
     refine WL_call (dd := some 35) rfl rfl rfl (r_call0 tb_c46) (C_drawknifelaw13_knows _) (fun v7_0 W50 hE51 hP7_0 => ?_)
     have hsz52 := (Below.size hB)
     replace hB := below_ext hB hE51 (Nat.le_refl _)
     replace hm0_0 := hE51.at hm0_0
     clear hE51
     clear hsz52
     obtain rfl := hP7_0
     refine WL_val (dd := some 6) rfl rfl rfl (r_assign (v := .bool _) rfl) ?_
     refine WL_nil ?_
     refine hK49 _ _ ?_
     clear hK49 K48
     refine WC_ret ?_
     repeat (first | refine thenQ_ret ?_ | refine blockQ_ret ?_)
     try clear hK39 K38
     try clear hJ33 J32
     try clear hK27 K26
     refine ret_t (v := .bool _) rfl ?_
     refine ⟨hB, ?_⟩
     rfl
    ·
     try with_reducible replace hc2 := of_decide_eq_false hc2
     refine WC_skip ?_
     refine hK39 _ _ ?_
     clear hK39 K38
     refine WC_region ?_
     refine WL_val (dd := some 26) rfl rfl rfl (r_move (v := .int .i64 _) rfl) ?_
     refine WL_val (dd := some 27) rfl rfl rfl (r_addI rfl rfl (by omega) (by omega)) ?_
     refine WL_val (dd := some 7) rfl rfl rfl (r_assign (v := .int .i64 _) rfl) ?_
     refine WL_nil ?_
     refine hJ33 _ _ (i + 1) ?_ ?_ ?_ ?_
     · repeat (first | exact agree.mask _ _ _ | refine agree.updo ?_ rfl _ | refine agree.updL ?_ _ rfl | refine agree.maskS rfl ?_)
     · exact ⟨rfl, trivial⟩
     · exact ⟨hB, hm0_0, (by omega), (upTo_succ hq (not_f hc2)), trivial⟩
     · first | omega | (dsimp only; omega)
   ·
    try with_reducible replace hc1 := of_decide_eq_false hc1
    refine WC_exit ?_
    refine hK27 _ _ ?_
    clear hK35 K34
    clear hJ33 J32
    clear hK27 K26
    refine WC_seq (fun K53 hK54 => ?_)
    obtain rfl : i = l.length := by omega
    refine WC_region ?_
    refine WL_val (dd := some 37) rfl rfl rfl (r_loadW rfl tb_ag64 rfl hm0_0) ?_
    refine WL_val (dd := some 38) rfl rfl rfl (r_move (v := xa) rfl) ?_
    refine WL_call (dd := some 39) rfl rfl rfl (r_call2 tb_c52 (v0 := .agg #[_, _, _]) rfl (v1 := xa) rfl) (C_cover_Make S _ _ _ l _ (Below.slT hB hon) (Below.slT hB hmay) (Below.slT hB hl) (by omega) hlr) (fun v8_2 W55 hE56 hP8_2 => ?_)
    have hsz57 := (Below.size hB)
    replace hB := below_ext hB hE56 (Nat.le_refl _)
    replace hm0_0 := hE56.at hm0_0
    clear hE56
    obtain ⟨mn8_2, mrv8_2, mvs8_2, mL8_2, mer8_2, rfl, hmo8_2, hml8_2, hmc8_2⟩ := make_res hP8_2
    replace hmo8_2 := OwT.mono hmo8_2 hsz57
    replace hml8_2 := LO.mono hml8_2 hsz57
    clear hsz57
    refine WL_val (dd := some 36) rfl rfl rfl (r_move (v := .tuple #[.agg #[.int .i64 _, mrv8_2], .int .i64 _]) rfl) ?_
    refine WL_val (dd := some 40) rfl rfl rfl (r_ext2_0 (h := rfl)) ?_
    refine WL_val (dd := some 41) rfl rfl rfl (r_ext2_1 (h := rfl)) ?_
    refine WL_step (dd := some 8) rfl rfl rfl (Y_alloc tb_z56 rfl (fun b8_6 W58 hb59 hE60 hm8_6 => ?_))
    have lo_b8_6 : w.heap.size ≤ b8_6 := hb59 ▸ (Below.size hB)
    clear hb59
    replace hB := below_ext hB hE60 (Nat.le_refl _)
    replace hm0_0 := hE60.at hm0_0
    replace hmo8_2 := hE60.ow hmo8_2
    replace hml8_2 := LO.ext hE60 hml8_2
    clear hE60
    refine WL_step (dd := none) rfl rfl rfl (Y_storeW rfl rfl tb_ag56 rfl hm8_6 rfl (by simp only [List.all_cons, List.all_nil, OwT.one hmo8_2, Bool.and_true]; rfl) (fun W61 hG62 hm63 => ?_))
    replace hB := below_grown hB hG62 (Nat.le_refl _) (fun j hj => by cases hj; exact lo_b8_6)
    replace hm0_0 := At.grownAt hm0_0 hm8_6 hG62 (by decide)
    replace hmo8_2 := OwT.grownAt hmo8_2 hm8_6 hG62 (by decide)
    replace hml8_2 := LO.grownAt hml8_2 hm8_6 hG62 (by decide)
    clear hG62 hm8_6
    have hm8_6 := hm63
    clear hm63
    refine WL_val (dd := some 9) rfl rfl rfl (r_assign (v := .int .i64 _) rfl) ?_
    refine WL_nil ?_
    refine hK54 _ _ ?_
    clear hK54 K53
    refine WC_seq (fun K64 hK65 => ?_)
    have hz67 := Below.slT hB hon
    have hz68 := Below.slT hB hmay
    have hz69 := Below.slT hB hl
    have hz70 := Below.slT hB hbs
    have hBo66 := hB
    replace hB := Below.refl W61.heap.size W61
    have hm0 : mayM S l = 0 := may_0 hr (fun q hq2 => inR_right (hq q hq2)) (by omega)
    obtain ⟨-, h1, h2, h3⟩ := hmc8_2.resolve_right (fun h => h.1 hm0)
    subst h1 h2 h3
    have hrl1 : (rowsA S l).length ≤ 1000000 := by have := rowsA_len S l; have := rows_lim (l := l) hr; omega
    have hrl2 : ∀ i, ((rowsA S l).getD i []).length ≤ 1000000 := fun i => by have := rows_len (S := S) (l := l) i; omega
    refine WC_region ?_
    refine WL_val (dd := some 10) rfl rfl rfl (r_assign (v := .slice none 0 0) rfl) ?_
    refine WL_nil ?_
    refine hK65 _ _ ?_
    clear hK65 K64
    refine WC_seq (fun K71 hK72 => ?_)
    refine WC_region ?_
    refine WL_val (dd := some 11) rfl rfl rfl (r_assign (v := .slice none 0 0) rfl) ?_
    refine WL_nil ?_
    refine hK72 _ _ ?_
    clear hK72 K71
    refine WC_seq (fun K73 hK74 => ?_)
    refine WC_seq (fun K75 hK76 => ?_)
    refine WC_region ?_
    refine WL_val (dd := some 12) rfl rfl rfl (r_assign (v := .int .i64 0) rfl) ?_
    refine WL_nil ?_
    refine hK76 _ _ ?_
    clear hK76 K75
    refine WC_block ?_
    refine WC_loop (σ := (Nat) × (Value) × (Value)) [10, 11, 12, 42, 43, 44, 45, 46, 47, 48, 49, 50, 51, 52, 53, 54, 55, 56, 57, 58, 59, 60, 61, 62, 63, 64, 65, 66, 67, 68] (fun (k, v0, v1) => [(12, .int .i64 (k : Int)), (10, v0), (11, v1)]) (fun sg W => match sg with | (k, v0, v1) => (Below W61.heap.size W61 W) ∧ (OwT encR 3 79 W W61.heap.size v0 (chR l bs k)) ∧ (OwT encI 1 3 W W61.heap.size v1 (chC bs k)) ∧ (k ≤ l.length) ∧ (True)) (fun (k, v0, v1) => l.length - k) ((0, .slice none 0 0, .slice none 0 0)) ⟨rfl, rfl, rfl, trivial⟩ ⟨hB, OwT.nil, OwT.nil, (Nat.zero_le _), trivial⟩ ?_
    clear hB
    rintro ⟨k, v0, v1⟩ g78 W77 ⟨hB, ho, hoc, hk, _⟩ J79 hJ80
    refine WC_seq (fun K81 hK82 => ?_)
    refine WC_seq (fun K83 hK84 => ?_)
    refine WC_region ?_
    refine WL_val (dd := some 42) rfl rfl rfl (r_move (v := .int .i64 _) rfl) ?_
    refine WL_val (dd := some 43) rfl rfl rfl (r_move (v := xa) rfl) ?_
    refine WL_val (dd := some 44) rfl rfl rfl (r_lenS (v := xa) rfl (Below.slT hB hz69) tb_el65) ?_
    refine WL_val (dd := some 45) rfl rfl rfl (r_lss rfl rfl) ?_
    refine WL_split (dd := some 46) rfl rfl rfl (r_move (v := .bool _) rfl) (fun hs12_4 => ?_) (fun hs12_4 => ?_)
    ·
     try with_reducible replace hs12_4 := of_decide_eq_true hs12_4
     refine WL_val (dd := some 47) rfl rfl rfl (r_move (v := .int .i64 _) rfl) ?_
     refine WL_val (dd := some 48) rfl rfl rfl (r_move (v := xb) rfl) ?_
     refine WL_val (dd := some 49) rfl rfl rfl (r_lenS (v := xb) rfl (Below.slT hB hz70) tb_el43) ?_
     refine WL_val (dd := some 50) rfl rfl rfl (r_lss rfl rfl) ?_
     refine WL_val (dd := some 51) rfl rfl rfl (r_pick_t rfl (v := .bool _) rfl) ?_
     refine WL_nil ?_
     refine hK84 _ _ ?_
     clear hK84 K83
     refine WC_cond (b := _) rfl (fun hc3 => ?_) (fun hc3 => ?_)
     ·
      try with_reducible replace hc3 := of_decide_eq_true hc3
      refine WC_skip ?_
      refine hK82 _ _ ?_
      clear hK82 K81
      refine WC_seq (fun K85 hK86 => ?_)
      refine WC_block ?_
      refine WC_seq (fun K87 hK88 => ?_)
      refine WC_region ?_
      refine WL_val (dd := some 54) rfl rfl rfl (r_move (v := xb) rfl) ?_
      refine WL_val (dd := some 55) rfl rfl rfl (r_move (v := .int .i64 _) rfl) ?_
      refine WL_val (dd := some 56) rfl rfl rfl (r_idxS (v := xb) rfl (Below.slT hB hz70) rfl tb_el43 (by omega) (by first | omega | (simp only [flagsTo_len, litsTo_len, firstF_len, ptF_len, setF_len]; omega))) ?_
      refine WL_val (dd := some 57) rfl rfl rfl (r_load1 (v := .bool _) rfl tb_sc4 (SlT.cell (Below.slT hB hz70) encB_len false (by omega) (by first | omega | (simp only [flagsTo_len, litsTo_len, firstF_len, ptF_len, setF_len]; omega)) 0 rfl)) ?_
      refine WL_nil ?_
      refine hK88 _ _ ?_
      clear hK88 K87
      refine WC_cond (b := _) rfl (fun hc4 => ?_) (fun hc4 => ?_)
      ·
       try with_reducible replace hc4 := of_decide_eq_true hc4
       refine WC_seq (fun K89 hK90 => ?_)
       have hcr := chR_len l bs k
       refine WC_region ?_
       refine WL_val (dd := some 58) rfl rfl rfl (r_move (v := v0) rfl) ?_
       refine WL_val (dd := some 59) rfl rfl rfl (r_move (v := xa) rfl) ?_
       refine WL_val (dd := some 60) rfl rfl rfl (r_move (v := .int .i64 _) rfl) ?_
       refine WL_val (dd := some 61) rfl rfl rfl (r_idxS (v := xa) rfl (Below.slT hB hz69) rfl tb_el65 (by omega) (by first | omega | (simp only [flagsTo_len, litsTo_len, firstF_len, ptF_len, setF_len]; omega))) ?_
       refine WL_val (dd := some 62) rfl rfl rfl (r_load3 rfl tb_ag79 (SlT.cell (Below.slT hB hz69) encR_len ⟨⟨0, 0⟩, 0⟩ (by omega) (by first | omega | (simp only [flagsTo_len, litsTo_len, firstF_len, ptF_len, setF_len]; omega)) 0 rfl) (SlT.cell (Below.slT hB hz69) encR_len ⟨⟨0, 0⟩, 0⟩ (by omega) (by first | omega | (simp only [flagsTo_len, litsTo_len, firstF_len, ptF_len, setF_len]; omega)) 1 rfl) (SlT.cell (Below.slT hB hz69) encR_len ⟨⟨0, 0⟩, 0⟩ (by omega) (by first | omega | (simp only [flagsTo_len, litsTo_len, firstF_len, ptF_len, setF_len]; omega)) 2 rfl)) ?_
       refine WL_step (dd := some 63) rfl rfl rfl (Y_lit1 (u := .agg #[_, _, _]) rfl tb_el65 tb_zs79 rfl (by decide) (by decide) (fun b15_5 W91 hb92 hE93 hm15_5 => ?_))
       have lo_b15_5 : W61.heap.size ≤ b15_5 := hb92 ▸ (Below.size hB)
       have no_v0_b15_5 := OwT.neB (b := b15_5) ho (Nat.le_of_eq hb92.symm)
       clear hb92
       replace hB := below_ext hB hE93 (Nat.le_refl _)
       replace ho := hE93.ow ho
       replace hoc := hE93.ow hoc
       clear hE93
       refine WL_step (dd := some 64) rfl rfl rfl (Y_append (v := v0) (v2 := .slice (some ⟨b15_5, 0, none⟩) 1 1) rfl rfl tb_el65 tb_zs79 (by decide) ho (sl_lit1 hm15_5 rfl) rfl (by have := Below.size hB; omega) (by first | omega | (simp; omega) | (simp only [flagsTo_len, litsTo_len, firstF_len, ptF_len, setF_len]; omega)) (by first | omega | (simp; omega) | (simp only [flagsTo_len, litsTo_len, firstF_len, ptF_len, setF_len]; omega)) (fun v15_6 W94 hG95 ho15_6 => ?_))
       replace ho15_6 := OwT.snoc (enc := encR) (x := (l.getD k ⟨⟨0, 0⟩, 0⟩)) rfl rfl rfl rfl ho15_6
       clear hm15_5
       replace hB := below_grown hB hG95 (Nat.le_refl _) (fun j hj => (OwT.lt ho j hj))
       replace hoc := OwT.grownOw hoc ho hG95 (by decide)
       clear hG95
       clear ho
       refine WL_val (dd := some 10) rfl rfl rfl (r_assign (v := v15_6) rfl) ?_
       refine WL_nil ?_
       refine hK90 _ _ ?_
       clear hK90 K89
       have hcc := chC_len bs k
       refine WC_region ?_
       refine WL_val (dd := some 65) rfl rfl rfl (r_move (v := v1) rfl) ?_
       refine WL_val (dd := some 66) rfl rfl rfl (r_move (v := .int .i64 _) rfl) ?_
       refine WL_step (dd := some 67) rfl rfl rfl (Y_lit1 (u := .int .i64 _) rfl tb_el57 tb_zs3 rfl (by decide) (by decide) (fun b16_2 W97 hb98 hE99 hm16_2 => ?_))
       have lo_b16_2 : W61.heap.size ≤ b16_2 := hb98 ▸ (Below.size hB)
       have no_v1_b16_2 := OwT.neB (b := b16_2) hoc (Nat.le_of_eq hb98.symm)
       clear hb98
       replace hB := below_ext hB hE99 (Nat.le_refl _)
       replace hoc := hE99.ow hoc
       replace ho15_6 := hE99.ow ho15_6
       clear hE99
       refine WL_step (dd := some 68) rfl rfl rfl (Y_append (v := v1) (v2 := .slice (some ⟨b16_2, 0, none⟩) 1 1) rfl rfl tb_el57 tb_zs3 (by decide) hoc (sl_lit1 hm16_2 rfl) rfl (by have := Below.size hB; omega) (by first | omega | (simp; omega) | (simp only [flagsTo_len, litsTo_len, firstF_len, ptF_len, setF_len]; omega)) (by first | omega | (simp; omega) | (simp only [flagsTo_len, litsTo_len, firstF_len, ptF_len, setF_len]; omega)) (fun v16_3 W100 hG101 ho16_3 => ?_))
       replace ho16_3 := OwT.snoc (enc := encI) (x := _) rfl rfl rfl rfl ho16_3
       clear hm16_2
       replace hB := below_grown hB hG101 (Nat.le_refl _) (fun j hj => (OwT.lt hoc j hj))
       replace ho15_6 := OwT.grownOw ho15_6 hoc hG101 (by decide)
       clear hG101
       clear hoc
       refine WL_val (dd := some 11) rfl rfl rfl (r_assign (v := v16_3) rfl) ?_
       refine WL_nil ?_
       refine hK86 _ _ ?_
       clear hK86 K85
       refine WC_region ?_
       refine WL_val (dd := some 52) rfl rfl rfl (r_move (v := .int .i64 _) rfl) ?_
       refine WL_val (dd := some 53) rfl rfl rfl (r_addI rfl rfl (by omega) (by omega)) ?_
       refine WL_val (dd := some 12) rfl rfl rfl (r_assign (v := .int .i64 _) rfl) ?_
       refine WL_nil ?_
       refine hJ80 _ _ ((k + 1, v15_6, v16_3)) ?_ ?_ ?_ ?_
       · repeat (first | exact agree.mask _ _ _ | refine agree.updo ?_ rfl _ | refine agree.updL ?_ _ rfl | refine agree.maskS rfl ?_)
       · exact ⟨rfl, rfl, rfl, trivial⟩
       · exact ⟨hB, (by first | (rw [← chR_t (l := l) (bs := bs) (k := k) hc4]; exact ho15_6) | (rw [← chR_f (l := l) (bs := bs) (k := k) hc4]; exact ho15_6)), (by first | (rw [← chC_t (bs := bs) (k := k) hc4]; exact ho16_3) | (rw [← chC_f (bs := bs) (k := k) hc4]; exact ho16_3)), (by omega), trivial⟩
       · show l.length - (k + 1) < l.length - k; omega
      ·
       try with_reducible replace hc4 := of_decide_eq_false hc4
       refine WC_skip ?_
       refine hK86 _ _ ?_
       clear hK86 K85
       refine WC_region ?_
       refine WL_val (dd := some 52) rfl rfl rfl (r_move (v := .int .i64 _) rfl) ?_
       refine WL_val (dd := some 53) rfl rfl rfl (r_addI rfl rfl (by omega) (by omega)) ?_
       refine WL_val (dd := some 12) rfl rfl rfl (r_assign (v := .int .i64 _) rfl) ?_
       refine WL_nil ?_
       refine hJ80 _ _ ((k + 1, v0, v1)) ?_ ?_ ?_ ?_
       · repeat (first | exact agree.mask _ _ _ | refine agree.updo ?_ rfl _ | refine agree.updL ?_ _ rfl | refine agree.maskS rfl ?_)
       · exact ⟨rfl, rfl, rfl, trivial⟩
       · exact ⟨hB, (by first | (rw [← chR_t (l := l) (bs := bs) (k := k) hc4]; exact ho) | (rw [← chR_f (l := l) (bs := bs) (k := k) hc4]; exact ho)), (by first | (rw [← chC_t (bs := bs) (k := k) hc4]; exact hoc) | (rw [← chC_f (bs := bs) (k := k) hc4]; exact hoc)), (by omega), trivial⟩
       · show l.length - (k + 1) < l.length - k; omega
     ·
      try with_reducible replace hc3 := of_decide_eq_false hc3
      refine WC_exit ?_
      refine hK74 _ _ ?_
      clear hK82 K81
      clear hJ80 J79
      clear hK74 K73
      refine WC_seq (fun K103 hK104 => ?_)
      have hcr := chR_len l bs k
      have hcc := chC_len bs k
      have hme := means (bs := bs) hr hq (by omega) hk
      refine WC_draw Ext tb_mix (fun W105 hE106 => ?_)
      replace hB := below_ext hB hE106 (Nat.le_refl _)
      replace ho := hE106.ow ho
      replace hoc := hE106.ow hoc
      have hS := Ext.refl W105
      refine WT_take (dd := some 69) 0 rfl (by kernel_rfl) (by kernel_rfl) (by kernel_rfl) rfl rfl rfl (fun _wq _hq => r_move (v := .int .i64 _) rfl) hS ?_
      refine WT_take (dd := some 70) 1 rfl (by kernel_rfl) (by kernel_rfl) (by kernel_rfl) rfl rfl rfl (fun _wq _hq => r_eql rfl rfl) hS ?_
      refine WT_split (dd := some 71) 2 rfl (by kernel_rfl) (by kernel_rfl) (by kernel_rfl) rfl rfl rfl (fun wq hq => r_move (v := .bool _) rfl) hS (fun hs17_2 => ?_) (fun hs17_2 => ?_)
      ·
       try with_reducible replace hs17_2 := of_decide_eq_true hs17_2
       refine WT_take (dd := some 72) 3 rfl (by kernel_rfl) (by kernel_rfl) (by kernel_rfl) rfl rfl rfl (fun _wq hq => r_loadW rfl tb_ag56 rfl (hq.at (Below.atI hB hm8_6))) hS ?_
       refine WT_take (dd := some 73) 4 rfl (by kernel_rfl) (by kernel_rfl) (by kernel_rfl) rfl rfl rfl (fun _wq _hq => r_move (v := v1) rfl) hS ?_
       refine WT_take (dd := some 75) 6 rfl (by kernel_rfl) (by kernel_rfl) (by kernel_rfl) rfl rfl rfl (fun _wq hq => r_loadW rfl tb_ag64 rfl (hq.at (Below.atI hB hm0_0))) hS ?_
       refine WT_take (dd := some 76) 7 rfl (by kernel_rfl) (by kernel_rfl) (by kernel_rfl) rfl rfl rfl (fun _wq _hq => r_move (v := v0) rfl) hS ?_
       refine WT_one (dd := some 74) 5 (by kernel_rfl) rfl rfl rfl rfl (Yd.call (r_call2 tb_c49 (v0 := .agg #[_, _]) rfl (v1 := v1) rfl) (C_cover_Solves (l.length : Int) _ mvs8_2 (rowsA S l) _ (chC bs k) _ ((Below.ow hB hmo8_2)).sl (LO.ll (LO.below hB hml8_2)) hrl1 hrl2 hoc.sl (by omega)) (fun v17_5 W107 hE108 hP17_5 => ⟨.inl (hS.trans hE108), ?_⟩))
       have hsz109 := (Below.size hB)
       have sv110_hB := hB
       have sv110_ho := ho
       have sv110_hoc := hoc
       replace hB := below_ext hB hE108 (Nat.le_refl _)
       replace ho := hE108.ow ho
       replace hoc := hE108.ow hoc
       replace hS := hS.trans hE108
       clear hE108
       clear hsz109
       obtain rfl := hP17_5
       refine WT_one (dd := some 77) 8 (by kernel_rfl) rfl rfl rfl rfl (Yd.call (r_call2 tb_c66 (v0 := .agg #[_, _, _]) rfl (v1 := v0) rfl) (C_spec_Covers S _ _ _ (chR l bs k) _ (Below.slT hB hz67) (Below.slT hB hz68) ho.sl (by omega) (chR_b hlr bs hk) (by omega)) (fun v17_8 W111 hE112 hP17_8 => ⟨.inl (hS.trans hE112), ?_⟩))
       have hsz113 := (Below.size hB)
       replace hB := below_ext hB hE112 (Nat.le_refl _)
       replace ho := hE112.ow ho
       replace hoc := hE112.ow hoc
       replace hS := hS.trans hE112
       clear hE112
       clear hsz113
       obtain rfl := hP17_8
       refine WT_take (dd := some 78) 9 rfl (by kernel_rfl) (by kernel_rfl) (by kernel_rfl) rfl rfl rfl (fun _wq _hq => r_eqlB rfl rfl Try.underlying4) hS ?_
       refine WT_take (dd := some 79) 10 rfl (by kernel_rfl) (by kernel_rfl) (by kernel_rfl) rfl rfl rfl (fun _wq _hq => r_pick_t rfl (v := .bool _) rfl) hS ?_
       refine WT_split (dd := some 80) 11 rfl (by kernel_rfl) (by kernel_rfl) (by kernel_rfl) rfl rfl rfl (fun wq hq => r_move (v := .bool _) rfl) hS (fun hs17_11 => ?_) (fun hs17_11 => ?_)
       ·
        try with_reducible replace hs17_11 := of_decide_eq_true hs17_11
        refine WT_take (dd := some 81) 12 rfl (by kernel_rfl) (by kernel_rfl) (by kernel_rfl) rfl rfl rfl (fun _wq hq => r_loadW rfl tb_ag56 rfl (hq.at (Below.atI sv110_hB hm8_6))) hS ?_
        refine WT_take (dd := some 82) 13 rfl (by kernel_rfl) (by kernel_rfl) (by kernel_rfl) rfl rfl rfl (fun _wq _hq => r_move (v := v1) rfl) hS ?_
        refine WT_take (dd := some 84) 15 rfl (by kernel_rfl) (by kernel_rfl) (by kernel_rfl) rfl rfl rfl (fun _wq hq => r_loadW rfl tb_ag64 rfl (hq.at (Below.atI sv110_hB hm0_0))) hS ?_
        refine WT_take (dd := some 85) 16 rfl (by kernel_rfl) (by kernel_rfl) (by kernel_rfl) rfl rfl rfl (fun _wq _hq => r_move (v := v0) rfl) hS ?_
        refine WT_one (dd := some 83) 14 (by kernel_rfl) rfl rfl rfl rfl (Yd.call (r_call2 tb_c49 (v0 := .agg #[_, _]) rfl (v1 := v1) rfl) (C_cover_Solves (l.length : Int) _ mvs8_2 (rowsA S l) _ (chC bs k) _ ((Below.ow hB hmo8_2)).sl (LO.ll (LO.below hB hml8_2)) hrl1 hrl2 hoc.sl (by omega)) (fun v17_14 W114 hE115 hP17_14 => ⟨.inl (hS.trans hE115), ?_⟩))
        have hsz116 := (Below.size hB)
        replace hB := below_ext hB hE115 (Nat.le_refl _)
        replace ho := hE115.ow ho
        replace hoc := hE115.ow hoc
        replace hS := hS.trans hE115
        clear hE115
        clear hsz116
        obtain rfl := hP17_14
        refine WT_one (dd := some 86) 17 (by kernel_rfl) rfl rfl rfl rfl (Yd.call (r_call2 tb_c67 (v0 := .agg #[_, _, _]) rfl (v1 := v0) rfl) (C_drawkniferef04_Covers S _ _ _ (chR l bs k) _ (Below.slT hB hz67) (Below.slT hB hz68) ho.sl (by omega) (chR_b hlr bs hk) hr) (fun v17_17 W117 hE118 hP17_17 => ⟨.inl (hS.trans hE118), ?_⟩))
        have hsz119 := (Below.size hB)
        replace hB := below_ext hB hE118 (Nat.le_refl _)
        replace ho := hE118.ow ho
        replace hoc := hE118.ow hoc
        replace hS := hS.trans hE118
        clear hE118
        clear hsz119
        obtain rfl := hP17_17
        refine WT_take (dd := some 87) 18 rfl (by kernel_rfl) (by kernel_rfl) (by kernel_rfl) rfl rfl rfl (fun _wq _hq => r_eqlB rfl rfl Try.underlying4) hS ?_
        refine WT_take (dd := some 88) 19 rfl (by kernel_rfl) (by kernel_rfl) (by kernel_rfl) rfl rfl rfl (fun _wq _hq => r_pick_t rfl (v := .bool _) rfl) hS ?_
        refine WT_split (dd := some 89) 20 rfl (by kernel_rfl) (by kernel_rfl) (by kernel_rfl) rfl rfl rfl (fun wq hq => r_move (v := .bool _) rfl) hS (fun hs17_20 => ?_) (fun hs17_20 => ?_)
        ·
         try with_reducible replace hs17_20 := of_decide_eq_true hs17_20
         refine WT_one (dd := some 90) 21 (by kernel_rfl) rfl rfl rfl rfl (Yd.call (r_call0 tb_c46) (C_drawknifelaw13_knows _) (fun v17_21 W120 hE121 hP17_21 => ⟨.inl (hS.trans hE121), ?_⟩))
         have hsz122 := (Below.size hB)
         replace hB := below_ext hB hE121 (Nat.le_refl _)
         replace ho := hE121.ow ho
         replace hoc := hE121.ow hoc
         replace hS := hS.trans hE121
         clear hE121
         clear hsz122
         obtain rfl := hP17_21
         refine WT_take (dd := some 91) 22 rfl (by kernel_rfl) (by kernel_rfl) (by kernel_rfl) rfl rfl rfl (fun _wq _hq => r_pick_t rfl (v := .bool _) rfl) hS ?_
         refine WT_take (dd := some 6) 23 rfl (by kernel_rfl) (by kernel_rfl) (by kernel_rfl) rfl rfl rfl (fun _wq _hq => r_assign (v := .bool _) rfl) hS ?_
         refine WT_done (by kernel_rfl) ?_
         try clear sv110_hB sv110_ho sv110_hoc
         refine hK104 _ _ ?_
         clear hK104 K103
         refine WC_ret ?_
         try clear hz67
         try clear hz68
         try clear hz69
         try clear hz70
         replace hm0_0 := Below.atI hB hm0_0
         replace hmo8_2 := Below.ow hB hmo8_2
         replace hml8_2 := LO.below hB hml8_2
         replace hm8_6 := Below.atI hB hm8_6
         have hzs := Nat.le_trans (Nat.le_refl _) (Below.size hBo66)
         replace ho := OwT.mono ho hzs
         replace hoc := OwT.mono hoc hzs
         replace hB := Below.trans hBo66 (Below.mono hB hzs)
         clear hBo66 hzs
         repeat (first | refine thenQ_ret ?_ | refine blockQ_ret ?_)
         refine ret_t (v := .bool _) rfl ?_
         refine ⟨hB, ?_⟩
         rfl
        ·
         try with_reducible replace hs17_20 := of_decide_eq_false hs17_20
         exact absurd hme hs17_20
       ·
        try with_reducible replace hs17_11 := of_decide_eq_false hs17_11
        exact absurd hme hs17_11
      ·
       try with_reducible replace hs17_2 := of_decide_eq_false hs17_2
       exact absurd rfl hs17_2
    ·
     try with_reducible replace hs12_4 := of_decide_eq_false hs12_4
     refine WL_skip (dd := some 47) rfl rfl rfl ?_
     refine WL_skip (dd := some 48) rfl rfl rfl ?_
     refine WL_skip (dd := some 49) rfl rfl rfl ?_
     refine WL_skip (dd := some 50) rfl rfl rfl ?_
     refine WL_val (dd := some 51) rfl rfl rfl (r_pick_f rfl (v := .bool false) rfl) ?_
     refine WL_nil ?_
     refine hK84 _ _ ?_
     clear hK84 K83
     refine WC_cond_false rfl ?_
     refine WC_exit ?_
     refine hK74 _ _ ?_
     clear hK82 K81
     clear hJ80 J79
     clear hK74 K73
     refine WC_seq (fun K123 hK124 => ?_)
     have hcr := chR_len l bs k
     have hcc := chC_len bs k
     have hme := means (bs := bs) hr hq (by omega) hk
     refine WC_draw Ext tb_mix (fun W125 hE126 => ?_)
     replace hB := below_ext hB hE126 (Nat.le_refl _)
     replace ho := hE126.ow ho
     replace hoc := hE126.ow hoc
     have hS := Ext.refl W125
     refine WT_take (dd := some 69) 0 rfl (by kernel_rfl) (by kernel_rfl) (by kernel_rfl) rfl rfl rfl (fun _wq _hq => r_move (v := .int .i64 _) rfl) hS ?_
     refine WT_take (dd := some 70) 1 rfl (by kernel_rfl) (by kernel_rfl) (by kernel_rfl) rfl rfl rfl (fun _wq _hq => r_eql rfl rfl) hS ?_
     refine WT_split (dd := some 71) 2 rfl (by kernel_rfl) (by kernel_rfl) (by kernel_rfl) rfl rfl rfl (fun wq hq => r_move (v := .bool _) rfl) hS (fun hs17_2 => ?_) (fun hs17_2 => ?_)
     ·
      try with_reducible replace hs17_2 := of_decide_eq_true hs17_2
      refine WT_take (dd := some 72) 3 rfl (by kernel_rfl) (by kernel_rfl) (by kernel_rfl) rfl rfl rfl (fun _wq hq => r_loadW rfl tb_ag56 rfl (hq.at (Below.atI hB hm8_6))) hS ?_
      refine WT_take (dd := some 73) 4 rfl (by kernel_rfl) (by kernel_rfl) (by kernel_rfl) rfl rfl rfl (fun _wq _hq => r_move (v := v1) rfl) hS ?_
      refine WT_take (dd := some 75) 6 rfl (by kernel_rfl) (by kernel_rfl) (by kernel_rfl) rfl rfl rfl (fun _wq hq => r_loadW rfl tb_ag64 rfl (hq.at (Below.atI hB hm0_0))) hS ?_
      refine WT_take (dd := some 76) 7 rfl (by kernel_rfl) (by kernel_rfl) (by kernel_rfl) rfl rfl rfl (fun _wq _hq => r_move (v := v0) rfl) hS ?_
      refine WT_one (dd := some 74) 5 (by kernel_rfl) rfl rfl rfl rfl (Yd.call (r_call2 tb_c49 (v0 := .agg #[_, _]) rfl (v1 := v1) rfl) (C_cover_Solves (l.length : Int) _ mvs8_2 (rowsA S l) _ (chC bs k) _ ((Below.ow hB hmo8_2)).sl (LO.ll (LO.below hB hml8_2)) hrl1 hrl2 hoc.sl (by omega)) (fun v17_5 W127 hE128 hP17_5 => ⟨.inl (hS.trans hE128), ?_⟩))
      have hsz129 := (Below.size hB)
      have sv130_hB := hB
      have sv130_ho := ho
      have sv130_hoc := hoc
      replace hB := below_ext hB hE128 (Nat.le_refl _)
      replace ho := hE128.ow ho
      replace hoc := hE128.ow hoc
      replace hS := hS.trans hE128
      clear hE128
      clear hsz129
      obtain rfl := hP17_5
      refine WT_one (dd := some 77) 8 (by kernel_rfl) rfl rfl rfl rfl (Yd.call (r_call2 tb_c66 (v0 := .agg #[_, _, _]) rfl (v1 := v0) rfl) (C_spec_Covers S _ _ _ (chR l bs k) _ (Below.slT hB hz67) (Below.slT hB hz68) ho.sl (by omega) (chR_b hlr bs hk) (by omega)) (fun v17_8 W131 hE132 hP17_8 => ⟨.inl (hS.trans hE132), ?_⟩))
      have hsz133 := (Below.size hB)
      replace hB := below_ext hB hE132 (Nat.le_refl _)
      replace ho := hE132.ow ho
      replace hoc := hE132.ow hoc
      replace hS := hS.trans hE132
      clear hE132
      clear hsz133
      obtain rfl := hP17_8
      refine WT_take (dd := some 78) 9 rfl (by kernel_rfl) (by kernel_rfl) (by kernel_rfl) rfl rfl rfl (fun _wq _hq => r_eqlB rfl rfl Try.underlying4) hS ?_
      refine WT_take (dd := some 79) 10 rfl (by kernel_rfl) (by kernel_rfl) (by kernel_rfl) rfl rfl rfl (fun _wq _hq => r_pick_t rfl (v := .bool _) rfl) hS ?_
      refine WT_split (dd := some 80) 11 rfl (by kernel_rfl) (by kernel_rfl) (by kernel_rfl) rfl rfl rfl (fun wq hq => r_move (v := .bool _) rfl) hS (fun hs17_11 => ?_) (fun hs17_11 => ?_)
      ·
       try with_reducible replace hs17_11 := of_decide_eq_true hs17_11
       refine WT_take (dd := some 81) 12 rfl (by kernel_rfl) (by kernel_rfl) (by kernel_rfl) rfl rfl rfl (fun _wq hq => r_loadW rfl tb_ag56 rfl (hq.at (Below.atI sv130_hB hm8_6))) hS ?_
       refine WT_take (dd := some 82) 13 rfl (by kernel_rfl) (by kernel_rfl) (by kernel_rfl) rfl rfl rfl (fun _wq _hq => r_move (v := v1) rfl) hS ?_
       refine WT_take (dd := some 84) 15 rfl (by kernel_rfl) (by kernel_rfl) (by kernel_rfl) rfl rfl rfl (fun _wq hq => r_loadW rfl tb_ag64 rfl (hq.at (Below.atI sv130_hB hm0_0))) hS ?_
       refine WT_take (dd := some 85) 16 rfl (by kernel_rfl) (by kernel_rfl) (by kernel_rfl) rfl rfl rfl (fun _wq _hq => r_move (v := v0) rfl) hS ?_
       refine WT_one (dd := some 83) 14 (by kernel_rfl) rfl rfl rfl rfl (Yd.call (r_call2 tb_c49 (v0 := .agg #[_, _]) rfl (v1 := v1) rfl) (C_cover_Solves (l.length : Int) _ mvs8_2 (rowsA S l) _ (chC bs k) _ ((Below.ow hB hmo8_2)).sl (LO.ll (LO.below hB hml8_2)) hrl1 hrl2 hoc.sl (by omega)) (fun v17_14 W134 hE135 hP17_14 => ⟨.inl (hS.trans hE135), ?_⟩))
       have hsz136 := (Below.size hB)
       replace hB := below_ext hB hE135 (Nat.le_refl _)
       replace ho := hE135.ow ho
       replace hoc := hE135.ow hoc
       replace hS := hS.trans hE135
       clear hE135
       clear hsz136
       obtain rfl := hP17_14
       refine WT_one (dd := some 86) 17 (by kernel_rfl) rfl rfl rfl rfl (Yd.call (r_call2 tb_c67 (v0 := .agg #[_, _, _]) rfl (v1 := v0) rfl) (C_drawkniferef04_Covers S _ _ _ (chR l bs k) _ (Below.slT hB hz67) (Below.slT hB hz68) ho.sl (by omega) (chR_b hlr bs hk) hr) (fun v17_17 W137 hE138 hP17_17 => ⟨.inl (hS.trans hE138), ?_⟩))
       have hsz139 := (Below.size hB)
       replace hB := below_ext hB hE138 (Nat.le_refl _)
       replace ho := hE138.ow ho
       replace hoc := hE138.ow hoc
       replace hS := hS.trans hE138
       clear hE138
       clear hsz139
       obtain rfl := hP17_17
       refine WT_take (dd := some 87) 18 rfl (by kernel_rfl) (by kernel_rfl) (by kernel_rfl) rfl rfl rfl (fun _wq _hq => r_eqlB rfl rfl Try.underlying4) hS ?_
       refine WT_take (dd := some 88) 19 rfl (by kernel_rfl) (by kernel_rfl) (by kernel_rfl) rfl rfl rfl (fun _wq _hq => r_pick_t rfl (v := .bool _) rfl) hS ?_
       refine WT_split (dd := some 89) 20 rfl (by kernel_rfl) (by kernel_rfl) (by kernel_rfl) rfl rfl rfl (fun wq hq => r_move (v := .bool _) rfl) hS (fun hs17_20 => ?_) (fun hs17_20 => ?_)
       ·
        try with_reducible replace hs17_20 := of_decide_eq_true hs17_20
        refine WT_one (dd := some 90) 21 (by kernel_rfl) rfl rfl rfl rfl (Yd.call (r_call0 tb_c46) (C_drawknifelaw13_knows _) (fun v17_21 W140 hE141 hP17_21 => ⟨.inl (hS.trans hE141), ?_⟩))
        have hsz142 := (Below.size hB)
        replace hB := below_ext hB hE141 (Nat.le_refl _)
        replace ho := hE141.ow ho
        replace hoc := hE141.ow hoc
        replace hS := hS.trans hE141
        clear hE141
        clear hsz142
        obtain rfl := hP17_21
        refine WT_take (dd := some 91) 22 rfl (by kernel_rfl) (by kernel_rfl) (by kernel_rfl) rfl rfl rfl (fun _wq _hq => r_pick_t rfl (v := .bool _) rfl) hS ?_
        refine WT_take (dd := some 6) 23 rfl (by kernel_rfl) (by kernel_rfl) (by kernel_rfl) rfl rfl rfl (fun _wq _hq => r_assign (v := .bool _) rfl) hS ?_
        refine WT_done (by kernel_rfl) ?_
        try clear sv130_hB sv130_ho sv130_hoc
        refine hK124 _ _ ?_
        clear hK124 K123
        refine WC_ret ?_
        try clear hz67
        try clear hz68
        try clear hz69
        try clear hz70
        replace hm0_0 := Below.atI hB hm0_0
        replace hmo8_2 := Below.ow hB hmo8_2
        replace hml8_2 := LO.below hB hml8_2
        replace hm8_6 := Below.atI hB hm8_6
        have hzs := Nat.le_trans (Nat.le_refl _) (Below.size hBo66)
        replace ho := OwT.mono ho hzs
        replace hoc := OwT.mono hoc hzs
        replace hB := Below.trans hBo66 (Below.mono hB hzs)
        clear hBo66 hzs
        repeat (first | refine thenQ_ret ?_ | refine blockQ_ret ?_)
        refine ret_t (v := .bool _) rfl ?_
        refine ⟨hB, ?_⟩
        rfl
       ·
        try with_reducible replace hs17_20 := of_decide_eq_false hs17_20
        exact absurd hme hs17_20
      ·
       try with_reducible replace hs17_11 := of_decide_eq_false hs17_11
       exact absurd hme hs17_11
     ·
      try with_reducible replace hs17_2 := of_decide_eq_false hs17_2
      exact absurd rfl hs17_2

end Go.Proofs.Ytdbcijijhhbkaaa
