/-
  The statements of layer 4, walked: each answers true.
-/
import Derived.Test.YtnkaebjaeaecmaaDoorProg
import Derived.Test.YtnkaebjaeaecmaaDoorWSpec
import Derived.Test.YtnkaebjaeaecmaaDoorWLaw03
import Derived.Test.YtnkaebjaeaecmaaDoorSpec2
namespace Go.Proofs.YtnkaebjaeaecmaaDoor
set_option linter.unusedVariables false
set_option linter.unusedSimpArgs false
open Go Go.RowKit

theorem tb_c17 : callB Tryd.prog 17 = true := by kernel_rfl
theorem tb_build47_0_1 {f : Nat → Value} {w : World} {d : Option Nat} {ty : TypeId} {ps : String} {af : Array Edge} {g : Option (Nat × Bool)} {x0 x1 : Operand} {c0_0 c0_1 c1_0 : Value} (h0 : evF f x0 = .agg #[c0_0, c0_1]) (h1 : evF f x1 = c1_0) (k1 : c1_0.cells = #[c1_0]) :
    (execOp (evF f) ⟨d, .build 47 #[(0, x0), (1, x1)], ty, ps, af, g⟩).run Tryd.prog w = .ok (.value (.agg #[c0_0, c0_1, c1_0])) w := by
  obtain ⟨i0, hi0, hz0⟩ := Option.bind_eq_some_iff.1 (show (Tryd.prog.info? 47).bind (·.zero) = _ from tb_z47)
  obtain ⟨j5, hj5, hs5⟩ := Option.map_eq_some_iff.1 tb_size5
  obtain ⟨j42, hj42, hs42⟩ := Option.map_eq_some_iff.1 tb_size42
  simp [execOp, h0, h1, k1, Instr.build, zeroValue, typeInfo, sizeOf, hi0, hz0, run_underlying Tryd.underlying47, Instr.fill, cells_agg, hj5, hs5, hj42, hs42]
theorem tb_zs47 : (zeroI Tryd.prog 47).map (fun z => z.cells.size) = some 3 := by kernel_rfl
theorem tb_build51_0 {f : Nat → Value} {w : World} {d : Option Nat} {ty : TypeId} {ps : String} {af : Array Edge} {g : Option (Nat × Bool)} {x0 : Operand} {c0_0 : Value} (h0 : evF f x0 = c0_0) (k0 : c0_0.cells = #[c0_0]) :
    (execOp (evF f) ⟨d, .build 51 #[(0, x0)], ty, ps, af, g⟩).run Tryd.prog w = .ok (.value (.agg #[c0_0, .int .u64 0, .int .u64 0, .int .u64 0])) w := by
  obtain ⟨i0, hi0, hz0⟩ := Option.bind_eq_some_iff.1 (show (Tryd.prog.info? 51).bind (·.zero) = _ from tb_z51)
  obtain ⟨j49, hj49, hs49⟩ := Option.map_eq_some_iff.1 tb_size49
  simp [execOp, h0, k0, Instr.build, zeroValue, typeInfo, sizeOf, hi0, hz0, run_underlying Tryd.underlying51, Instr.fill, cells_agg, hj49, hs49]
theorem tb_c18 : callB Tryd.prog 18 = true := by kernel_rfl
theorem tb_c16 : callB Tryd.prog 16 = true := by kernel_rfl
theorem tb_build47_0 {f : Nat → Value} {w : World} {d : Option Nat} {ty : TypeId} {ps : String} {af : Array Edge} {g : Option (Nat × Bool)} {x0 : Operand} {c0_0 c0_1 : Value} (h0 : evF f x0 = .agg #[c0_0, c0_1]) :
    (execOp (evF f) ⟨d, .build 47 #[(0, x0)], ty, ps, af, g⟩).run Tryd.prog w = .ok (.value (.agg #[c0_0, c0_1, .int .u8 0])) w := by
  obtain ⟨i0, hi0, hz0⟩ := Option.bind_eq_some_iff.1 (show (Tryd.prog.info? 47).bind (·.zero) = _ from tb_z47)
  obtain ⟨j5, hj5, hs5⟩ := Option.map_eq_some_iff.1 tb_size5
  obtain ⟨j42, hj42, hs42⟩ := Option.map_eq_some_iff.1 tb_size42
  simp [execOp, h0, Instr.build, zeroValue, typeInfo, sizeOf, hi0, hz0, run_underlying Tryd.underlying47, Instr.fill, cells_agg, hj5, hs5, hj42, hs42]
theorem tb_c22 : callB Tryd.prog 22 = true := by kernel_rfl
theorem tb_c23 : callB Tryd.prog 23 = true := by kernel_rfl

theorem kn4_1 : parseT [46, 105, 32, 50, 10, 46, 111, 32, 49, 10, 49, 45, 32, 49, 10, 48, 45, 32, 45, 10, 46, 101, 10] = ((⟨1, 2, 1, [⟨⟨1, 1⟩, [1]⟩, ⟨⟨1, 0⟩, [2]⟩]⟩ : Tb), 0, 0) := by decide +kernel
theorem kn4_r : rightT (⟨1, 2, 1, [⟨⟨1, 1⟩, [1]⟩, ⟨⟨1, 0⟩, [2]⟩]⟩ : Tb) = true := by decide +kernel
theorem kn4_0 : ofE (⟨1, 2, 1, [⟨⟨1, 1⟩, [1]⟩, ⟨⟨1, 0⟩, [2]⟩]⟩ : Tb) = 0 := by decide +kernel
theorem kn4_mb : ∀ i, i < (⟨1, 2, 1, [⟨⟨1, 1⟩, [1]⟩, ⟨⟨1, 0⟩, [2]⟩]⟩ : Tb).ls.length → ((⟨1, 2, 1, [⟨⟨1, 1⟩, [1]⟩, ⟨⟨1, 0⟩, [2]⟩]⟩ : Tb).ls.getD i ln0).c.m < 256 ∧ ((⟨1, 2, 1, [⟨⟨1, 1⟩, [1]⟩, ⟨⟨1, 0⟩, [2]⟩]⟩ : Tb).ls.getD i ln0).c.v < 256 := right_mb kn4_r
theorem kn4_b : RowB [⟨⟨1, 1⟩, 1⟩] := fun x hx => by
  rw [List.mem_singleton] at hx
  rw [hx]
  decide
theorem kn4_n : covB (specT (⟨1, 2, 1, [⟨⟨1, 1⟩, [1]⟩, ⟨⟨1, 0⟩, [2]⟩]⟩ : Tb)) [] = false := by decide +kernel

theorem C_drawknifelaw04_knows  (w : World) (hgl : Gl w) :
    Fn Tryd.prog 16 #[] w fun v w' => v = .bool true := by
  refine Fn_intro (n := 64) Tryd.func16 rfl rfl (Nat.le_of_ble_eq_true rfl) ?_
  have hB : Below w.heap.size w w := Below.refl _ _
  refine WC_seq (fun K1 hK2 => ?_)
  refine WC_region ?_
  refine WL_val (dd := some 0) rfl rfl rfl (r_assign (v := .bool false) rfl) ?_
  refine WL_nil ?_
  refine hK2 _ _ ?_
  clear hK2 K1
  refine WC_seq (fun K3 hK4 => ?_)
  refine WC_region ?_
  refine WL_call (dd := some 8) rfl rfl rfl (r_call1 tb_c15 (v0 := .string _) rfl) (C_pla_Parse [46, 105, 32, 50, 10, 46, 111, 32, 49, 10, 49, 45, 32, 49, 10, 48, 45, 32, 45, 10, 46, 101, 10] _ (Gl.below hB hgl) (by decide)) (fun v1_0 W5 hE6 hP1_0 => ?_)
  have hsz7 := (Below.size hB)
  replace hB := below_ext hB hE6 (Nat.le_refl _)
  clear hE6
  rw [kn4_1] at hP1_0
  obtain ⟨lv1_0, vs1_0, rfl, hsl1_0, hls1_0⟩ := hP1_0
  clear hsz7
  refine WL_val (dd := some 7) rfl rfl rfl (r_move (v := .tuple #[.agg #[.int .i64 _, .int .i64 _, .int .i64 _, lv1_0], .int .i64 _, .int .i64 _]) rfl) ?_
  refine WL_val (dd := some 9) rfl rfl rfl (r_ext3_0 (h := rfl)) ?_
  refine WL_val (dd := some 10) rfl rfl rfl (r_ext3_1 (h := rfl)) ?_
  refine WL_val (dd := some 11) rfl rfl rfl (r_ext3_2 (h := rfl)) ?_
  have hz9 := Gl.below hB hgl
  have hBo8 := hB
  replace hB := Below.refl W5.heap.size W5
  refine WL_step (dd := some 1) rfl rfl rfl (Y_alloc tb_z24 rfl (fun b1_5 W10 hb11 hE12 hm1_5 => ?_))
  have lo_b1_5 : W5.heap.size ≤ b1_5 := hb11 ▸ (Below.size hB)
  clear hb11
  replace hB := below_ext hB hE12 (Nat.le_refl _)
  clear hE12
  refine WL_step (dd := none) rfl rfl rfl (Y_storeW rfl rfl tb_ag24 rfl hm1_5 rfl (by exact one_tb (SlT.one hsl1_0)) (fun W13 hG14 hm15 => ?_))
  replace hB := below_grown hB hG14 (Nat.le_refl _) (fun j hj => by cases hj; exact lo_b1_5)
  clear hG14 hm1_5
  have hm1_5 := hm15
  clear hm15
  refine WL_val (dd := some 2) rfl rfl rfl (r_assign (v := .int .i64 _) rfl) ?_
  refine WL_val (dd := some 3) rfl rfl rfl (r_assign (v := .int .i64 _) rfl) ?_
  refine WL_nil ?_
  refine hK4 _ _ ?_
  clear hK4 K3
  refine WC_seq (fun K16 hK17 => ?_)
  refine WC_region ?_
  refine WL_val (dd := some 13) rfl rfl rfl (r_loadW rfl tb_ag24 rfl hm1_5) ?_
  refine WL_call (dd := some 14) rfl rfl rfl (r_call1 tb_c17 (v0 := .agg #[_, _, _, _]) rfl) (C_spec_Of (⟨1, 2, 1, [⟨⟨1, 1⟩, [1]⟩, ⟨⟨1, 0⟩, [2]⟩]⟩ : Tb) _ vs1_0 _ (Below.slT hB hsl1_0) (LsAt.below hB hls1_0) kn4_mb) (fun v2_1 W18 hE19 hP2_1 => ?_)
  have hsz20 := (Below.size hB)
  replace hB := below_ext hB hE19 (Nat.le_refl _)
  replace hm1_5 := hE19.at hm1_5
  clear hE19
  have hsz2_1 := hsz20
  replace hP2_1 := hP2_1.resolve_right (fun h => h.1 kn4_0)
  obtain ⟨hof2_1, on2_1, may2_1, rfl, hon2_1, hmay2_1⟩ := hP2_1
  replace hon2_1 := OwT.mono hon2_1 hsz2_1
  replace hmay2_1 := OwT.mono hmay2_1 hsz2_1
  clear hsz20
  refine WL_val (dd := some 12) rfl rfl rfl (r_move (v := .tuple #[.agg #[.int .i64 _, on2_1, may2_1], .int .i64 0]) rfl) ?_
  refine WL_val (dd := some 15) rfl rfl rfl (r_ext2_0 (h := rfl)) ?_
  refine WL_val (dd := some 16) rfl rfl rfl (r_ext2_1 (h := rfl)) ?_
  refine WL_step (dd := some 4) rfl rfl rfl (Y_alloc tb_z37 rfl (fun b2_5 W21 hb22 hE23 hm2_5 => ?_))
  have lo_b2_5 : W5.heap.size ≤ b2_5 := hb22 ▸ (Below.size hB)
  clear hb22
  replace hB := below_ext hB hE23 (Nat.le_refl _)
  replace hm1_5 := hE23.at hm1_5
  replace hon2_1 := hE23.ow hon2_1
  replace hmay2_1 := hE23.ow hmay2_1
  clear hE23
  refine WL_step (dd := none) rfl rfl rfl (Y_storeW rfl rfl tb_ag37 rfl hm2_5 rfl (by exact one_sp (SlT.one (OwT.sl hon2_1)) (SlT.one (OwT.sl hmay2_1))) (fun W24 hG25 hm26 => ?_))
  replace hB := below_grown hB hG25 (Nat.le_refl _) (fun j hj => by cases hj; exact lo_b2_5)
  replace hm1_5 := At.grownAt hm1_5 hm2_5 hG25 (by decide)
  replace hon2_1 := OwT.grownAt hon2_1 hm2_5 hG25 (by decide)
  replace hmay2_1 := OwT.grownAt hmay2_1 hm2_5 hG25 (by decide)
  clear hG25 hm2_5
  have hm2_5 := hm26
  clear hm26
  refine WL_val (dd := some 5) rfl rfl rfl (r_assign (v := .int .i64 0) rfl) ?_
  refine WL_nil ?_
  refine hK17 _ _ ?_
  clear hK17 K16
  refine WC_seq (fun K27 hK28 => ?_)
  refine WC_region ?_
  refine WL_val (dd := some 17) rfl rfl rfl (tb_build42_0_1 (h0 := rfl) (k0 := rfl) (h1 := rfl) (k1 := rfl) (c0_0 := .int .u8 1) (c1_0 := .int .u8 1)) ?_
  refine WL_val (dd := some 18) rfl rfl rfl (tb_build47_0_1 (h0 := rfl) (h1 := rfl) (k1 := rfl) (c1_0 := .int .u8 1)) ?_
  refine WL_step (dd := some 19) rfl rfl rfl (Y_lit1 (u := .agg #[_, _, _]) rfl tb_el40 tb_zs47 rfl (by decide) (by decide) (fun b3_2 W29 hb30 hE31 hm3_2 => ?_))
  have lo_b3_2 : W5.heap.size ≤ b3_2 := hb30 ▸ (Below.size hB)
  clear hb30
  replace hB := below_ext hB hE31 (Nat.le_refl _)
  replace hm1_5 := hE31.at hm1_5
  replace hon2_1 := hE31.ow hon2_1
  replace hmay2_1 := hE31.ow hmay2_1
  replace hm2_5 := hE31.at hm2_5
  clear hE31
  refine WL_val (dd := some 6) rfl rfl rfl (r_assign (v := .slice (some ⟨b3_2, 0, none⟩) 1 1) rfl) ?_
  refine WL_nil ?_
  refine hK28 _ _ ?_
  clear hK28 K27
  refine WC_seq (fun K32 hK33 => ?_)
  refine WC_region ?_
  refine WL_val (dd := some 20) rfl rfl rfl (r_move (v := .int .i64 0) rfl) ?_
  refine WL_val (dd := some 21) rfl rfl rfl (r_eql rfl rfl) ?_
  refine WL_split (dd := some 22) rfl rfl rfl (r_move (v := .bool _) rfl) (fun hs4_2 => ?_) (fun hs4_2 => ?_)
  ·
    try with_reducible replace hs4_2 := dec_t hs4_2
    refine WL_val (dd := some 23) rfl rfl rfl (r_fieldAddr (b := _) (o := _) rfl tb_fo37_1) ?_
    refine WL_val (dd := some 24) rfl rfl rfl (r_load1 (v := on2_1) rfl tb_sc35 (At.cell hm2_5 rfl)) ?_
    refine WL_val (dd := some 25) rfl rfl rfl (r_lenS (v := on2_1) rfl hon2_1.sl tb_el35) ?_
    refine WL_val (dd := some 26) rfl rfl rfl (r_eql rfl rfl) ?_
    refine WL_val (dd := some 27) rfl rfl rfl (r_pick_t rfl (v := .bool _) rfl) ?_
    refine WL_split (dd := some 28) rfl rfl rfl (r_move (v := .bool _) rfl) (fun hs4_8 => ?_) (fun hs4_8 => ?_)
    ·
      try with_reducible replace hs4_8 := dec_t hs4_8
      refine WL_val (dd := some 29) rfl rfl rfl (r_fieldAddr (b := _) (o := _) rfl tb_fo37_2) ?_
      refine WL_val (dd := some 30) rfl rfl rfl (r_load1 (v := may2_1) rfl tb_sc35 (At.cell hm2_5 rfl)) ?_
      refine WL_val (dd := some 31) rfl rfl rfl (r_lenS (v := may2_1) rfl hmay2_1.sl tb_el35) ?_
      refine WL_val (dd := some 32) rfl rfl rfl (r_eql rfl rfl) ?_
      refine WL_val (dd := some 33) rfl rfl rfl (r_pick_t rfl (v := .bool _) rfl) ?_
      refine WL_split (dd := some 34) rfl rfl rfl (r_move (v := .bool _) rfl) (fun hs4_14 => ?_) (fun hs4_14 => ?_)
      ·
        try with_reducible replace hs4_14 := dec_t hs4_14
        refine WL_val (dd := some 35) rfl rfl rfl (r_fieldAddr (b := _) (o := _) rfl tb_fo37_1) ?_
        refine WL_val (dd := some 36) rfl rfl rfl (r_load1 (v := on2_1) rfl tb_sc35 (At.cell hm2_5 rfl)) ?_
        refine WL_val (dd := some 37) rfl rfl rfl (r_idxS (j := 0) (v := on2_1) rfl hon2_1.sl rfl tb_el35 (by omega) (by omega)) ?_
        refine WL_val (dd := some 38) rfl rfl rfl (r_load4 rfl tb_ag51 (SlT.cell (j := 0) hon2_1.sl encS_len 0 (by omega) (by omega) 0 rfl) (SlT.cell (j := 0) hon2_1.sl encS_len 0 (by omega) (by omega) 1 rfl) (SlT.cell (j := 0) hon2_1.sl encS_len 0 (by omega) (by omega) 2 rfl) (SlT.cell (j := 0) hon2_1.sl encS_len 0 (by omega) (by omega) 3 rfl)) ?_
        refine WL_val (dd := some 39) (v := setV 10) rfl rfl rfl (tb_build51_0 (h0 := rfl) (k0 := rfl) (c0_0 := .int .u64 10)) ?_
        refine WL_val (dd := some 40) rfl rfl rfl (tb_eq51 rfl rfl) ?_
        refine WL_val (dd := some 41) rfl rfl rfl (r_pick_t rfl (v := .bool _) rfl) ?_
        refine WL_split (dd := some 42) rfl rfl rfl (r_move (v := .bool _) rfl) (fun hs4_22 => ?_) (fun hs4_22 => ?_)
        ·
          try with_reducible replace hs4_22 := dec_t hs4_22
          refine WL_val (dd := some 43) rfl rfl rfl (r_fieldAddr (b := _) (o := _) rfl tb_fo37_2) ?_
          refine WL_val (dd := some 44) rfl rfl rfl (r_load1 (v := may2_1) rfl tb_sc35 (At.cell hm2_5 rfl)) ?_
          refine WL_val (dd := some 45) rfl rfl rfl (r_idxS (j := 0) (v := may2_1) rfl hmay2_1.sl rfl tb_el35 (by omega) (by omega)) ?_
          refine WL_val (dd := some 46) rfl rfl rfl (r_load4 rfl tb_ag51 (SlT.cell (j := 0) hmay2_1.sl encS_len 0 (by omega) (by omega) 0 rfl) (SlT.cell (j := 0) hmay2_1.sl encS_len 0 (by omega) (by omega) 1 rfl) (SlT.cell (j := 0) hmay2_1.sl encS_len 0 (by omega) (by omega) 2 rfl) (SlT.cell (j := 0) hmay2_1.sl encS_len 0 (by omega) (by omega) 3 rfl)) ?_
          refine WL_val (dd := some 47) (v := setV 15) rfl rfl rfl (tb_build51_0 (h0 := rfl) (k0 := rfl) (c0_0 := .int .u64 15)) ?_
          refine WL_val (dd := some 48) rfl rfl rfl (tb_eq51 rfl rfl) ?_
          refine WL_val (dd := some 49) rfl rfl rfl (r_pick_t rfl (v := .bool _) rfl) ?_
          refine WL_split (dd := some 50) rfl rfl rfl (r_move (v := .bool _) rfl) (fun hs4_30 => ?_) (fun hs4_30 => ?_)
          ·
            try with_reducible replace hs4_30 := dec_t hs4_30
            refine WL_val (dd := some 51) rfl rfl rfl (r_loadW rfl tb_ag37 rfl hm2_5) ?_
            refine WL_call (dd := some 52) rfl rfl rfl (r_call1 tb_c33 (v0 := .agg #[_, _, _]) rfl) (C_spec_Right (specT (⟨1, 2, 1, [⟨⟨1, 1⟩, [1]⟩, ⟨⟨1, 0⟩, [2]⟩]⟩ : Tb)) _ _ _ hon2_1.sl hmay2_1.sl) (fun v4_32 W34 hE35 hP4_32 => ?_)
            have hsz36 := (Below.size hB)
            replace hB := below_ext hB hE35 (Nat.le_refl _)
            replace hm1_5 := hE35.at hm1_5
            replace hon2_1 := hE35.ow hon2_1
            replace hmay2_1 := hE35.ow hmay2_1
            replace hm2_5 := hE35.at hm2_5
            replace hm3_2 := hE35.at hm3_2
            clear hE35
            clear hsz36
            obtain rfl := hP4_32
            refine WL_val (dd := some 53) rfl rfl rfl (r_pick_t rfl (v := .bool _) rfl) ?_
            refine WL_split (dd := some 54) rfl rfl rfl (r_move (v := .bool _) rfl) (fun hs4_34 => ?_) (fun hs4_34 => ?_)
            ·
              try with_reducible replace hs4_34 := dec_t hs4_34
              refine WL_val (dd := some 55) rfl rfl rfl (r_loadW rfl tb_ag37 rfl hm2_5) ?_
              refine WL_val (dd := some 56) rfl rfl rfl (r_move (v := .slice (some ⟨b3_2, 0, none⟩) 1 1) rfl) ?_
              have ho37 := own_lit1 (enc := encR) (a := ⟨⟨_, _⟩, _⟩) hm3_2 rfl rfl lo_b3_2
              clear hm3_2
              refine WL_call (dd := some 57) rfl rfl rfl (r_call2 tb_c18 (v0 := .agg #[_, _, _]) rfl (v1 := .slice (some ⟨b3_2, 0, none⟩) 1 1) rfl) (C_spec_Covers (specT (⟨1, 2, 1, [⟨⟨1, 1⟩, [1]⟩, ⟨⟨1, 0⟩, [2]⟩]⟩ : Tb)) _ _ _ [⟨⟨1, 1⟩, 1⟩] _ hon2_1.sl hmay2_1.sl ho37.sl (by decide) kn4_b (by decide +kernel)) (fun v4_37 W38 hE39 hP4_37 => ?_)
              have hsz40 := (Below.size hB)
              replace hB := below_ext hB hE39 (Nat.le_refl _)
              replace hm1_5 := hE39.at hm1_5
              replace hon2_1 := hE39.ow hon2_1
              replace hmay2_1 := hE39.ow hmay2_1
              replace hm2_5 := hE39.at hm2_5
              replace ho37 := hE39.ow ho37
              clear hE39
              clear hsz40
              obtain rfl := hP4_37
              refine WL_val (dd := some 58) rfl rfl rfl (r_pick_t rfl (v := .bool _) rfl) ?_
              refine WL_split (dd := some 59) rfl rfl rfl (r_move (v := .bool _) rfl) (fun hs4_39 => ?_) (fun hs4_39 => ?_)
              ·
                try with_reducible replace hs4_39 := dec_t hs4_39
                refine WL_val (dd := some 60) rfl rfl rfl (r_loadW rfl tb_ag37 rfl hm2_5) ?_
                refine WL_call (dd := some 61) rfl rfl rfl (r_call2 tb_c18 (v0 := .agg #[_, _, _]) rfl (v1 := .slice none 0 0) rfl) (C_spec_Covers (specT (⟨1, 2, 1, [⟨⟨1, 1⟩, [1]⟩, ⟨⟨1, 0⟩, [2]⟩]⟩ : Tb)) _ _ _ [] _ hon2_1.sl hmay2_1.sl SlT.nil (by decide) (fun x hx => by cases hx) (by decide +kernel)) (fun v4_41 W41 hE42 hP4_41 => ?_)
                have hsz43 := (Below.size hB)
                replace hB := below_ext hB hE42 (Nat.le_refl _)
                replace hm1_5 := hE42.at hm1_5
                replace hon2_1 := hE42.ow hon2_1
                replace hmay2_1 := hE42.ow hmay2_1
                replace hm2_5 := hE42.at hm2_5
                replace ho37 := hE42.ow ho37
                clear hE42
                clear hsz43
                obtain rfl := hP4_41
                refine WL_val (dd := some 62) rfl rfl rfl (r_not rfl) ?_
                refine WL_val (dd := some 63) rfl rfl rfl (r_pick_t rfl (v := .bool _) rfl) ?_
                refine WL_val (dd := some 0) rfl rfl rfl (r_assign (v := .bool _) rfl) ?_
                refine WL_nil ?_
                refine hK33 _ _ ?_
                clear hK33 K32
                refine WC_ret ?_
                try clear hz9
                replace hsl1_0 := Below.slT hB hsl1_0
                replace hls1_0 := LsAt.below hB hls1_0
                have hzs := Nat.le_trans (Nat.le_refl _) (Below.size hBo8)
                replace lo_b1_5 := Nat.le_trans hzs lo_b1_5
                replace hon2_1 := OwT.mono hon2_1 hzs
                replace hmay2_1 := OwT.mono hmay2_1 hzs
                replace lo_b2_5 := Nat.le_trans hzs lo_b2_5
                replace ho37 := OwT.mono ho37 hzs
                replace hB := Below.trans hBo8 (Below.mono hB hzs)
                clear hBo8 hzs
                repeat (first | refine thenQ_ret ?_ | refine blockQ_ret ?_)
                refine ret_t (v := .bool _) rfl ?_
                refine ⟨hB, ?_⟩
                rw [kn4_n]
                rfl
              ·
                try with_reducible replace hs4_39 := dec_f hs4_39
                exact absurd hs4_39 (by decide +kernel)
            ·
              try with_reducible replace hs4_34 := dec_f hs4_34
              exact absurd hs4_34 (by decide +kernel)
          ·
            try with_reducible replace hs4_30 := dec_f hs4_30
            exact absurd hs4_30 (by decide +kernel)
        ·
          try with_reducible replace hs4_22 := dec_f hs4_22
          exact absurd hs4_22 (by decide +kernel)
      ·
        try with_reducible replace hs4_14 := dec_f hs4_14
        exact absurd hs4_14 (by decide +kernel)
    ·
      try with_reducible replace hs4_8 := dec_f hs4_8
      exact absurd hs4_8 (by decide +kernel)
  ·
    try with_reducible replace hs4_2 := dec_f hs4_2
    exact absurd hs4_2 (by decide +kernel)

theorem C_drawknifelaw04_SpecLines (T : Tb) (lv : Value) (vs : List LnV) (w : World) (hgl : Gl w) (hlv : SlT encLn 3 w lv vs) (hls : LsAt w vs T.ls) (hmb : ∀ i, i < T.ls.length → (T.ls.getD i ln0).c.m < 256 ∧ (T.ls.getD i ln0).c.v < 256) (hvl : vs.length ≤ 9223372036854775807) :
    Fn Tryd.prog 5 #[.agg #[.int .i64 T.kind, .int .i64 T.ni, .int .i64 T.no, lv]] w fun v w' => v = .bool true := by
  refine Fn_intro (n := 78) Tryd.func5 rfl rfl (Nat.le_of_ble_eq_true rfl) ?_
  have hB : Below w.heap.size w w := Below.refl _ _
  have hle := hls.len
  refine WC_seq (fun K1 hK2 => ?_)
  refine WC_region ?_
  refine WL_step (dd := some 1) rfl rfl rfl (Y_box (c := #[_, _, _, _]) rfl rfl (fun b0_0 W3 hb4 hE5 hm0_0 => ?_))
  have lo_b0_0 : w.heap.size ≤ b0_0 := hb4 ▸ (Below.size hB)
  clear hb4
  replace hB := below_ext hB hE5 (Nat.le_refl _)
  clear hE5
  refine WL_val (dd := some 2) rfl rfl rfl (r_assign (v := .bool false) rfl) ?_
  refine WL_nil ?_
  refine hK2 _ _ ?_
  clear hK2 K1
  refine WC_seq (fun K6 hK7 => ?_)
  refine WC_seq (fun K8 hK9 => ?_)
  refine WC_region ?_
  refine WL_val (dd := some 10) rfl rfl rfl (r_loadW rfl tb_ag24 rfl hm0_0) ?_
  refine WL_call (dd := some 11) rfl rfl rfl (r_call1 tb_c7 (v0 := .agg #[_, _, _, _]) rfl) (C_drawknifelaw03_Great _ _ _ _ (Below.slT hB hlv) (LsAt.below hB hls) (by assumption) (by first | assumption | omega)) (fun v1_1 W10 hE11 hP1_1 => ?_)
  have hsz12 := (Below.size hB)
  replace hB := below_ext hB hE11 (Nat.le_refl _)
  replace hm0_0 := hE11.at hm0_0
  clear hE11
  clear hsz12
  obtain rfl := hP1_1
  refine WL_split (dd := some 12) rfl rfl rfl (r_move (v := .bool _) rfl) (fun hs1_2 => ?_) (fun hs1_2 => ?_)
  ·
    try with_reducible replace hs1_2 := dec_t hs1_2
    refine WL_skip (dd := some 13) rfl rfl rfl ?_
    refine WL_skip (dd := some 14) rfl rfl rfl ?_
    refine WL_skip (dd := some 15) rfl rfl rfl ?_
    refine WL_val (dd := some 16) rfl rfl rfl (r_pick_t rfl (v := .bool true) rfl) ?_
    refine WL_nil ?_
    refine hK9 _ _ ?_
    clear hK9 K8
    refine WC_cond_true rfl ?_
    refine WC_seq (fun K13 hK14 => ?_)
    refine WC_region ?_
    refine WL_call (dd := some 17) rfl rfl rfl (r_call0 tb_c16) (C_drawknifelaw04_knows _ (Gl.below hB hgl)) (fun v2_0 W15 hE16 hP2_0 => ?_)
    have hsz17 := (Below.size hB)
    replace hB := below_ext hB hE16 (Nat.le_refl _)
    replace hm0_0 := hE16.at hm0_0
    clear hE16
    clear hsz17
    obtain rfl := hP2_0
    refine WL_val (dd := some 2) rfl rfl rfl (r_assign (v := .bool _) rfl) ?_
    refine WL_nil ?_
    refine hK14 _ _ ?_
    clear hK14 K13
    refine WC_ret ?_
    repeat (first | refine thenQ_ret ?_ | refine blockQ_ret ?_)
    try clear hK7 K6
    refine ret_t (v := .bool _) rfl ?_
    refine ⟨hB, ?_⟩
    rfl
  ·
    try with_reducible replace hs1_2 := dec_f hs1_2
    refine WL_val (dd := some 13) rfl rfl rfl (r_loadW rfl tb_ag24 rfl hm0_0) ?_
    refine WL_call (dd := some 14) rfl rfl rfl (r_call1 tb_c10 (v0 := .agg #[_, _, _, _]) rfl) (C_drawkniferef03_Right _ _ _ _ (Below.slT hB hlv) (LsAt.below hB hls) (by assumption)) (fun v1_4 W18 hE19 hP1_4 => ?_)
    have hsz20 := (Below.size hB)
    replace hB := below_ext hB hE19 (Nat.le_refl _)
    replace hm0_0 := hE19.at hm0_0
    clear hE19
    clear hsz20
    obtain rfl := hP1_4
    refine WL_val (dd := some 15) rfl rfl rfl (r_not rfl) ?_
    refine WL_val (dd := some 16) rfl rfl rfl (r_pick_f rfl (v := .bool _) rfl) ?_
    refine WL_nil ?_
    refine hK9 _ _ ?_
    clear hK9 K8
    refine WC_cond (b := _) rfl (fun hc0 => ?_) (fun hc0 => ?_)
    ·
      try with_reducible replace hc0 := dec_t hc0
      refine WC_seq (fun K21 hK22 => ?_)
      refine WC_region ?_
      refine WL_call (dd := some 17) rfl rfl rfl (r_call0 tb_c16) (C_drawknifelaw04_knows _ (Gl.below hB hgl)) (fun v2_0 W23 hE24 hP2_0 => ?_)
      have hsz25 := (Below.size hB)
      replace hB := below_ext hB hE24 (Nat.le_refl _)
      replace hm0_0 := hE24.at hm0_0
      clear hE24
      clear hsz25
      obtain rfl := hP2_0
      refine WL_val (dd := some 2) rfl rfl rfl (r_assign (v := .bool _) rfl) ?_
      refine WL_nil ?_
      refine hK22 _ _ ?_
      clear hK22 K21
      refine WC_ret ?_
      repeat (first | refine thenQ_ret ?_ | refine blockQ_ret ?_)
      try clear hK7 K6
      refine ret_t (v := .bool _) rfl ?_
      refine ⟨hB, ?_⟩
      rfl
    ·
      try with_reducible replace hc0 := dec_f hc0
      refine WC_skip ?_
      refine hK7 _ _ ?_
      clear hK7 K6
      refine WC_seq (fun K26 hK27 => ?_)
      have hr : rightT T = true := bool_f hc0
      have hr0 := right_k0 hr
      obtain ⟨hE0, hcv⟩ := lines_cover hr0 rfl
      obtain ⟨hk0, hk3, hi0, hi8, hno1, hno4, hl64⟩ := right_hd hr
      obtain ⟨no, hno⟩ := Int.eq_ofNat_of_zero_le (show 0 ≤ T.no by omega)
      refine WC_region ?_
      refine WL_val (dd := some 18) rfl rfl rfl (r_fieldAddr (b := _) (o := _) rfl tb_fo24_0) ?_
      refine WL_step (dd := none) rfl rfl rfl (Y_store1 (v := .int .i64 0) rfl rfl tb_sc3 rfl hm0_0 (by simp) (fun W28 hG29 hm30 => ?_))
      replace hB := below_grown hB hG29 (Nat.le_refl _) (fun j hj => by cases hj; exact lo_b0_0)
      clear hG29 hm0_0
      have hm0_0 := hm30
      clear hm30
      replace hm0_0 : At _ _ #[_, _, _, _] _ := hm0_0
      refine WL_nil ?_
      refine hK27 _ _ ?_
      clear hK27 K26
      refine WC_seq (fun K31 hK32 => ?_)
      refine WC_region ?_
      refine WL_val (dd := some 20) rfl rfl rfl (r_loadW rfl tb_ag24 rfl hm0_0) ?_
      refine WL_call (dd := some 21) rfl rfl rfl (r_call1 tb_c17 (v0 := .agg #[_, _, _, _]) rfl) (C_spec_Of ⟨0, T.ni, T.no, T.ls⟩ _ vs _ (Below.slT hB hlv) (LsAt.below hB hls) hmb) (fun v4_1 W33 hE34 hP4_1 => ?_)
      have hsz35 := (Below.size hB)
      replace hB := below_ext hB hE34 (Nat.le_refl _)
      replace hm0_0 := hE34.at hm0_0
      clear hE34
      have hsz4_1 := hsz35
      replace hP4_1 := hP4_1.resolve_right (fun h => h.1 hE0)
      obtain ⟨hof4_1, on4_1, may4_1, rfl, hon4_1, hmay4_1⟩ := hP4_1
      replace hon4_1 := OwT.mono hon4_1 hsz4_1
      replace hmay4_1 := OwT.mono hmay4_1 hsz4_1
      clear hsz35
      refine WL_val (dd := some 19) rfl rfl rfl (r_move (v := .tuple #[.agg #[.int .i64 _, on4_1, may4_1], .int .i64 0]) rfl) ?_
      refine WL_val (dd := some 22) rfl rfl rfl (r_ext2_0 (h := rfl)) ?_
      refine WL_val (dd := some 23) rfl rfl rfl (r_ext2_1 (h := rfl)) ?_
      refine WL_step (dd := some 3) rfl rfl rfl (Y_alloc tb_z37 rfl (fun b4_5 W36 hb37 hE38 hm4_5 => ?_))
      have lo_b4_5 : w.heap.size ≤ b4_5 := hb37 ▸ (Below.size hB)
      clear hb37
      replace hB := below_ext hB hE38 (Nat.le_refl _)
      replace hm0_0 := hE38.at hm0_0
      replace hon4_1 := hE38.ow hon4_1
      replace hmay4_1 := hE38.ow hmay4_1
      clear hE38
      refine WL_step (dd := none) rfl rfl rfl (Y_storeW rfl rfl tb_ag37 rfl hm4_5 rfl (by exact one_sp (SlT.one (OwT.sl hon4_1)) (SlT.one (OwT.sl hmay4_1))) (fun W39 hG40 hm41 => ?_))
      replace hB := below_grown hB hG40 (Nat.le_refl _) (fun j hj => by cases hj; exact lo_b4_5)
      replace hm0_0 := At.grownAt hm0_0 hm4_5 hG40 (by decide)
      replace hon4_1 := OwT.grownAt hon4_1 hm4_5 hG40 (by decide)
      replace hmay4_1 := OwT.grownAt hmay4_1 hm4_5 hG40 (by decide)
      clear hG40 hm4_5
      have hm4_5 := hm41
      clear hm41
      refine WL_val (dd := some 4) rfl rfl rfl (r_assign (v := .int .i64 0) rfl) ?_
      refine WL_nil ?_
      refine hK32 _ _ ?_
      clear hK32 K31
      refine WC_seq (fun K42 hK43 => ?_)
      refine WC_region ?_
      refine WL_val (dd := some 5) rfl rfl rfl (r_assign (v := .slice none 0 0) rfl) ?_
      refine WL_nil ?_
      refine hK43 _ _ ?_
      clear hK43 K42
      refine WC_seq (fun K44 hK45 => ?_)
      refine WC_seq (fun K46 hK47 => ?_)
      refine WC_region ?_
      refine WL_val (dd := some 6) rfl rfl rfl (r_assign (v := .int .i64 0) rfl) ?_
      refine WL_nil ?_
      refine hK47 _ _ ?_
      clear hK47 K46
      refine WC_block ?_
      refine WC_loop (σ := (Nat) × (Value)) [5, 6, 7, 8, 9, 24, 25, 26, 27, 28, 29, 30, 31, 32, 33, 34, 35, 36, 37, 38, 39, 40, 41, 42, 43, 44, 45, 46, 47, 48, 49, 50, 51, 52, 53, 54, 55, 56, 57, 58, 59, 60, 61, 62, 63, 64, 65, 66, 67] (fun (k, v0) => [(6, .int .i64 (k : Int)), (5, v0)]) (fun sg W => match sg with | (k, v0) => (Below w.heap.size w W) ∧ (At W b0_0 _ 24) ∧ (OwT encS 4 51 W w.heap.size on4_1 _) ∧ (OwT encS 4 51 W w.heap.size may4_1 _) ∧ (At W b4_5 _ 37) ∧ (OwT encR 3 47 W w.heap.size v0 (lnRows ⟨0, T.ni, T.no, T.ls⟩ T.no.toNat k)) ∧ (k ≤ T.ls.length) ∧ (True)) (fun (k, v0) => T.ls.length - k) ((0, .slice none 0 0)) ⟨rfl, rfl, trivial⟩ ⟨hB, hm0_0, hon4_1, hmay4_1, hm4_5, OwT.nil, (Nat.zero_le _), trivial⟩ ?_
      clear hB hm0_0 hon4_1 hmay4_1 hm4_5
      rintro ⟨k, v0⟩ g49 W48 ⟨hB, hm0_0, hon4_1, hmay4_1, hm4_5, ho, hk, _⟩ J50 hJ51
      refine WC_seq (fun K52 hK53 => ?_)
      refine WC_seq (fun K54 hK55 => ?_)
      refine WC_region ?_
      refine WL_val (dd := some 24) rfl rfl rfl (r_move (v := .int .i64 _) rfl) ?_
      refine WL_val (dd := some 25) rfl rfl rfl (r_fieldAddr (b := _) (o := _) rfl tb_fo24_3) ?_
      refine WL_val (dd := some 26) rfl rfl rfl (r_load1 (v := lv) rfl tb_sc22 (At.cell hm0_0 rfl)) ?_
      refine WL_val (dd := some 27) rfl rfl rfl (r_lenS (v := lv) rfl (Below.slT hB hlv) tb_el22) ?_
      refine WL_val (dd := some 28) rfl rfl rfl (r_lss rfl rfl) ?_
      refine WL_nil ?_
      refine hK55 _ _ ?_
      clear hK55 K54
      refine WC_cond (b := _) rfl (fun hc1 => ?_) (fun hc1 => ?_)
      ·
        try with_reducible replace hc1 := dec_t hc1
        refine WC_skip ?_
        refine hK53 _ _ ?_
        clear hK53 K52
        refine WC_seq (fun K56 hK57 => ?_)
        refine WC_block ?_
        refine WC_seq (fun K58 hK59 => ?_)
        have hck := hls.c k (by omega)
        have hln := right_ln hr (show k < T.ls.length by omega)
        obtain ⟨hr1, hr2, hr3⟩ := lnOk_iff.1 hln
        have hrl := lnRows_len ⟨0, T.ni, T.no, T.ls⟩ T.no.toNat k
        refine WC_region ?_
        refine WL_val (dd := some 31) rfl rfl rfl (r_fieldAddr (b := _) (o := _) rfl tb_fo24_3) ?_
        refine WL_val (dd := some 32) rfl rfl rfl (r_load1 (v := lv) rfl tb_sc22 (At.cell hm0_0 rfl)) ?_
        refine WL_val (dd := some 33) rfl rfl rfl (r_move (v := .int .i64 _) rfl) ?_
        refine WL_val (dd := some 34) rfl rfl rfl (r_idxS (v := lv) rfl (Below.slT hB hlv) rfl tb_el22 (by omega) (by omega)) ?_
        refine WL_val (dd := some 35) rfl rfl rfl (r_fieldAddr (b := _) (o := _) rfl tb_fo45_0) ?_
        refine WL_val (dd := some 36) rfl rfl rfl (r_load2 rfl tb_ag42 (SlT.cell (Below.slT hB hlv) encLn_len lv0 (by omega) (by omega) 0 rfl) (SlT.cell (Below.slT hB hlv) encLn_len lv0 (by omega) (by omega) 1 rfl)) ?_
        refine WL_val (dd := some 37) rfl rfl rfl (tb_build47_0 (h0 := rfl) ) ?_
        refine WL_step (dd := some 7) rfl rfl rfl (Y_alloc tb_z47 rfl (fun b9_7 W60 hb61 hE62 hm9_7 => ?_))
        have lo_b9_7 : w.heap.size ≤ b9_7 := hb61 ▸ (Below.size hB)
        have no_v0_b9_7 := OwT.neB (b := b9_7) ho (Nat.le_of_eq hb61.symm)
        clear hb61
        replace hB := below_ext hB hE62 (Nat.le_refl _)
        replace hm0_0 := hE62.at hm0_0
        replace hon4_1 := hE62.ow hon4_1
        replace hmay4_1 := hE62.ow hmay4_1
        replace hm4_5 := hE62.at hm4_5
        replace ho := hE62.ow ho
        clear hE62
        refine WL_step (dd := none) rfl rfl rfl (Y_storeW rfl rfl tb_ag47 rfl hm9_7 rfl (by rfl) (fun W63 hG64 hm65 => ?_))
        replace hB := below_grown hB hG64 (Nat.le_refl _) (fun j hj => by cases hj; exact lo_b9_7)
        replace hm0_0 := At.grownAt hm0_0 hm9_7 hG64 (by decide)
        replace hon4_1 := OwT.grownAt hon4_1 hm9_7 hG64 (by decide)
        replace hmay4_1 := OwT.grownAt hmay4_1 hm9_7 hG64 (by decide)
        replace hm4_5 := At.grownAt hm4_5 hm9_7 hG64 (by decide)
        replace ho := OwT.grownAtNe ho no_v0_b9_7 hG64
        clear hG64 hm9_7
        have hm9_7 := hm65
        clear hm65
        refine WL_nil ?_
        refine hK59 _ _ ?_
        clear hK59 K58
        refine WC_seq (fun K66 hK67 => ?_)
        refine WC_region ?_
        refine WL_val (dd := some 8) rfl rfl rfl (r_assign (v := .int .u8 1) rfl) ?_
        refine WL_nil ?_
        refine hK67 _ _ ?_
        clear hK67 K66
        refine WC_seq (fun K68 hK69 => ?_)
        refine WC_seq (fun K70 hK71 => ?_)
        refine WC_region ?_
        refine WL_val (dd := some 9) rfl rfl rfl (r_assign (v := .int .i64 0) rfl) ?_
        refine WL_nil ?_
        refine hK71 _ _ ?_
        clear hK71 K70
        refine WC_block ?_
        refine WC_loop (σ := (Nat)) [8, 9, 38, 39, 40, 41, 42, 43, 44, 45, 46, 47, 48, 49, 50, 51, 52, 53, 54, 55, 56, 57, 58, 59, 60] (fun j => [(9, .int .i64 (j : Int)), (8, .int .u8 ((2 ^ j : Nat) : Int))]) (fun j W => (Below w.heap.size w W) ∧ (At W b0_0 _ 24) ∧ (OwT encS 4 51 W w.heap.size on4_1 _) ∧ (OwT encS 4 51 W w.heap.size may4_1 _) ∧ (At W b4_5 _ 37) ∧ (OwT encR 3 47 W w.heap.size v0 _) ∧ (At W b9_7 #[.int .u8 (((vs.getD k lv0).c.m : Nat) : Int), .int .u8 (((vs.getD k lv0).c.v : Nat) : Int), .int .u8 ((outTo (T.ls.getD k ln0).os j : Nat) : Int)] 47) ∧ ((j : Int) ≤ T.no) ∧ (True)) (fun j => T.no.toNat - j) (0) ⟨rfl, rfl, trivial⟩ ⟨hB, hm0_0, hon4_1, hmay4_1, hm4_5, ho, hm9_7, (by omega), trivial⟩ ?_
        clear hB hm0_0 hon4_1 hmay4_1 hm4_5 ho hm9_7
        rintro j g73 W72 ⟨hB, hm0_0, hon4_1, hmay4_1, hm4_5, ho, hm9_7, hj, _⟩ J74 hJ75
        refine WC_seq (fun K76 hK77 => ?_)
        refine WC_seq (fun K78 hK79 => ?_)
        refine WC_region ?_
        refine WL_val (dd := some 38) rfl rfl rfl (r_move (v := .int .i64 _) rfl) ?_
        refine WL_val (dd := some 39) rfl rfl rfl (r_fieldAddr (b := _) (o := _) rfl tb_fo24_2) ?_
        refine WL_val (dd := some 40) rfl rfl rfl (r_load1 (v := .int .i64 _) rfl tb_sc3 (At.cell hm0_0 rfl)) ?_
        refine WL_val (dd := some 41) rfl rfl rfl (r_lss rfl rfl) ?_
        refine WL_nil ?_
        refine hK79 _ _ ?_
        clear hK79 K78
        refine WC_cond (b := _) rfl (fun hc2 => ?_) (fun hc2 => ?_)
        ·
          try with_reducible replace hc2 := dec_t hc2
          refine WC_skip ?_
          refine hK77 _ _ ?_
          clear hK77 K76
          refine WC_seq (fun K80 hK81 => ?_)
          refine WC_block ?_
          refine WC_seq (fun K82 hK83 => ?_)
          refine WC_seq (fun K84 hK85 => ?_)
          refine WC_region ?_
          refine WL_val (dd := some 44) rfl rfl rfl (r_fieldAddr (b := _) (o := _) rfl tb_fo24_3) ?_
          refine WL_val (dd := some 45) rfl rfl rfl (r_load1 (v := lv) rfl tb_sc22 (At.cell hm0_0 rfl)) ?_
          refine WL_val (dd := some 46) rfl rfl rfl (r_move (v := .int .i64 _) rfl) ?_
          refine WL_val (dd := some 47) rfl rfl rfl (r_idxS (v := lv) rfl (Below.slT hB hlv) rfl tb_el22 (by omega) (by omega)) ?_
          refine WL_val (dd := some 48) rfl rfl rfl (r_fieldAddr (b := _) (o := _) rfl tb_fo45_1) ?_
          refine WL_val (dd := some 49) rfl rfl rfl (r_load1 (v := (vs.getD k lv0).o) rfl tb_sc43 (SlT.cell (Below.slT hB hlv) encLn_len lv0 (by omega) (by omega) 2 rfl)) ?_
          have hp14_5 : SlT encI 1 w ((vs.getD k lv0).o) ((T.ls.getD k ln0).os) := hls.o k (by omega)
          refine WL_val (dd := some 50) rfl rfl rfl (r_move (v := .int .i64 _) rfl) ?_
          refine WL_val (dd := some 51) rfl rfl rfl (r_idxS (v := (vs.getD k lv0).o) rfl (Below.slT hB hp14_5) rfl tb_el43 (by omega) (by omega)) ?_
          refine WL_val (dd := some 52) rfl rfl rfl (r_load1 (v := .int .i64 _) rfl tb_sc3 (SlT.cell (Below.slT hB hp14_5) encI_len 0 (by omega) (by omega) 0 rfl)) ?_
          refine WL_val (dd := some 53) rfl rfl rfl (r_eql rfl rfl) ?_
          refine WL_nil ?_
          refine hK85 _ _ ?_
          clear hK85 K84
          refine WC_cond (b := _) rfl (fun hc3 => ?_) (fun hc3 => ?_)
          ·
            try with_reducible replace hc3 := dec_t hc3
            have hlt := outTo_lt (T.ls.getD k ln0).os j
            have h3 : 2 ^ j ≤ 2 ^ 3 := Nat.pow_le_pow_right (by decide) (by omega)
            refine WC_region ?_
            refine WL_val (dd := some 54) rfl rfl rfl (r_fieldAddr (b := _) (o := _) rfl tb_fo47_1) ?_
            refine WL_val (dd := some 55) rfl rfl rfl (r_load1 (v := .int .u8 _) rfl tb_sc5 (At.cell hm9_7 rfl)) ?_
            refine WL_val (dd := some 56) rfl rfl rfl (r_move (v := .int .u8 _) rfl) ?_
            refine WL_val (dd := some 57) rfl rfl rfl (r_addN rfl (n := (2 ^ j)) rfl rfl (by simp only [topN]; omega)) ?_
            refine WL_val (dd := some 58) rfl rfl rfl (r_fieldAddr (b := _) (o := _) rfl tb_fo47_1) ?_
            refine WL_step (dd := none) rfl rfl rfl (Y_store1 (v := .int .u8 _) rfl rfl tb_sc5 rfl hm9_7 (by simp) (fun W86 hG87 hm88 => ?_))
            replace hB := below_grown hB hG87 (Nat.le_refl _) (fun j hj => by cases hj; exact lo_b9_7)
            replace hm0_0 := At.grownAt hm0_0 hm9_7 hG87 (by decide)
            replace hon4_1 := OwT.grownAt hon4_1 hm9_7 hG87 (by decide)
            replace hmay4_1 := OwT.grownAt hmay4_1 hm9_7 hG87 (by decide)
            replace hm4_5 := At.grownAt hm4_5 hm9_7 hG87 (by decide)
            replace ho := OwT.grownAtNe ho no_v0_b9_7 hG87
            clear hG87 hm9_7
            have hm9_7 := hm88
            clear hm88
            replace hm9_7 : At _ _ #[_, _, _] _ := hm9_7
            refine WL_nil ?_
            refine hK83 _ _ ?_
            clear hK83 K82
            have h3 : 2 ^ j ≤ 2 ^ 3 := Nat.pow_le_pow_right (by decide) (by omega)
            refine WC_region ?_
            refine WL_val (dd := some 59) rfl rfl rfl (r_move (v := .int .u8 _) rfl) ?_
            refine WL_val (dd := some 60) rfl rfl rfl (r_mulN rfl (n := 2) rfl rfl (by simp only [topN]; omega)) ?_
            refine WL_val (dd := some 8) rfl rfl rfl (r_assign (v := .int .u8 _) rfl) ?_
            refine WL_nil ?_
            refine hK81 _ _ ?_
            clear hK81 K80
            refine WC_region ?_
            refine WL_val (dd := some 42) rfl rfl rfl (r_move (v := .int .i64 _) rfl) ?_
            refine WL_val (dd := some 43) rfl rfl rfl (r_addI rfl rfl (by omega) (by omega)) ?_
            refine WL_val (dd := some 9) rfl rfl rfl (r_assign (v := .int .i64 _) rfl) ?_
            refine WL_nil ?_
            refine hJ75 _ _ (j + 1) ?_ ?_ ?_ ?_
            · repeat (first | exact agree.mask _ _ _ | refine agree.updo ?_ rfl _ | refine agree.updL ?_ _ rfl | refine agree.maskS rfl ?_)
            · exact ⟨rfl, congrArg (fun x : Nat => Value.int .u8 (x : Int)) (Nat.pow_succ 2 j).symm, trivial⟩
            · exact ⟨hB, hm0_0, hon4_1, hmay4_1, hm4_5, ho, (by first | (rw [← outTo_t (k := j) hc3]; exact hm9_7) | (rw [← outTo_f (k := j) hc3]; exact hm9_7)), (by omega), trivial⟩
            · first | omega | (dsimp only; omega)
          ·
            try with_reducible replace hc3 := dec_f hc3
            refine WC_skip ?_
            refine hK83 _ _ ?_
            clear hK83 K82
            have h3 : 2 ^ j ≤ 2 ^ 3 := Nat.pow_le_pow_right (by decide) (by omega)
            refine WC_region ?_
            refine WL_val (dd := some 59) rfl rfl rfl (r_move (v := .int .u8 _) rfl) ?_
            refine WL_val (dd := some 60) rfl rfl rfl (r_mulN rfl (n := 2) rfl rfl (by simp only [topN]; omega)) ?_
            refine WL_val (dd := some 8) rfl rfl rfl (r_assign (v := .int .u8 _) rfl) ?_
            refine WL_nil ?_
            refine hK81 _ _ ?_
            clear hK81 K80
            refine WC_region ?_
            refine WL_val (dd := some 42) rfl rfl rfl (r_move (v := .int .i64 _) rfl) ?_
            refine WL_val (dd := some 43) rfl rfl rfl (r_addI rfl rfl (by omega) (by omega)) ?_
            refine WL_val (dd := some 9) rfl rfl rfl (r_assign (v := .int .i64 _) rfl) ?_
            refine WL_nil ?_
            refine hJ75 _ _ (j + 1) ?_ ?_ ?_ ?_
            · repeat (first | exact agree.mask _ _ _ | refine agree.updo ?_ rfl _ | refine agree.updL ?_ _ rfl | refine agree.maskS rfl ?_)
            · exact ⟨rfl, congrArg (fun x : Nat => Value.int .u8 (x : Int)) (Nat.pow_succ 2 j).symm, trivial⟩
            · exact ⟨hB, hm0_0, hon4_1, hmay4_1, hm4_5, ho, (by first | (rw [← outTo_t (k := j) hc3]; exact hm9_7) | (rw [← outTo_f (k := j) hc3]; exact hm9_7)), (by omega), trivial⟩
            · first | omega | (dsimp only; omega)
        ·
          try with_reducible replace hc2 := dec_f hc2
          refine WC_exit ?_
          refine hK69 _ _ ?_
          clear hK77 K76
          clear hJ75 J74
          clear hK69 K68
          refine WC_seq (fun K89 hK90 => ?_)
          have hjn : j = T.no.toNat := by omega
          subst hjn
          refine WC_region ?_
          refine WL_val (dd := some 61) rfl rfl rfl (r_fieldAddr (b := _) (o := _) rfl tb_fo47_1) ?_
          refine WL_val (dd := some 62) rfl rfl rfl (r_load1 (v := .int .u8 _) rfl tb_sc5 (At.cell hm9_7 rfl)) ?_
          refine WL_val (dd := some 63) rfl rfl rfl (r_gtr rfl rfl) ?_
          refine WL_nil ?_
          refine hK90 _ _ ?_
          clear hK90 K89
          refine WC_cond (b := _) rfl (fun hc4 => ?_) (fun hc4 => ?_)
          ·
            try with_reducible replace hc4 := dec_t hc4
            refine WC_region ?_
            refine WL_val (dd := some 64) rfl rfl rfl (r_move (v := v0) rfl) ?_
            refine WL_val (dd := some 65) rfl rfl rfl (r_loadW rfl tb_ag47 rfl hm9_7) ?_
            refine WL_step (dd := some 66) rfl rfl rfl (Y_lit1 (u := .agg #[_, _, _]) rfl tb_el40 tb_zs47 rfl (by decide) (by decide) (fun b18_2 W91 hb92 hE93 hm18_2 => ?_))
            have lo_b18_2 : w.heap.size ≤ b18_2 := hb92 ▸ (Below.size hB)
            have no_v0_b18_2 := OwT.neB (b := b18_2) ho (Nat.le_of_eq hb92.symm)
            have ne_b9_7_b18_2 : b9_7 ≠ b18_2 := Nat.ne_of_lt (hb92 ▸ hm9_7.lt)
            clear hb92
            replace hB := below_ext hB hE93 (Nat.le_refl _)
            replace hm0_0 := hE93.at hm0_0
            replace hon4_1 := hE93.ow hon4_1
            replace hmay4_1 := hE93.ow hmay4_1
            replace hm4_5 := hE93.at hm4_5
            replace ho := hE93.ow ho
            replace hm9_7 := hE93.at hm9_7
            clear hE93
            refine WL_step (dd := some 67) rfl rfl rfl (Y_append (v := v0) (v2 := .slice (some ⟨b18_2, 0, none⟩) 1 1) rfl rfl tb_el40 tb_zs47 (by decide) ho (sl_lit1 hm18_2 rfl) rfl (by have := Below.size hB; omega) (by omega) (by omega) (fun v18_3 W94 hG95 ho18_3 => ?_))
            replace ho18_3 := OwT.snoc (enc := encR) (x := ⟨(vs.getD k lv0).c, _⟩) rfl rfl rfl rfl ho18_3
            clear hm18_2
            replace hB := below_grown hB hG95 (Nat.le_refl _) (fun j hj => (OwT.lt ho j hj))
            replace hm0_0 := At.grownOw hm0_0 ho hG95 (by decide)
            replace hon4_1 := OwT.grownOw hon4_1 ho hG95 (by decide)
            replace hmay4_1 := OwT.grownOw hmay4_1 ho hG95 (by decide)
            replace hm4_5 := At.grownOw hm4_5 ho hG95 (by decide)
            replace hm9_7 := At.grownOwNe hm9_7 no_v0_b9_7 hG95
            clear hG95
            clear ho
            refine WL_val (dd := some 5) rfl rfl rfl (r_assign (v := v18_3) rfl) ?_
            refine WL_nil ?_
            refine hK57 _ _ ?_
            clear hK57 K56
            refine WC_region ?_
            refine WL_val (dd := some 29) rfl rfl rfl (r_move (v := .int .i64 _) rfl) ?_
            refine WL_val (dd := some 30) rfl rfl rfl (r_addI rfl rfl (by omega) (by omega)) ?_
            refine WL_val (dd := some 6) rfl rfl rfl (r_assign (v := .int .i64 _) rfl) ?_
            refine WL_nil ?_
            refine hJ51 _ _ ((k + 1, v18_3)) ?_ ?_ ?_ ?_
            · repeat (first | exact agree.mask _ _ _ | refine agree.updo ?_ rfl _ | refine agree.updL ?_ _ rfl | refine agree.maskS rfl ?_)
            · exact ⟨rfl, rfl, trivial⟩
            · exact ⟨hB, hm0_0, hon4_1, hmay4_1, hm4_5, (by first | (rw [← lnRows_t (T := ⟨0, T.ni, T.no, T.ls⟩) (by show 0 < outTo (T.ls.getD k ln0).os T.no.toNat; omega), rowOf]; show OwT encR 3 _ _ _ _ (_ ++ [⟨(T.ls.getD k ln0).c, _⟩]); rw [← hck]; exact ho18_3) | (rw [← lnRows_f (T := ⟨0, T.ni, T.no, T.ls⟩) (by show ¬ 0 < outTo (T.ls.getD k ln0).os T.no.toNat; omega)]; exact ho18_3)), (by omega), trivial⟩
            · show T.ls.length - (k + 1) < T.ls.length - k; omega
          ·
            try with_reducible replace hc4 := dec_f hc4
            refine WC_skip ?_
            refine hK57 _ _ ?_
            clear hK57 K56
            refine WC_region ?_
            refine WL_val (dd := some 29) rfl rfl rfl (r_move (v := .int .i64 _) rfl) ?_
            refine WL_val (dd := some 30) rfl rfl rfl (r_addI rfl rfl (by omega) (by omega)) ?_
            refine WL_val (dd := some 6) rfl rfl rfl (r_assign (v := .int .i64 _) rfl) ?_
            refine WL_nil ?_
            refine hJ51 _ _ ((k + 1, v0)) ?_ ?_ ?_ ?_
            · repeat (first | exact agree.mask _ _ _ | refine agree.updo ?_ rfl _ | refine agree.updL ?_ _ rfl | refine agree.maskS rfl ?_)
            · exact ⟨rfl, rfl, trivial⟩
            · exact ⟨hB, hm0_0, hon4_1, hmay4_1, hm4_5, (by first | (rw [← lnRows_t (T := ⟨0, T.ni, T.no, T.ls⟩) (by show 0 < outTo (T.ls.getD k ln0).os T.no.toNat; omega), rowOf]; show OwT encR 3 _ _ _ _ (_ ++ [⟨(T.ls.getD k ln0).c, _⟩]); rw [← hck]; exact ho) | (rw [← lnRows_f (T := ⟨0, T.ni, T.no, T.ls⟩) (by show ¬ 0 < outTo (T.ls.getD k ln0).os T.no.toNat; omega)]; exact ho)), (by omega), trivial⟩
            · show T.ls.length - (k + 1) < T.ls.length - k; omega
      ·
        try with_reducible replace hc1 := dec_f hc1
        refine WC_exit ?_
        refine hK45 _ _ ?_
        clear hK53 K52
        clear hJ51 J50
        clear hK45 K44
        refine WC_seq (fun K97 hK98 => ?_)
        obtain rfl : k = T.ls.length := by omega
        refine WC_region ?_
        refine WL_val (dd := some 68) rfl rfl rfl (r_move (v := .int .i64 0) rfl) ?_
        refine WL_val (dd := some 69) rfl rfl rfl (r_eql rfl rfl) ?_
        refine WL_split (dd := some 70) rfl rfl rfl (r_move (v := .bool _) rfl) (fun hs19_2 => ?_) (fun hs19_2 => ?_)
        ·
          try with_reducible replace hs19_2 := dec_t hs19_2
          refine WL_val (dd := some 71) rfl rfl rfl (r_loadW rfl tb_ag37 rfl hm4_5) ?_
          refine WL_val (dd := some 72) rfl rfl rfl (r_move (v := v0) rfl) ?_
          refine WL_call (dd := some 73) rfl rfl rfl (r_call2 tb_c18 (v0 := .agg #[_, _, _]) rfl (v1 := v0) rfl) (C_spec_Covers (specT ⟨0, T.ni, T.no, T.ls⟩) _ _ _ (lnRows ⟨0, T.ni, T.no, T.ls⟩ T.no.toNat T.ls.length) _ hon4_1.sl hmay4_1.sl ho.sl (by have := lnRows_len ⟨0, T.ni, T.no, T.ls⟩ T.no.toNat T.ls.length; omega) (lnRows_b hr0 _ (Nat.le_refl _)) (by show (onTo _ _).length ≤ 20; rw [onTo_len]; show T.no.toNat ≤ 20; omega)) (fun v19_5 W99 hE100 hP19_5 => ?_)
          have hsz101 := (Below.size hB)
          replace hB := below_ext hB hE100 (Nat.le_refl _)
          replace hm0_0 := hE100.at hm0_0
          replace hon4_1 := hE100.ow hon4_1
          replace hmay4_1 := hE100.ow hmay4_1
          replace hm4_5 := hE100.at hm4_5
          replace ho := hE100.ow ho
          clear hE100
          clear hsz101
          obtain rfl := hP19_5
          refine WL_val (dd := some 74) rfl rfl rfl (r_pick_t rfl (v := .bool _) rfl) ?_
          refine WL_split (dd := some 75) rfl rfl rfl (r_move (v := .bool _) rfl) (fun hs19_7 => ?_) (fun hs19_7 => ?_)
          ·
            try with_reducible replace hs19_7 := dec_t hs19_7
            refine WL_call (dd := some 76) rfl rfl rfl (r_call0 tb_c16) (C_drawknifelaw04_knows _ (Gl.below hB hgl)) (fun v19_8 W102 hE103 hP19_8 => ?_)
            have hsz104 := (Below.size hB)
            replace hB := below_ext hB hE103 (Nat.le_refl _)
            replace hm0_0 := hE103.at hm0_0
            replace hon4_1 := hE103.ow hon4_1
            replace hmay4_1 := hE103.ow hmay4_1
            replace hm4_5 := hE103.at hm4_5
            replace ho := hE103.ow ho
            clear hE103
            clear hsz104
            obtain rfl := hP19_8
            refine WL_val (dd := some 77) rfl rfl rfl (r_pick_t rfl (v := .bool _) rfl) ?_
            refine WL_val (dd := some 2) rfl rfl rfl (r_assign (v := .bool _) rfl) ?_
            refine WL_nil ?_
            refine hK98 _ _ ?_
            clear hK98 K97
            refine WC_ret ?_
            repeat (first | refine thenQ_ret ?_ | refine blockQ_ret ?_)
            refine ret_t (v := .bool _) rfl ?_
            refine ⟨hB, ?_⟩
            rfl
          ·
            try with_reducible replace hs19_7 := dec_f hs19_7
            exact Bool.noConfusion (hcv.symm.trans hs19_7)
        ·
          try with_reducible replace hs19_2 := dec_f hs19_2
          exact absurd rfl hs19_2

theorem Covered_int (xa : Value) (l : List Rw) (p : Nat) (o : Int) (w : World) (hl : SlT encR 3 w xa l) (hlb : l.length ≤ 2000000) (hlr : RowB l) (hp : p < 256) (h0 : 0 ≤ o) (ho : o < 8) : Fn Tryd.prog 23 #[xa, .int .i64 (p : Int), .int .i64 o] w fun v w' => v = .bool (cvB l p o.toNat) := by
  obtain ⟨q, rfl⟩ := Int.eq_ofNat_of_zero_le h0
  exact C_drawkniferef04_Covered xa l p q w hl hlb hlr hp (by omega)

theorem C_drawknifelaw04_SpecPoints (xa : Value) (l : List Rw) (n out : Int) (w : World) (hgl : Gl w) (hl : SlT encR 3 w xa l) (hlr : RowB l) :
    Fn Tryd.prog 6 #[xa, .int .i64 n, .int .i64 out] w fun v w' => v = .bool true := by
  refine Fn_intro (n := 94) Tryd.func6 rfl rfl (Nat.le_of_ble_eq_true rfl) ?_
  have hB : Below w.heap.size w w := Below.refl _ _
  refine WC_seq (fun K1 hK2 => ?_)
  refine WC_region ?_
  refine WL_val (dd := some 6) rfl rfl rfl (r_assign (v := .bool false) rfl) ?_
  refine WL_nil ?_
  refine hK2 _ _ ?_
  clear hK2 K1
  refine WC_seq (fun K3 hK4 => ?_)
  refine WC_seq (fun K5 hK6 => ?_)
  refine WC_region ?_
  refine WL_val (dd := some 14) rfl rfl rfl (r_move (v := xa) rfl) ?_
  refine WL_val (dd := some 15) rfl rfl rfl (r_lenS (v := xa) rfl (Below.slT hB hl) tb_el40) ?_
  refine WL_val (dd := some 16) rfl rfl rfl (r_gtr rfl rfl) ?_
  refine WL_nil ?_
  refine hK6 _ _ ?_
  clear hK6 K5
  refine WC_cond (b := _) rfl (fun hc0 => ?_) (fun hc0 => ?_)
  ·
    try with_reducible replace hc0 := dec_t hc0
    refine WC_seq (fun K7 hK8 => ?_)
    refine WC_region ?_
    refine WL_call (dd := some 17) rfl rfl rfl (r_call0 tb_c16) (C_drawknifelaw04_knows _ (Gl.below hB hgl)) (fun v2_0 W9 hE10 hP2_0 => ?_)
    have hsz11 := (Below.size hB)
    replace hB := below_ext hB hE10 (Nat.le_refl _)
    clear hE10
    clear hsz11
    obtain rfl := hP2_0
    refine WL_val (dd := some 6) rfl rfl rfl (r_assign (v := .bool _) rfl) ?_
    refine WL_nil ?_
    refine hK8 _ _ ?_
    clear hK8 K7
    refine WC_ret ?_
    repeat (first | refine thenQ_ret ?_ | refine blockQ_ret ?_)
    try clear hK4 K3
    refine ret_t (v := .bool _) rfl ?_
    refine ⟨hB, ?_⟩
    rfl
  ·
    try with_reducible replace hc0 := dec_f hc0
    refine WC_skip ?_
    refine hK4 _ _ ?_
    clear hK4 K3
    refine WC_seq (fun K12 hK13 => ?_)
    have hl100 : l.length ≤ 100 := by omega
    refine WC_region ?_
    refine WL_val (dd := some 19) rfl rfl rfl (r_move (v := xa) rfl) ?_
    refine WL_val (dd := some 20) rfl rfl rfl (r_move (v := .int .i64 _) rfl) ?_
    refine WL_val (dd := some 21) rfl rfl rfl (r_move (v := .int .i64 _) rfl) ?_
    refine WL_call (dd := some 22) rfl rfl rfl (r_call3 tb_c19 (v0 := xa) rfl (v1 := .int .i64 _) rfl (v2 := .int .i64 _) rfl) (C_spec_Points _ l n out _ (Below.slT hB hl) (by omega) hlr) (fun v3_3 W14 hE15 hP3_3 => ?_)
    have hsz16 := (Below.size hB)
    replace hB := below_ext hB hE15 (Nat.le_refl _)
    clear hE15
    obtain ⟨sa, er, rfl, hhP3_3⟩ := pts_res hP3_3
    clear hsz16
    refine WL_val (dd := some 18) rfl rfl rfl (r_move (v := .tuple #[.agg #[_, _, _, _], .int .i64 _]) rfl) ?_
    refine WL_val (dd := some 23) rfl rfl rfl (r_ext2_0 (h := rfl)) ?_
    refine WL_val (dd := some 24) rfl rfl rfl (r_ext2_1 (h := rfl)) ?_
    refine WL_step (dd := some 7) rfl rfl rfl (Y_alloc tb_z51 rfl (fun b3_7 W17 hb18 hE19 hm3_7 => ?_))
    have lo_b3_7 : w.heap.size ≤ b3_7 := hb18 ▸ (Below.size hB)
    clear hb18
    replace hB := below_ext hB hE19 (Nat.le_refl _)
    clear hE19
    replace hm3_7 : At W17 b3_7 #[wv 0 0, wv 0 1, wv 0 2, wv 0 3] 51 := hm3_7
    refine WL_step (dd := none) rfl rfl rfl (Y_storeW rfl rfl tb_ag51 rfl hm3_7 rfl (by rfl) (fun W20 hG21 hm22 => ?_))
    replace hB := below_grown hB hG21 (Nat.le_refl _) (fun j hj => by cases hj; exact lo_b3_7)
    clear hG21 hm3_7
    have hm3_7 := hm22
    clear hm22
    refine WL_val (dd := some 8) rfl rfl rfl (r_assign (v := .int .i64 _) rfl) ?_
    refine WL_nil ?_
    refine hK13 _ _ ?_
    clear hK13 K12
    refine WC_seq (fun K23 hK24 => ?_)
    refine WC_region ?_
    refine WL_val (dd := some 25) rfl rfl rfl (r_move (v := .int .i64 _) rfl) ?_
    refine WL_val (dd := some 26) rfl rfl rfl (r_geq rfl rfl) ?_
    refine WL_split (dd := some 27) rfl rfl rfl (r_move (v := .bool _) rfl) (fun hs4_2 => ?_) (fun hs4_2 => ?_)
    ·
      try with_reducible replace hs4_2 := dec_t hs4_2
      refine WL_val (dd := some 28) rfl rfl rfl (r_move (v := .int .i64 _) rfl) ?_
      refine WL_val (dd := some 29) rfl rfl rfl (r_leq rfl rfl) ?_
      refine WL_val (dd := some 30) rfl rfl rfl (r_pick_t rfl (v := .bool _) rfl) ?_
      refine WL_split (dd := some 31) rfl rfl rfl (r_move (v := .bool _) rfl) (fun hs4_6 => ?_) (fun hs4_6 => ?_)
      ·
        try with_reducible replace hs4_6 := dec_t hs4_6
        refine WL_val (dd := some 32) rfl rfl rfl (r_move (v := .int .i64 _) rfl) ?_
        refine WL_val (dd := some 33) rfl rfl rfl (r_geq rfl rfl) ?_
        refine WL_val (dd := some 34) rfl rfl rfl (r_pick_t rfl (v := .bool _) rfl) ?_
        refine WL_split (dd := some 35) rfl rfl rfl (r_move (v := .bool _) rfl) (fun hs4_10 => ?_) (fun hs4_10 => ?_)
        ·
          try with_reducible replace hs4_10 := dec_t hs4_10
          refine WL_val (dd := some 36) rfl rfl rfl (r_move (v := .int .i64 _) rfl) ?_
          refine WL_val (dd := some 37) rfl rfl rfl (r_leq rfl rfl) ?_
          refine WL_val (dd := some 38) rfl rfl rfl (r_pick_t rfl (v := .bool _) rfl) ?_
          refine WL_val (dd := some 9) rfl rfl rfl (r_assign (v := .bool _) rfl) ?_
          refine WL_nil ?_
          refine hK24 _ _ ?_
          clear hK24 K23
          refine WC_seq (fun K25 hK26 => ?_)
          refine WC_seq (fun K27 hK28 => ?_)
          refine WC_region ?_
          refine WL_val (dd := some 10) rfl rfl rfl (r_assign (v := .int .i64 0) rfl) ?_
          refine WL_nil ?_
          refine hK28 _ _ ?_
          clear hK28 K27
          refine WC_block ?_
          refine WC_loop (σ := (Nat)) [9, 10, 39, 40, 41, 42, 43, 44, 45, 46, 47, 48, 49, 50, 51, 52, 53, 54] (fun k => [(10, .int .i64 (k : Int)), (9, .bool (okP l n out k))]) (fun k W => (Below w.heap.size w W) ∧ (At W b3_7 _ 51) ∧ (k ≤ l.length) ∧ (True)) (fun k => l.length - k) (0) ⟨rfl, (by first | exact okP_0 (by omega) | exact okP_f (by omega)), trivial⟩ ⟨hB, hm3_7, (Nat.zero_le _), trivial⟩ ?_
          clear hB hm3_7
          rintro k g30 W29 ⟨hB, hm3_7, hk, _⟩ J31 hJ32
          refine WC_seq (fun K33 hK34 => ?_)
          refine WC_seq (fun K35 hK36 => ?_)
          refine WC_region ?_
          refine WL_val (dd := some 39) rfl rfl rfl (r_move (v := .int .i64 _) rfl) ?_
          refine WL_val (dd := some 40) rfl rfl rfl (r_move (v := xa) rfl) ?_
          refine WL_val (dd := some 41) rfl rfl rfl (r_lenS (v := xa) rfl (Below.slT hB hl) tb_el40) ?_
          refine WL_val (dd := some 42) rfl rfl rfl (r_lss rfl rfl) ?_
          refine WL_nil ?_
          refine hK36 _ _ ?_
          clear hK36 K35
          refine WC_cond (b := _) rfl (fun hc1 => ?_) (fun hc1 => ?_)
          ·
            try with_reducible replace hc1 := dec_t hc1
            refine WC_skip ?_
            refine hK34 _ _ ?_
            clear hK34 K33
            refine WC_seq (fun K37 hK38 => ?_)
            refine WC_block ?_
            obtain ⟨hb1, hb2, hb3⟩ := hlr.get (k := k) (by omega)
            refine WC_region ?_
            refine WL_val (dd := some 45) rfl rfl rfl (r_move (v := .bool _) rfl) ?_
            refine WL_split (dd := some 46) rfl rfl rfl (r_move (v := .bool _) rfl) (fun hs8_1 => ?_) (fun hs8_1 => ?_)
            ·
              try with_reducible replace hs8_1 := dec_t hs8_1
              refine WL_val (dd := some 47) rfl rfl rfl (r_move (v := xa) rfl) ?_
              refine WL_val (dd := some 48) rfl rfl rfl (r_move (v := .int .i64 _) rfl) ?_
              refine WL_val (dd := some 49) rfl rfl rfl (r_idxS (v := xa) rfl (Below.slT hB hl) rfl tb_el40 (by omega) (by omega)) ?_
              refine WL_val (dd := some 50) rfl rfl rfl (r_fieldAddr (b := _) (o := _) rfl tb_fo47_0) ?_
              refine WL_val (dd := some 51) rfl rfl rfl (r_load2 rfl tb_ag42 (SlT.cell (Below.slT hB hl) encR_len ⟨⟨0, 0⟩, 0⟩ (by omega) (by omega) 0 rfl) (SlT.cell (Below.slT hB hl) encR_len ⟨⟨0, 0⟩, 0⟩ (by omega) (by omega) 1 rfl)) ?_
              refine WL_val (dd := some 52) rfl rfl rfl (r_move (v := .int .i64 _) rfl) ?_
              refine WL_call (dd := some 53) rfl rfl rfl (r_call2 tb_c20 (v0 := .agg #[_, _]) rfl (v1 := .int .i64 _) rfl) (C_drawkniferef02_Right _ _ _ _ hb1 hb2) (fun v8_8 W39 hE40 hP8_8 => ?_)
              have hsz41 := (Below.size hB)
              replace hB := below_ext hB hE40 (Nat.le_refl _)
              replace hm3_7 := hE40.at hm3_7
              clear hE40
              clear hsz41
              obtain rfl := hP8_8
              refine WL_val (dd := some 54) rfl rfl rfl (r_pick_t rfl (v := .bool _) rfl) ?_
              refine WL_val (dd := some 9) rfl rfl rfl (r_assign (v := .bool _) rfl) ?_
              refine WL_nil ?_
              refine hK38 _ _ ?_
              clear hK38 K37
              refine WC_region ?_
              refine WL_val (dd := some 43) rfl rfl rfl (r_move (v := .int .i64 _) rfl) ?_
              refine WL_val (dd := some 44) rfl rfl rfl (r_addI rfl rfl (by omega) (by omega)) ?_
              refine WL_val (dd := some 10) rfl rfl rfl (r_assign (v := .int .i64 _) rfl) ?_
              refine WL_nil ?_
              refine hJ32 _ _ (k + 1) ?_ ?_ ?_ ?_
              · repeat (first | exact agree.mask _ _ _ | refine agree.updo ?_ rfl _ | refine agree.updL ?_ _ rfl | refine agree.maskS rfl ?_)
              · exact ⟨rfl, (by first | exact okP_t (by omega) hs8_1 | exact okP_n (by omega) hs8_1), trivial⟩
              · exact ⟨hB, hm3_7, (by omega), trivial⟩
              · first | omega | (dsimp only; omega)
            ·
              try with_reducible replace hs8_1 := dec_f hs8_1
              refine WL_skip (dd := some 47) rfl rfl rfl ?_
              refine WL_skip (dd := some 48) rfl rfl rfl ?_
              refine WL_skip (dd := some 49) rfl rfl rfl ?_
              refine WL_skip (dd := some 50) rfl rfl rfl ?_
              refine WL_skip (dd := some 51) rfl rfl rfl ?_
              refine WL_skip (dd := some 52) rfl rfl rfl ?_
              refine WL_skip (dd := some 53) rfl rfl rfl ?_
              refine WL_val (dd := some 54) rfl rfl rfl (r_pick_f rfl (v := .bool false) rfl) ?_
              refine WL_val (dd := some 9) rfl rfl rfl (r_assign (v := .bool false) rfl) ?_
              refine WL_nil ?_
              refine hK38 _ _ ?_
              clear hK38 K37
              refine WC_region ?_
              refine WL_val (dd := some 43) rfl rfl rfl (r_move (v := .int .i64 _) rfl) ?_
              refine WL_val (dd := some 44) rfl rfl rfl (r_addI rfl rfl (by omega) (by omega)) ?_
              refine WL_val (dd := some 10) rfl rfl rfl (r_assign (v := .int .i64 _) rfl) ?_
              refine WL_nil ?_
              refine hJ32 _ _ (k + 1) ?_ ?_ ?_ ?_
              · repeat (first | exact agree.mask _ _ _ | refine agree.updo ?_ rfl _ | refine agree.updL ?_ _ rfl | refine agree.maskS rfl ?_)
              · exact ⟨rfl, (by first | exact okP_t (by omega) hs8_1 | exact okP_n (by omega) hs8_1), trivial⟩
              · exact ⟨hB, hm3_7, (by omega), trivial⟩
              · first | omega | (dsimp only; omega)
          ·
            try with_reducible replace hc1 := dec_f hc1
            refine WC_exit ?_
            refine hK26 _ _ ?_
            clear hK34 K33
            clear hJ32 J31
            clear hK26 K25
            refine WC_seq (fun K42 hK43 => ?_)
            refine WC_seq (fun K44 hK45 => ?_)
            obtain rfl : k = l.length := by omega
            rw [okP_all]
            refine WC_region ?_
            refine WL_val (dd := some 55) rfl rfl rfl (r_move (v := .bool _) rfl) ?_
            refine WL_val (dd := some 56) rfl rfl rfl (r_not rfl) ?_
            refine WL_nil ?_
            refine hK45 _ _ ?_
            clear hK45 K44
            refine WC_cond (b := _) rfl (fun hc2 => ?_) (fun hc2 => ?_)
            ·
              try with_reducible replace hc2 := dec_t hc2
              refine WC_seq (fun K46 hK47 => ?_)
              have hpk : ptOk l n out = false := bool_t hc2
              obtain ⟨_, hsa, her⟩ := hhP3_3.resolve_left (fun h => by rw [h.1] at hpk; cases hpk)
              subst hsa
              subst her
              refine WC_region ?_
              refine WL_val (dd := some 57) rfl rfl rfl (r_loadW rfl tb_ag51 rfl hm3_7) ?_
              refine WL_val (dd := some 58) (v := setV 0) rfl rfl rfl (tb_build51_ ) ?_
              refine WL_val (dd := some 59) rfl rfl rfl (tb_eq51 rfl rfl) ?_
              refine WL_split (dd := some 60) rfl rfl rfl (r_move (v := .bool _) rfl) (fun hs10_3 => ?_) (fun hs10_3 => ?_)
              ·
                try with_reducible replace hs10_3 := dec_t hs10_3
                refine WL_val (dd := some 61) rfl rfl rfl (r_move (v := .int .i64 _) rfl) ?_
                refine WL_val (dd := some 62) rfl rfl rfl (r_eql rfl rfl) ?_
                refine WL_val (dd := some 63) rfl rfl rfl (r_pick_t rfl (v := .bool _) rfl) ?_
                refine WL_split (dd := some 64) rfl rfl rfl (r_move (v := .bool _) rfl) (fun hs10_7 => ?_) (fun hs10_7 => ?_)
                ·
                  try with_reducible replace hs10_7 := dec_t hs10_7
                  refine WL_call (dd := some 65) rfl rfl rfl (r_call0 tb_c16) (C_drawknifelaw04_knows _ (Gl.below hB hgl)) (fun v10_8 W48 hE49 hP10_8 => ?_)
                  have hsz50 := (Below.size hB)
                  replace hB := below_ext hB hE49 (Nat.le_refl _)
                  replace hm3_7 := hE49.at hm3_7
                  clear hE49
                  clear hsz50
                  obtain rfl := hP10_8
                  refine WL_val (dd := some 66) rfl rfl rfl (r_pick_t rfl (v := .bool _) rfl) ?_
                  refine WL_val (dd := some 6) rfl rfl rfl (r_assign (v := .bool _) rfl) ?_
                  refine WL_nil ?_
                  refine hK47 _ _ ?_
                  clear hK47 K46
                  refine WC_ret ?_
                  repeat (first | refine thenQ_ret ?_ | refine blockQ_ret ?_)
                  try clear hK43 K42
                  refine ret_t (v := .bool _) rfl ?_
                  refine ⟨hB, ?_⟩
                  rfl
                ·
                  try with_reducible replace hs10_7 := dec_f hs10_7
                  exact absurd rfl hs10_7
              ·
                try with_reducible replace hs10_3 := dec_f hs10_3
                exact absurd ⟨rfl, rfl, rfl, rfl⟩ hs10_3
            ·
              try with_reducible replace hc2 := dec_f hc2
              refine WC_skip ?_
              refine hK43 _ _ ?_
              clear hK43 K42
              refine WC_seq (fun K51 hK52 => ?_)
              have hpk : ptOk l n out = true := bool_f hc2
              obtain ⟨⟨hi0, hi8, hu0, hu4⟩, _⟩ := ptOk_iff.1 hpk
              obtain ⟨_, hsa, her⟩ := hhP3_3.resolve_right (fun h => by rw [h.1] at hpk; cases hpk)
              subst hsa
              subst her
              refine WC_region ?_
              refine WL_val (dd := some 68) rfl rfl rfl (r_move (v := .int .i64 _) rfl) ?_
              refine WL_call (dd := some 69) rfl rfl rfl (r_call1 tb_c21 (v0 := .int .i64 _) rfl) (C_set_All _ _) (fun v11_1 W53 hE54 hP11_1 => ?_)
              have hsz55 := (Below.size hB)
              replace hB := below_ext hB hE54 (Nat.le_refl _)
              replace hm3_7 := hE54.at hm3_7
              clear hE54
              rw [if_pos ⟨hi0, hi8⟩] at hP11_1
              obtain rfl := hP11_1
              clear hsz55
              refine WL_val (dd := some 67) rfl rfl rfl (r_move (v := .tuple #[.agg #[_, _, _, _], .int .i64 0]) rfl) ?_
              refine WL_val (dd := some 70) rfl rfl rfl (r_ext2_0 (h := rfl)) ?_
              refine WL_val (dd := some 71) rfl rfl rfl (r_ext2_1 (h := rfl)) ?_
              refine WL_step (dd := some 11) rfl rfl rfl (Y_alloc tb_z51 rfl (fun b11_5 W56 hb57 hE58 hm11_5 => ?_))
              have lo_b11_5 : w.heap.size ≤ b11_5 := hb57 ▸ (Below.size hB)
              have ne_b3_7_b11_5 : b3_7 ≠ b11_5 := Nat.ne_of_lt (hb57 ▸ hm3_7.lt)
              clear hb57
              replace hB := below_ext hB hE58 (Nat.le_refl _)
              replace hm3_7 := hE58.at hm3_7
              clear hE58
              replace hm11_5 : At W56 b11_5 #[wv 0 0, wv 0 1, wv 0 2, wv 0 3] 51 := hm11_5
              refine WL_step (dd := none) rfl rfl rfl (Y_storeW rfl rfl tb_ag51 rfl hm11_5 rfl (by rfl) (fun W59 hG60 hm61 => ?_))
              replace hB := below_grown hB hG60 (Nat.le_refl _) (fun j hj => by cases hj; exact lo_b11_5)
              replace hm3_7 := At.grownNe hm3_7 ne_b3_7_b11_5 hG60
              clear hG60 hm11_5
              have hm11_5 := hm61
              clear hm61
              refine WL_val (dd := some 12) rfl rfl rfl (r_assign (v := .int .i64 0) rfl) ?_
              refine WL_nil ?_
              refine hK52 _ _ ?_
              clear hK52 K51
              refine WC_seq (fun K62 hK63 => ?_)
              refine WC_seq (fun K64 hK65 => ?_)
              refine WC_region ?_
              refine WL_val (dd := some 13) rfl rfl rfl (r_assign (v := .int .i64 0) rfl) ?_
              refine WL_nil ?_
              refine hK65 _ _ ?_
              clear hK65 K64
              refine WC_block ?_
              refine WC_loop (σ := (Nat)) [6, 13, 72, 73, 74, 75, 76, 77, 78, 79, 80, 81, 82, 83, 84, 85, 86, 87, 88] (fun p => [(13, .int .i64 (p : Int))]) (fun p W => (Below w.heap.size w W) ∧ (At W b3_7 _ 51) ∧ (At W b11_5 _ 51) ∧ (p ≤ 256) ∧ (True)) (fun p => 256 - p) (0) ⟨rfl, trivial⟩ ⟨hB, hm3_7, hm11_5, (by omega), trivial⟩ ?_
              clear hB hm3_7 hm11_5
              rintro p g67 W66 ⟨hB, hm3_7, hm11_5, hp, _⟩ J68 hJ69
              refine WC_seq (fun K70 hK71 => ?_)
              refine WC_seq (fun K72 hK73 => ?_)
              refine WC_region ?_
              refine WL_val (dd := some 72) rfl rfl rfl (r_move (v := .int .i64 _) rfl) ?_
              refine WL_val (dd := some 73) rfl rfl rfl (r_lss rfl rfl) ?_
              refine WL_nil ?_
              refine hK73 _ _ ?_
              clear hK73 K72
              refine WC_cond (b := _) rfl (fun hc3 => ?_) (fun hc3 => ?_)
              ·
                try with_reducible replace hc3 := dec_t hc3
                refine WC_skip ?_
                refine hK71 _ _ ?_
                clear hK71 K70
                refine WC_seq (fun K74 hK75 => ?_)
                refine WC_block ?_
                refine WC_seq (fun K76 hK77 => ?_)
                refine WC_draw Ext tb_mix (fun W78 hE79 => ?_)
                replace hB := below_ext hB hE79 (Nat.le_refl _)
                replace hm3_7 := hE79.at hm3_7
                replace hm11_5 := hE79.at hm11_5
                have hS := Ext.refl W78
                refine WT_take (dd := some 76) 0 rfl (by kernel_rfl) (by kernel_rfl) (by kernel_rfl) rfl rfl rfl (fun _wq hq => r_loadW rfl tb_ag51 rfl (hq.at hm3_7)) hS ?_
                refine WT_take (dd := some 77) 1 rfl (by kernel_rfl) (by kernel_rfl) (by kernel_rfl) rfl rfl rfl (fun _wq _hq => r_move (v := .int .i64 _) rfl) hS ?_
                refine WT_take (dd := some 79) 3 rfl (by kernel_rfl) (by kernel_rfl) (by kernel_rfl) rfl rfl rfl (fun _wq hq => r_loadW rfl tb_ag51 rfl (hq.at hm11_5)) hS ?_
                refine WT_take (dd := some 80) 4 rfl (by kernel_rfl) (by kernel_rfl) (by kernel_rfl) rfl rfl rfl (fun _wq _hq => r_move (v := .int .i64 _) rfl) hS ?_
                refine WT_one (dd := some 78) 2 (by kernel_rfl) rfl rfl rfl rfl (Yd.call (r_call2 tb_c22 (v0 := .agg #[_, _, _, _]) rfl (v1 := .int .i64 _) rfl) (C_set_Has _ _ _) (fun v15_2 W80 hE81 hP15_2 => ⟨.inl (hS.trans hE81), ?_⟩))
                have hsz82 := (Below.size hB)
                have sv83_hB := hB
                have sv83_hm3_7 := hm3_7
                have sv83_hm11_5 := hm11_5
                replace hB := below_ext hB hE81 (Nat.le_refl _)
                replace hm3_7 := hE81.at hm3_7
                replace hm11_5 := hE81.at hm11_5
                replace hS := hS.trans hE81
                clear hE81
                clear hsz82
                obtain rfl := hP15_2
                refine WT_one (dd := some 81) 5 (by kernel_rfl) rfl rfl rfl rfl (Yd.call (r_call2 tb_c22 (v0 := .agg #[_, _, _, _]) rfl (v1 := .int .i64 _) rfl) (C_set_Has _ _ _) (fun v15_5 W84 hE85 hP15_5 => ⟨.inl (hS.trans hE85), ?_⟩))
                have hsz86 := (Below.size hB)
                replace hB := below_ext hB hE85 (Nat.le_refl _)
                replace hm3_7 := hE85.at hm3_7
                replace hm11_5 := hE85.at hm11_5
                replace hS := hS.trans hE85
                clear hE85
                clear hsz86
                obtain rfl := hP15_5
                refine WT_split (dd := some 82) 6 rfl (by kernel_rfl) (by kernel_rfl) (by kernel_rfl) rfl rfl rfl (fun wq hq => r_move (v := .bool _) rfl) hS (fun hs15_6 => ?_) (fun hs15_6 => ?_)
                ·
                  try with_reducible replace hs15_6 := dec_t hs15_6
                  refine WT_take (dd := some 83) 7 rfl (by kernel_rfl) (by kernel_rfl) (by kernel_rfl) rfl rfl rfl (fun _wq _hq => r_move (v := xa) rfl) hS ?_
                  refine WT_take (dd := some 84) 8 rfl (by kernel_rfl) (by kernel_rfl) (by kernel_rfl) rfl rfl rfl (fun _wq _hq => r_move (v := .int .i64 _) rfl) hS ?_
                  refine WT_take (dd := some 85) 9 rfl (by kernel_rfl) (by kernel_rfl) (by kernel_rfl) rfl rfl rfl (fun _wq _hq => r_move (v := .int .i64 _) rfl) hS ?_
                  refine WT_one (dd := some 86) 10 (by kernel_rfl) rfl rfl rfl rfl (Yd.call (r_call3 tb_c23 (v0 := xa) rfl (v1 := .int .i64 _) rfl (v2 := .int .i64 _) rfl) (Covered_int _ l p out _ (Below.slT hB hl) (by omega) hlr (by omega) (by omega) (by omega)) (fun v15_10 W87 hE88 hP15_10 => ⟨.inl (hS.trans hE88), ?_⟩))
                  have hsz89 := (Below.size hB)
                  replace hB := below_ext hB hE88 (Nat.le_refl _)
                  replace hm3_7 := hE88.at hm3_7
                  replace hm11_5 := hE88.at hm11_5
                  replace hS := hS.trans hE88
                  clear hE88
                  clear hsz89
                  obtain rfl := hP15_10
                  refine WT_take (dd := some 87) 11 rfl (by kernel_rfl) (by kernel_rfl) (by kernel_rfl) rfl rfl rfl (fun _wq _hq => r_pick_t rfl (v := .bool _) rfl) hS ?_
                  refine WT_take (dd := some 88) 12 rfl (by kernel_rfl) (by kernel_rfl) (by kernel_rfl) rfl rfl rfl (fun _wq _hq => r_neqB rfl rfl Tryd.underlying4) hS ?_
                  refine WT_done (by kernel_rfl) ?_
                  try clear sv83_hB sv83_hm3_7 sv83_hm11_5
                  refine hK77 _ _ ?_
                  clear hK77 K76
                  refine WC_cond (b := _) rfl (fun hc4 => ?_) (fun hc4 => ?_)
                  ·
                    try with_reducible replace hc4 := dec_t hc4
                    exact (hc4 (pt_same1 hpk (by omega) hs15_6)).elim
                  ·
                    try with_reducible replace hc4 := dec_f hc4
                    refine WC_skip ?_
                    refine hK75 _ _ ?_
                    clear hK75 K74
                    refine WC_region ?_
                    refine WL_val (dd := some 74) rfl rfl rfl (r_move (v := .int .i64 _) rfl) ?_
                    refine WL_val (dd := some 75) rfl rfl rfl (r_addI rfl rfl (by omega) (by omega)) ?_
                    refine WL_val (dd := some 13) rfl rfl rfl (r_assign (v := .int .i64 _) rfl) ?_
                    refine WL_nil ?_
                    refine hJ69 _ _ (p + 1) ?_ ?_ ?_ ?_
                    · repeat (first | exact agree.mask _ _ _ | refine agree.updo ?_ rfl _ | refine agree.updL ?_ _ rfl | refine agree.maskS rfl ?_)
                    · exact ⟨rfl, trivial⟩
                    · exact ⟨hB, hm3_7, hm11_5, (by omega), trivial⟩
                    · first | omega | (dsimp only; omega)
                ·
                  try with_reducible replace hs15_6 := dec_f hs15_6
                  refine WT_pass (dd := some 83) 7 rfl (by kernel_rfl) (by kernel_rfl) (by kernel_rfl) rfl rfl rfl hS ?_
                  refine WT_pass (dd := some 84) 8 rfl (by kernel_rfl) (by kernel_rfl) (by kernel_rfl) rfl rfl rfl hS ?_
                  refine WT_pass (dd := some 85) 9 rfl (by kernel_rfl) (by kernel_rfl) (by kernel_rfl) rfl rfl rfl hS ?_
                  refine WT_pass (dd := some 86) 10 rfl (by kernel_rfl) (by kernel_rfl) (by kernel_rfl) rfl rfl rfl hS ?_
                  refine WT_take (dd := some 87) 11 rfl (by kernel_rfl) (by kernel_rfl) (by kernel_rfl) rfl rfl rfl (fun _wq _hq => r_pick_f rfl (v := .bool false) rfl) hS ?_
                  refine WT_take (dd := some 88) 12 rfl (by kernel_rfl) (by kernel_rfl) (by kernel_rfl) rfl rfl rfl (fun _wq _hq => r_neqB rfl rfl Tryd.underlying4) hS ?_
                  refine WT_done (by kernel_rfl) ?_
                  try clear sv83_hB sv83_hm3_7 sv83_hm11_5
                  refine hK77 _ _ ?_
                  clear hK77 K76
                  refine WC_cond (b := _) rfl (fun hc4 => ?_) (fun hc4 => ?_)
                  ·
                    try with_reducible replace hc4 := dec_t hc4
                    exact (hc4 (pt_same0 hpk (by omega) hs15_6)).elim
                  ·
                    try with_reducible replace hc4 := dec_f hc4
                    refine WC_skip ?_
                    refine hK75 _ _ ?_
                    clear hK75 K74
                    refine WC_region ?_
                    refine WL_val (dd := some 74) rfl rfl rfl (r_move (v := .int .i64 _) rfl) ?_
                    refine WL_val (dd := some 75) rfl rfl rfl (r_addI rfl rfl (by omega) (by omega)) ?_
                    refine WL_val (dd := some 13) rfl rfl rfl (r_assign (v := .int .i64 _) rfl) ?_
                    refine WL_nil ?_
                    refine hJ69 _ _ (p + 1) ?_ ?_ ?_ ?_
                    · repeat (first | exact agree.mask _ _ _ | refine agree.updo ?_ rfl _ | refine agree.updL ?_ _ rfl | refine agree.maskS rfl ?_)
                    · exact ⟨rfl, trivial⟩
                    · exact ⟨hB, hm3_7, hm11_5, (by omega), trivial⟩
                    · first | omega | (dsimp only; omega)
              ·
                try with_reducible replace hc3 := dec_f hc3
                refine WC_exit ?_
                refine hK63 _ _ ?_
                clear hK71 K70
                clear hJ69 J68
                clear hK63 K62
                refine WC_seq (fun K90 hK91 => ?_)
                refine WC_region ?_
                refine WL_val (dd := some 89) rfl rfl rfl (r_move (v := .int .i64 _) rfl) ?_
                refine WL_val (dd := some 90) rfl rfl rfl (r_eql rfl rfl) ?_
                refine WL_split (dd := some 91) rfl rfl rfl (r_move (v := .bool _) rfl) (fun hs17_2 => ?_) (fun hs17_2 => ?_)
                ·
                  try with_reducible replace hs17_2 := dec_t hs17_2
                  refine WL_call (dd := some 92) rfl rfl rfl (r_call0 tb_c16) (C_drawknifelaw04_knows _ (Gl.below hB hgl)) (fun v17_3 W92 hE93 hP17_3 => ?_)
                  have hsz94 := (Below.size hB)
                  replace hB := below_ext hB hE93 (Nat.le_refl _)
                  replace hm3_7 := hE93.at hm3_7
                  replace hm11_5 := hE93.at hm11_5
                  clear hE93
                  clear hsz94
                  obtain rfl := hP17_3
                  refine WL_val (dd := some 93) rfl rfl rfl (r_pick_t rfl (v := .bool _) rfl) ?_
                  refine WL_val (dd := some 6) rfl rfl rfl (r_assign (v := .bool _) rfl) ?_
                  refine WL_nil ?_
                  refine hK91 _ _ ?_
                  clear hK91 K90
                  refine WC_ret ?_
                  repeat (first | refine thenQ_ret ?_ | refine blockQ_ret ?_)
                  refine ret_t (v := .bool _) rfl ?_
                  refine ⟨hB, ?_⟩
                  rfl
                ·
                  try with_reducible replace hs17_2 := dec_f hs17_2
                  exact absurd rfl hs17_2
        ·
          try with_reducible replace hs4_10 := dec_f hs4_10
          refine WL_skip (dd := some 36) rfl rfl rfl ?_
          refine WL_skip (dd := some 37) rfl rfl rfl ?_
          refine WL_val (dd := some 38) rfl rfl rfl (r_pick_f rfl (v := .bool false) rfl) ?_
          refine WL_val (dd := some 9) rfl rfl rfl (r_assign (v := .bool false) rfl) ?_
          refine WL_nil ?_
          refine hK24 _ _ ?_
          clear hK24 K23
          refine WC_seq (fun K95 hK96 => ?_)
          refine WC_seq (fun K97 hK98 => ?_)
          refine WC_region ?_
          refine WL_val (dd := some 10) rfl rfl rfl (r_assign (v := .int .i64 0) rfl) ?_
          refine WL_nil ?_
          refine hK98 _ _ ?_
          clear hK98 K97
          refine WC_block ?_
          refine WC_loop (σ := (Nat)) [9, 10, 39, 40, 41, 42, 43, 44, 45, 46, 47, 48, 49, 50, 51, 52, 53, 54] (fun k => [(10, .int .i64 (k : Int)), (9, .bool (okP l n out k))]) (fun k W => (Below w.heap.size w W) ∧ (At W b3_7 _ 51) ∧ (k ≤ l.length) ∧ (True)) (fun k => l.length - k) (0) ⟨rfl, (by first | exact okP_0 (by omega) | exact okP_f (by omega)), trivial⟩ ⟨hB, hm3_7, (Nat.zero_le _), trivial⟩ ?_
          clear hB hm3_7
          rintro k g100 W99 ⟨hB, hm3_7, hk, _⟩ J101 hJ102
          refine WC_seq (fun K103 hK104 => ?_)
          refine WC_seq (fun K105 hK106 => ?_)
          refine WC_region ?_
          refine WL_val (dd := some 39) rfl rfl rfl (r_move (v := .int .i64 _) rfl) ?_
          refine WL_val (dd := some 40) rfl rfl rfl (r_move (v := xa) rfl) ?_
          refine WL_val (dd := some 41) rfl rfl rfl (r_lenS (v := xa) rfl (Below.slT hB hl) tb_el40) ?_
          refine WL_val (dd := some 42) rfl rfl rfl (r_lss rfl rfl) ?_
          refine WL_nil ?_
          refine hK106 _ _ ?_
          clear hK106 K105
          refine WC_cond (b := _) rfl (fun hc1 => ?_) (fun hc1 => ?_)
          ·
            try with_reducible replace hc1 := dec_t hc1
            refine WC_skip ?_
            refine hK104 _ _ ?_
            clear hK104 K103
            refine WC_seq (fun K107 hK108 => ?_)
            refine WC_block ?_
            obtain ⟨hb1, hb2, hb3⟩ := hlr.get (k := k) (by omega)
            refine WC_region ?_
            refine WL_val (dd := some 45) rfl rfl rfl (r_move (v := .bool _) rfl) ?_
            refine WL_split (dd := some 46) rfl rfl rfl (r_move (v := .bool _) rfl) (fun hs8_1 => ?_) (fun hs8_1 => ?_)
            ·
              try with_reducible replace hs8_1 := dec_t hs8_1
              refine WL_val (dd := some 47) rfl rfl rfl (r_move (v := xa) rfl) ?_
              refine WL_val (dd := some 48) rfl rfl rfl (r_move (v := .int .i64 _) rfl) ?_
              refine WL_val (dd := some 49) rfl rfl rfl (r_idxS (v := xa) rfl (Below.slT hB hl) rfl tb_el40 (by omega) (by omega)) ?_
              refine WL_val (dd := some 50) rfl rfl rfl (r_fieldAddr (b := _) (o := _) rfl tb_fo47_0) ?_
              refine WL_val (dd := some 51) rfl rfl rfl (r_load2 rfl tb_ag42 (SlT.cell (Below.slT hB hl) encR_len ⟨⟨0, 0⟩, 0⟩ (by omega) (by omega) 0 rfl) (SlT.cell (Below.slT hB hl) encR_len ⟨⟨0, 0⟩, 0⟩ (by omega) (by omega) 1 rfl)) ?_
              refine WL_val (dd := some 52) rfl rfl rfl (r_move (v := .int .i64 _) rfl) ?_
              refine WL_call (dd := some 53) rfl rfl rfl (r_call2 tb_c20 (v0 := .agg #[_, _]) rfl (v1 := .int .i64 _) rfl) (C_drawkniferef02_Right _ _ _ _ hb1 hb2) (fun v8_8 W109 hE110 hP8_8 => ?_)
              have hsz111 := (Below.size hB)
              replace hB := below_ext hB hE110 (Nat.le_refl _)
              replace hm3_7 := hE110.at hm3_7
              clear hE110
              clear hsz111
              obtain rfl := hP8_8
              refine WL_val (dd := some 54) rfl rfl rfl (r_pick_t rfl (v := .bool _) rfl) ?_
              refine WL_val (dd := some 9) rfl rfl rfl (r_assign (v := .bool _) rfl) ?_
              refine WL_nil ?_
              refine hK108 _ _ ?_
              clear hK108 K107
              refine WC_region ?_
              refine WL_val (dd := some 43) rfl rfl rfl (r_move (v := .int .i64 _) rfl) ?_
              refine WL_val (dd := some 44) rfl rfl rfl (r_addI rfl rfl (by omega) (by omega)) ?_
              refine WL_val (dd := some 10) rfl rfl rfl (r_assign (v := .int .i64 _) rfl) ?_
              refine WL_nil ?_
              refine hJ102 _ _ (k + 1) ?_ ?_ ?_ ?_
              · repeat (first | exact agree.mask _ _ _ | refine agree.updo ?_ rfl _ | refine agree.updL ?_ _ rfl | refine agree.maskS rfl ?_)
              · exact ⟨rfl, (by first | exact okP_t (by omega) hs8_1 | exact okP_n (by omega) hs8_1), trivial⟩
              · exact ⟨hB, hm3_7, (by omega), trivial⟩
              · first | omega | (dsimp only; omega)
            ·
              try with_reducible replace hs8_1 := dec_f hs8_1
              refine WL_skip (dd := some 47) rfl rfl rfl ?_
              refine WL_skip (dd := some 48) rfl rfl rfl ?_
              refine WL_skip (dd := some 49) rfl rfl rfl ?_
              refine WL_skip (dd := some 50) rfl rfl rfl ?_
              refine WL_skip (dd := some 51) rfl rfl rfl ?_
              refine WL_skip (dd := some 52) rfl rfl rfl ?_
              refine WL_skip (dd := some 53) rfl rfl rfl ?_
              refine WL_val (dd := some 54) rfl rfl rfl (r_pick_f rfl (v := .bool false) rfl) ?_
              refine WL_val (dd := some 9) rfl rfl rfl (r_assign (v := .bool false) rfl) ?_
              refine WL_nil ?_
              refine hK108 _ _ ?_
              clear hK108 K107
              refine WC_region ?_
              refine WL_val (dd := some 43) rfl rfl rfl (r_move (v := .int .i64 _) rfl) ?_
              refine WL_val (dd := some 44) rfl rfl rfl (r_addI rfl rfl (by omega) (by omega)) ?_
              refine WL_val (dd := some 10) rfl rfl rfl (r_assign (v := .int .i64 _) rfl) ?_
              refine WL_nil ?_
              refine hJ102 _ _ (k + 1) ?_ ?_ ?_ ?_
              · repeat (first | exact agree.mask _ _ _ | refine agree.updo ?_ rfl _ | refine agree.updL ?_ _ rfl | refine agree.maskS rfl ?_)
              · exact ⟨rfl, (by first | exact okP_t (by omega) hs8_1 | exact okP_n (by omega) hs8_1), trivial⟩
              · exact ⟨hB, hm3_7, (by omega), trivial⟩
              · first | omega | (dsimp only; omega)
          ·
            try with_reducible replace hc1 := dec_f hc1
            refine WC_exit ?_
            refine hK96 _ _ ?_
            clear hK104 K103
            clear hJ102 J101
            clear hK96 K95
            refine WC_seq (fun K112 hK113 => ?_)
            refine WC_seq (fun K114 hK115 => ?_)
            obtain rfl : k = l.length := by omega
            rw [okP_all]
            refine WC_region ?_
            refine WL_val (dd := some 55) rfl rfl rfl (r_move (v := .bool _) rfl) ?_
            refine WL_val (dd := some 56) rfl rfl rfl (r_not rfl) ?_
            refine WL_nil ?_
            refine hK115 _ _ ?_
            clear hK115 K114
            refine WC_cond (b := _) rfl (fun hc2 => ?_) (fun hc2 => ?_)
            ·
              try with_reducible replace hc2 := dec_t hc2
              refine WC_seq (fun K116 hK117 => ?_)
              have hpk : ptOk l n out = false := bool_t hc2
              obtain ⟨_, hsa, her⟩ := hhP3_3.resolve_left (fun h => by rw [h.1] at hpk; cases hpk)
              subst hsa
              subst her
              refine WC_region ?_
              refine WL_val (dd := some 57) rfl rfl rfl (r_loadW rfl tb_ag51 rfl hm3_7) ?_
              refine WL_val (dd := some 58) (v := setV 0) rfl rfl rfl (tb_build51_ ) ?_
              refine WL_val (dd := some 59) rfl rfl rfl (tb_eq51 rfl rfl) ?_
              refine WL_split (dd := some 60) rfl rfl rfl (r_move (v := .bool _) rfl) (fun hs10_3 => ?_) (fun hs10_3 => ?_)
              ·
                try with_reducible replace hs10_3 := dec_t hs10_3
                refine WL_val (dd := some 61) rfl rfl rfl (r_move (v := .int .i64 _) rfl) ?_
                refine WL_val (dd := some 62) rfl rfl rfl (r_eql rfl rfl) ?_
                refine WL_val (dd := some 63) rfl rfl rfl (r_pick_t rfl (v := .bool _) rfl) ?_
                refine WL_split (dd := some 64) rfl rfl rfl (r_move (v := .bool _) rfl) (fun hs10_7 => ?_) (fun hs10_7 => ?_)
                ·
                  try with_reducible replace hs10_7 := dec_t hs10_7
                  refine WL_call (dd := some 65) rfl rfl rfl (r_call0 tb_c16) (C_drawknifelaw04_knows _ (Gl.below hB hgl)) (fun v10_8 W118 hE119 hP10_8 => ?_)
                  have hsz120 := (Below.size hB)
                  replace hB := below_ext hB hE119 (Nat.le_refl _)
                  replace hm3_7 := hE119.at hm3_7
                  clear hE119
                  clear hsz120
                  obtain rfl := hP10_8
                  refine WL_val (dd := some 66) rfl rfl rfl (r_pick_t rfl (v := .bool _) rfl) ?_
                  refine WL_val (dd := some 6) rfl rfl rfl (r_assign (v := .bool _) rfl) ?_
                  refine WL_nil ?_
                  refine hK117 _ _ ?_
                  clear hK117 K116
                  refine WC_ret ?_
                  repeat (first | refine thenQ_ret ?_ | refine blockQ_ret ?_)
                  try clear hK113 K112
                  refine ret_t (v := .bool _) rfl ?_
                  refine ⟨hB, ?_⟩
                  rfl
                ·
                  try with_reducible replace hs10_7 := dec_f hs10_7
                  exact absurd rfl hs10_7
              ·
                try with_reducible replace hs10_3 := dec_f hs10_3
                exact absurd ⟨rfl, rfl, rfl, rfl⟩ hs10_3
            ·
              try with_reducible replace hc2 := dec_f hc2
              refine WC_skip ?_
              refine hK113 _ _ ?_
              clear hK113 K112
              refine WC_seq (fun K121 hK122 => ?_)
              have hpk : ptOk l n out = true := bool_f hc2
              obtain ⟨⟨hi0, hi8, hu0, hu4⟩, _⟩ := ptOk_iff.1 hpk
              obtain ⟨_, hsa, her⟩ := hhP3_3.resolve_right (fun h => by rw [h.1] at hpk; cases hpk)
              subst hsa
              subst her
              refine WC_region ?_
              refine WL_val (dd := some 68) rfl rfl rfl (r_move (v := .int .i64 _) rfl) ?_
              refine WL_call (dd := some 69) rfl rfl rfl (r_call1 tb_c21 (v0 := .int .i64 _) rfl) (C_set_All _ _) (fun v11_1 W123 hE124 hP11_1 => ?_)
              have hsz125 := (Below.size hB)
              replace hB := below_ext hB hE124 (Nat.le_refl _)
              replace hm3_7 := hE124.at hm3_7
              clear hE124
              rw [if_pos ⟨hi0, hi8⟩] at hP11_1
              obtain rfl := hP11_1
              clear hsz125
              refine WL_val (dd := some 67) rfl rfl rfl (r_move (v := .tuple #[.agg #[_, _, _, _], .int .i64 0]) rfl) ?_
              refine WL_val (dd := some 70) rfl rfl rfl (r_ext2_0 (h := rfl)) ?_
              refine WL_val (dd := some 71) rfl rfl rfl (r_ext2_1 (h := rfl)) ?_
              refine WL_step (dd := some 11) rfl rfl rfl (Y_alloc tb_z51 rfl (fun b11_5 W126 hb127 hE128 hm11_5 => ?_))
              have lo_b11_5 : w.heap.size ≤ b11_5 := hb127 ▸ (Below.size hB)
              have ne_b3_7_b11_5 : b3_7 ≠ b11_5 := Nat.ne_of_lt (hb127 ▸ hm3_7.lt)
              clear hb127
              replace hB := below_ext hB hE128 (Nat.le_refl _)
              replace hm3_7 := hE128.at hm3_7
              clear hE128
              replace hm11_5 : At W126 b11_5 #[wv 0 0, wv 0 1, wv 0 2, wv 0 3] 51 := hm11_5
              refine WL_step (dd := none) rfl rfl rfl (Y_storeW rfl rfl tb_ag51 rfl hm11_5 rfl (by rfl) (fun W129 hG130 hm131 => ?_))
              replace hB := below_grown hB hG130 (Nat.le_refl _) (fun j hj => by cases hj; exact lo_b11_5)
              replace hm3_7 := At.grownNe hm3_7 ne_b3_7_b11_5 hG130
              clear hG130 hm11_5
              have hm11_5 := hm131
              clear hm131
              refine WL_val (dd := some 12) rfl rfl rfl (r_assign (v := .int .i64 0) rfl) ?_
              refine WL_nil ?_
              refine hK122 _ _ ?_
              clear hK122 K121
              refine WC_seq (fun K132 hK133 => ?_)
              refine WC_seq (fun K134 hK135 => ?_)
              refine WC_region ?_
              refine WL_val (dd := some 13) rfl rfl rfl (r_assign (v := .int .i64 0) rfl) ?_
              refine WL_nil ?_
              refine hK135 _ _ ?_
              clear hK135 K134
              refine WC_block ?_
              refine WC_loop (σ := (Nat)) [6, 13, 72, 73, 74, 75, 76, 77, 78, 79, 80, 81, 82, 83, 84, 85, 86, 87, 88] (fun p => [(13, .int .i64 (p : Int))]) (fun p W => (Below w.heap.size w W) ∧ (At W b3_7 _ 51) ∧ (At W b11_5 _ 51) ∧ (p ≤ 256) ∧ (True)) (fun p => 256 - p) (0) ⟨rfl, trivial⟩ ⟨hB, hm3_7, hm11_5, (by omega), trivial⟩ ?_
              clear hB hm3_7 hm11_5
              rintro p g137 W136 ⟨hB, hm3_7, hm11_5, hp, _⟩ J138 hJ139
              refine WC_seq (fun K140 hK141 => ?_)
              refine WC_seq (fun K142 hK143 => ?_)
              refine WC_region ?_
              refine WL_val (dd := some 72) rfl rfl rfl (r_move (v := .int .i64 _) rfl) ?_
              refine WL_val (dd := some 73) rfl rfl rfl (r_lss rfl rfl) ?_
              refine WL_nil ?_
              refine hK143 _ _ ?_
              clear hK143 K142
              refine WC_cond (b := _) rfl (fun hc3 => ?_) (fun hc3 => ?_)
              ·
                try with_reducible replace hc3 := dec_t hc3
                refine WC_skip ?_
                refine hK141 _ _ ?_
                clear hK141 K140
                refine WC_seq (fun K144 hK145 => ?_)
                refine WC_block ?_
                refine WC_seq (fun K146 hK147 => ?_)
                refine WC_draw Ext tb_mix (fun W148 hE149 => ?_)
                replace hB := below_ext hB hE149 (Nat.le_refl _)
                replace hm3_7 := hE149.at hm3_7
                replace hm11_5 := hE149.at hm11_5
                have hS := Ext.refl W148
                refine WT_take (dd := some 76) 0 rfl (by kernel_rfl) (by kernel_rfl) (by kernel_rfl) rfl rfl rfl (fun _wq hq => r_loadW rfl tb_ag51 rfl (hq.at hm3_7)) hS ?_
                refine WT_take (dd := some 77) 1 rfl (by kernel_rfl) (by kernel_rfl) (by kernel_rfl) rfl rfl rfl (fun _wq _hq => r_move (v := .int .i64 _) rfl) hS ?_
                refine WT_take (dd := some 79) 3 rfl (by kernel_rfl) (by kernel_rfl) (by kernel_rfl) rfl rfl rfl (fun _wq hq => r_loadW rfl tb_ag51 rfl (hq.at hm11_5)) hS ?_
                refine WT_take (dd := some 80) 4 rfl (by kernel_rfl) (by kernel_rfl) (by kernel_rfl) rfl rfl rfl (fun _wq _hq => r_move (v := .int .i64 _) rfl) hS ?_
                refine WT_one (dd := some 78) 2 (by kernel_rfl) rfl rfl rfl rfl (Yd.call (r_call2 tb_c22 (v0 := .agg #[_, _, _, _]) rfl (v1 := .int .i64 _) rfl) (C_set_Has _ _ _) (fun v15_2 W150 hE151 hP15_2 => ⟨.inl (hS.trans hE151), ?_⟩))
                have hsz152 := (Below.size hB)
                have sv153_hB := hB
                have sv153_hm3_7 := hm3_7
                have sv153_hm11_5 := hm11_5
                replace hB := below_ext hB hE151 (Nat.le_refl _)
                replace hm3_7 := hE151.at hm3_7
                replace hm11_5 := hE151.at hm11_5
                replace hS := hS.trans hE151
                clear hE151
                clear hsz152
                obtain rfl := hP15_2
                refine WT_one (dd := some 81) 5 (by kernel_rfl) rfl rfl rfl rfl (Yd.call (r_call2 tb_c22 (v0 := .agg #[_, _, _, _]) rfl (v1 := .int .i64 _) rfl) (C_set_Has _ _ _) (fun v15_5 W154 hE155 hP15_5 => ⟨.inl (hS.trans hE155), ?_⟩))
                have hsz156 := (Below.size hB)
                replace hB := below_ext hB hE155 (Nat.le_refl _)
                replace hm3_7 := hE155.at hm3_7
                replace hm11_5 := hE155.at hm11_5
                replace hS := hS.trans hE155
                clear hE155
                clear hsz156
                obtain rfl := hP15_5
                refine WT_split (dd := some 82) 6 rfl (by kernel_rfl) (by kernel_rfl) (by kernel_rfl) rfl rfl rfl (fun wq hq => r_move (v := .bool _) rfl) hS (fun hs15_6 => ?_) (fun hs15_6 => ?_)
                ·
                  try with_reducible replace hs15_6 := dec_t hs15_6
                  refine WT_take (dd := some 83) 7 rfl (by kernel_rfl) (by kernel_rfl) (by kernel_rfl) rfl rfl rfl (fun _wq _hq => r_move (v := xa) rfl) hS ?_
                  refine WT_take (dd := some 84) 8 rfl (by kernel_rfl) (by kernel_rfl) (by kernel_rfl) rfl rfl rfl (fun _wq _hq => r_move (v := .int .i64 _) rfl) hS ?_
                  refine WT_take (dd := some 85) 9 rfl (by kernel_rfl) (by kernel_rfl) (by kernel_rfl) rfl rfl rfl (fun _wq _hq => r_move (v := .int .i64 _) rfl) hS ?_
                  refine WT_one (dd := some 86) 10 (by kernel_rfl) rfl rfl rfl rfl (Yd.call (r_call3 tb_c23 (v0 := xa) rfl (v1 := .int .i64 _) rfl (v2 := .int .i64 _) rfl) (Covered_int _ l p out _ (Below.slT hB hl) (by omega) hlr (by omega) (by omega) (by omega)) (fun v15_10 W157 hE158 hP15_10 => ⟨.inl (hS.trans hE158), ?_⟩))
                  have hsz159 := (Below.size hB)
                  replace hB := below_ext hB hE158 (Nat.le_refl _)
                  replace hm3_7 := hE158.at hm3_7
                  replace hm11_5 := hE158.at hm11_5
                  replace hS := hS.trans hE158
                  clear hE158
                  clear hsz159
                  obtain rfl := hP15_10
                  refine WT_take (dd := some 87) 11 rfl (by kernel_rfl) (by kernel_rfl) (by kernel_rfl) rfl rfl rfl (fun _wq _hq => r_pick_t rfl (v := .bool _) rfl) hS ?_
                  refine WT_take (dd := some 88) 12 rfl (by kernel_rfl) (by kernel_rfl) (by kernel_rfl) rfl rfl rfl (fun _wq _hq => r_neqB rfl rfl Tryd.underlying4) hS ?_
                  refine WT_done (by kernel_rfl) ?_
                  try clear sv153_hB sv153_hm3_7 sv153_hm11_5
                  refine hK147 _ _ ?_
                  clear hK147 K146
                  refine WC_cond (b := _) rfl (fun hc4 => ?_) (fun hc4 => ?_)
                  ·
                    try with_reducible replace hc4 := dec_t hc4
                    exact (hc4 (pt_same1 hpk (by omega) hs15_6)).elim
                  ·
                    try with_reducible replace hc4 := dec_f hc4
                    refine WC_skip ?_
                    refine hK145 _ _ ?_
                    clear hK145 K144
                    refine WC_region ?_
                    refine WL_val (dd := some 74) rfl rfl rfl (r_move (v := .int .i64 _) rfl) ?_
                    refine WL_val (dd := some 75) rfl rfl rfl (r_addI rfl rfl (by omega) (by omega)) ?_
                    refine WL_val (dd := some 13) rfl rfl rfl (r_assign (v := .int .i64 _) rfl) ?_
                    refine WL_nil ?_
                    refine hJ139 _ _ (p + 1) ?_ ?_ ?_ ?_
                    · repeat (first | exact agree.mask _ _ _ | refine agree.updo ?_ rfl _ | refine agree.updL ?_ _ rfl | refine agree.maskS rfl ?_)
                    · exact ⟨rfl, trivial⟩
                    · exact ⟨hB, hm3_7, hm11_5, (by omega), trivial⟩
                    · first | omega | (dsimp only; omega)
                ·
                  try with_reducible replace hs15_6 := dec_f hs15_6
                  refine WT_pass (dd := some 83) 7 rfl (by kernel_rfl) (by kernel_rfl) (by kernel_rfl) rfl rfl rfl hS ?_
                  refine WT_pass (dd := some 84) 8 rfl (by kernel_rfl) (by kernel_rfl) (by kernel_rfl) rfl rfl rfl hS ?_
                  refine WT_pass (dd := some 85) 9 rfl (by kernel_rfl) (by kernel_rfl) (by kernel_rfl) rfl rfl rfl hS ?_
                  refine WT_pass (dd := some 86) 10 rfl (by kernel_rfl) (by kernel_rfl) (by kernel_rfl) rfl rfl rfl hS ?_
                  refine WT_take (dd := some 87) 11 rfl (by kernel_rfl) (by kernel_rfl) (by kernel_rfl) rfl rfl rfl (fun _wq _hq => r_pick_f rfl (v := .bool false) rfl) hS ?_
                  refine WT_take (dd := some 88) 12 rfl (by kernel_rfl) (by kernel_rfl) (by kernel_rfl) rfl rfl rfl (fun _wq _hq => r_neqB rfl rfl Tryd.underlying4) hS ?_
                  refine WT_done (by kernel_rfl) ?_
                  try clear sv153_hB sv153_hm3_7 sv153_hm11_5
                  refine hK147 _ _ ?_
                  clear hK147 K146
                  refine WC_cond (b := _) rfl (fun hc4 => ?_) (fun hc4 => ?_)
                  ·
                    try with_reducible replace hc4 := dec_t hc4
                    exact (hc4 (pt_same0 hpk (by omega) hs15_6)).elim
                  ·
                    try with_reducible replace hc4 := dec_f hc4
                    refine WC_skip ?_
                    refine hK145 _ _ ?_
                    clear hK145 K144
                    refine WC_region ?_
                    refine WL_val (dd := some 74) rfl rfl rfl (r_move (v := .int .i64 _) rfl) ?_
                    refine WL_val (dd := some 75) rfl rfl rfl (r_addI rfl rfl (by omega) (by omega)) ?_
                    refine WL_val (dd := some 13) rfl rfl rfl (r_assign (v := .int .i64 _) rfl) ?_
                    refine WL_nil ?_
                    refine hJ139 _ _ (p + 1) ?_ ?_ ?_ ?_
                    · repeat (first | exact agree.mask _ _ _ | refine agree.updo ?_ rfl _ | refine agree.updL ?_ _ rfl | refine agree.maskS rfl ?_)
                    · exact ⟨rfl, trivial⟩
                    · exact ⟨hB, hm3_7, hm11_5, (by omega), trivial⟩
                    · first | omega | (dsimp only; omega)
              ·
                try with_reducible replace hc3 := dec_f hc3
                refine WC_exit ?_
                refine hK133 _ _ ?_
                clear hK141 K140
                clear hJ139 J138
                clear hK133 K132
                refine WC_seq (fun K160 hK161 => ?_)
                refine WC_region ?_
                refine WL_val (dd := some 89) rfl rfl rfl (r_move (v := .int .i64 _) rfl) ?_
                refine WL_val (dd := some 90) rfl rfl rfl (r_eql rfl rfl) ?_
                refine WL_split (dd := some 91) rfl rfl rfl (r_move (v := .bool _) rfl) (fun hs17_2 => ?_) (fun hs17_2 => ?_)
                ·
                  try with_reducible replace hs17_2 := dec_t hs17_2
                  refine WL_call (dd := some 92) rfl rfl rfl (r_call0 tb_c16) (C_drawknifelaw04_knows _ (Gl.below hB hgl)) (fun v17_3 W162 hE163 hP17_3 => ?_)
                  have hsz164 := (Below.size hB)
                  replace hB := below_ext hB hE163 (Nat.le_refl _)
                  replace hm3_7 := hE163.at hm3_7
                  replace hm11_5 := hE163.at hm11_5
                  clear hE163
                  clear hsz164
                  obtain rfl := hP17_3
                  refine WL_val (dd := some 93) rfl rfl rfl (r_pick_t rfl (v := .bool _) rfl) ?_
                  refine WL_val (dd := some 6) rfl rfl rfl (r_assign (v := .bool _) rfl) ?_
                  refine WL_nil ?_
                  refine hK161 _ _ ?_
                  clear hK161 K160
                  refine WC_ret ?_
                  repeat (first | refine thenQ_ret ?_ | refine blockQ_ret ?_)
                  refine ret_t (v := .bool _) rfl ?_
                  refine ⟨hB, ?_⟩
                  rfl
                ·
                  try with_reducible replace hs17_2 := dec_f hs17_2
                  exact absurd rfl hs17_2
      ·
        try with_reducible replace hs4_6 := dec_f hs4_6
        refine WL_skip (dd := some 32) rfl rfl rfl ?_
        refine WL_skip (dd := some 33) rfl rfl rfl ?_
        refine WL_val (dd := some 34) rfl rfl rfl (r_pick_f rfl (v := .bool false) rfl) ?_
        refine WL_val (dd := some 35) rfl rfl rfl (r_move (v := .bool false) rfl) ?_
        refine WL_skip (dd := some 36) rfl rfl rfl ?_
        refine WL_skip (dd := some 37) rfl rfl rfl ?_
        refine WL_val (dd := some 38) rfl rfl rfl (r_pick_f rfl (v := .bool false) rfl) ?_
        refine WL_val (dd := some 9) rfl rfl rfl (r_assign (v := .bool false) rfl) ?_
        refine WL_nil ?_
        refine hK24 _ _ ?_
        clear hK24 K23
        refine WC_seq (fun K165 hK166 => ?_)
        refine WC_seq (fun K167 hK168 => ?_)
        refine WC_region ?_
        refine WL_val (dd := some 10) rfl rfl rfl (r_assign (v := .int .i64 0) rfl) ?_
        refine WL_nil ?_
        refine hK168 _ _ ?_
        clear hK168 K167
        refine WC_block ?_
        refine WC_loop (σ := (Nat)) [9, 10, 39, 40, 41, 42, 43, 44, 45, 46, 47, 48, 49, 50, 51, 52, 53, 54] (fun k => [(10, .int .i64 (k : Int)), (9, .bool (okP l n out k))]) (fun k W => (Below w.heap.size w W) ∧ (At W b3_7 _ 51) ∧ (k ≤ l.length) ∧ (True)) (fun k => l.length - k) (0) ⟨rfl, (by first | exact okP_0 (by omega) | exact okP_f (by omega)), trivial⟩ ⟨hB, hm3_7, (Nat.zero_le _), trivial⟩ ?_
        clear hB hm3_7
        rintro k g170 W169 ⟨hB, hm3_7, hk, _⟩ J171 hJ172
        refine WC_seq (fun K173 hK174 => ?_)
        refine WC_seq (fun K175 hK176 => ?_)
        refine WC_region ?_
        refine WL_val (dd := some 39) rfl rfl rfl (r_move (v := .int .i64 _) rfl) ?_
        refine WL_val (dd := some 40) rfl rfl rfl (r_move (v := xa) rfl) ?_
        refine WL_val (dd := some 41) rfl rfl rfl (r_lenS (v := xa) rfl (Below.slT hB hl) tb_el40) ?_
        refine WL_val (dd := some 42) rfl rfl rfl (r_lss rfl rfl) ?_
        refine WL_nil ?_
        refine hK176 _ _ ?_
        clear hK176 K175
        refine WC_cond (b := _) rfl (fun hc1 => ?_) (fun hc1 => ?_)
        ·
          try with_reducible replace hc1 := dec_t hc1
          refine WC_skip ?_
          refine hK174 _ _ ?_
          clear hK174 K173
          refine WC_seq (fun K177 hK178 => ?_)
          refine WC_block ?_
          obtain ⟨hb1, hb2, hb3⟩ := hlr.get (k := k) (by omega)
          refine WC_region ?_
          refine WL_val (dd := some 45) rfl rfl rfl (r_move (v := .bool _) rfl) ?_
          refine WL_split (dd := some 46) rfl rfl rfl (r_move (v := .bool _) rfl) (fun hs8_1 => ?_) (fun hs8_1 => ?_)
          ·
            try with_reducible replace hs8_1 := dec_t hs8_1
            refine WL_val (dd := some 47) rfl rfl rfl (r_move (v := xa) rfl) ?_
            refine WL_val (dd := some 48) rfl rfl rfl (r_move (v := .int .i64 _) rfl) ?_
            refine WL_val (dd := some 49) rfl rfl rfl (r_idxS (v := xa) rfl (Below.slT hB hl) rfl tb_el40 (by omega) (by omega)) ?_
            refine WL_val (dd := some 50) rfl rfl rfl (r_fieldAddr (b := _) (o := _) rfl tb_fo47_0) ?_
            refine WL_val (dd := some 51) rfl rfl rfl (r_load2 rfl tb_ag42 (SlT.cell (Below.slT hB hl) encR_len ⟨⟨0, 0⟩, 0⟩ (by omega) (by omega) 0 rfl) (SlT.cell (Below.slT hB hl) encR_len ⟨⟨0, 0⟩, 0⟩ (by omega) (by omega) 1 rfl)) ?_
            refine WL_val (dd := some 52) rfl rfl rfl (r_move (v := .int .i64 _) rfl) ?_
            refine WL_call (dd := some 53) rfl rfl rfl (r_call2 tb_c20 (v0 := .agg #[_, _]) rfl (v1 := .int .i64 _) rfl) (C_drawkniferef02_Right _ _ _ _ hb1 hb2) (fun v8_8 W179 hE180 hP8_8 => ?_)
            have hsz181 := (Below.size hB)
            replace hB := below_ext hB hE180 (Nat.le_refl _)
            replace hm3_7 := hE180.at hm3_7
            clear hE180
            clear hsz181
            obtain rfl := hP8_8
            refine WL_val (dd := some 54) rfl rfl rfl (r_pick_t rfl (v := .bool _) rfl) ?_
            refine WL_val (dd := some 9) rfl rfl rfl (r_assign (v := .bool _) rfl) ?_
            refine WL_nil ?_
            refine hK178 _ _ ?_
            clear hK178 K177
            refine WC_region ?_
            refine WL_val (dd := some 43) rfl rfl rfl (r_move (v := .int .i64 _) rfl) ?_
            refine WL_val (dd := some 44) rfl rfl rfl (r_addI rfl rfl (by omega) (by omega)) ?_
            refine WL_val (dd := some 10) rfl rfl rfl (r_assign (v := .int .i64 _) rfl) ?_
            refine WL_nil ?_
            refine hJ172 _ _ (k + 1) ?_ ?_ ?_ ?_
            · repeat (first | exact agree.mask _ _ _ | refine agree.updo ?_ rfl _ | refine agree.updL ?_ _ rfl | refine agree.maskS rfl ?_)
            · exact ⟨rfl, (by first | exact okP_t (by omega) hs8_1 | exact okP_n (by omega) hs8_1), trivial⟩
            · exact ⟨hB, hm3_7, (by omega), trivial⟩
            · first | omega | (dsimp only; omega)
          ·
            try with_reducible replace hs8_1 := dec_f hs8_1
            refine WL_skip (dd := some 47) rfl rfl rfl ?_
            refine WL_skip (dd := some 48) rfl rfl rfl ?_
            refine WL_skip (dd := some 49) rfl rfl rfl ?_
            refine WL_skip (dd := some 50) rfl rfl rfl ?_
            refine WL_skip (dd := some 51) rfl rfl rfl ?_
            refine WL_skip (dd := some 52) rfl rfl rfl ?_
            refine WL_skip (dd := some 53) rfl rfl rfl ?_
            refine WL_val (dd := some 54) rfl rfl rfl (r_pick_f rfl (v := .bool false) rfl) ?_
            refine WL_val (dd := some 9) rfl rfl rfl (r_assign (v := .bool false) rfl) ?_
            refine WL_nil ?_
            refine hK178 _ _ ?_
            clear hK178 K177
            refine WC_region ?_
            refine WL_val (dd := some 43) rfl rfl rfl (r_move (v := .int .i64 _) rfl) ?_
            refine WL_val (dd := some 44) rfl rfl rfl (r_addI rfl rfl (by omega) (by omega)) ?_
            refine WL_val (dd := some 10) rfl rfl rfl (r_assign (v := .int .i64 _) rfl) ?_
            refine WL_nil ?_
            refine hJ172 _ _ (k + 1) ?_ ?_ ?_ ?_
            · repeat (first | exact agree.mask _ _ _ | refine agree.updo ?_ rfl _ | refine agree.updL ?_ _ rfl | refine agree.maskS rfl ?_)
            · exact ⟨rfl, (by first | exact okP_t (by omega) hs8_1 | exact okP_n (by omega) hs8_1), trivial⟩
            · exact ⟨hB, hm3_7, (by omega), trivial⟩
            · first | omega | (dsimp only; omega)
        ·
          try with_reducible replace hc1 := dec_f hc1
          refine WC_exit ?_
          refine hK166 _ _ ?_
          clear hK174 K173
          clear hJ172 J171
          clear hK166 K165
          refine WC_seq (fun K182 hK183 => ?_)
          refine WC_seq (fun K184 hK185 => ?_)
          obtain rfl : k = l.length := by omega
          rw [okP_all]
          refine WC_region ?_
          refine WL_val (dd := some 55) rfl rfl rfl (r_move (v := .bool _) rfl) ?_
          refine WL_val (dd := some 56) rfl rfl rfl (r_not rfl) ?_
          refine WL_nil ?_
          refine hK185 _ _ ?_
          clear hK185 K184
          refine WC_cond (b := _) rfl (fun hc2 => ?_) (fun hc2 => ?_)
          ·
            try with_reducible replace hc2 := dec_t hc2
            refine WC_seq (fun K186 hK187 => ?_)
            have hpk : ptOk l n out = false := bool_t hc2
            obtain ⟨_, hsa, her⟩ := hhP3_3.resolve_left (fun h => by rw [h.1] at hpk; cases hpk)
            subst hsa
            subst her
            refine WC_region ?_
            refine WL_val (dd := some 57) rfl rfl rfl (r_loadW rfl tb_ag51 rfl hm3_7) ?_
            refine WL_val (dd := some 58) (v := setV 0) rfl rfl rfl (tb_build51_ ) ?_
            refine WL_val (dd := some 59) rfl rfl rfl (tb_eq51 rfl rfl) ?_
            refine WL_split (dd := some 60) rfl rfl rfl (r_move (v := .bool _) rfl) (fun hs10_3 => ?_) (fun hs10_3 => ?_)
            ·
              try with_reducible replace hs10_3 := dec_t hs10_3
              refine WL_val (dd := some 61) rfl rfl rfl (r_move (v := .int .i64 _) rfl) ?_
              refine WL_val (dd := some 62) rfl rfl rfl (r_eql rfl rfl) ?_
              refine WL_val (dd := some 63) rfl rfl rfl (r_pick_t rfl (v := .bool _) rfl) ?_
              refine WL_split (dd := some 64) rfl rfl rfl (r_move (v := .bool _) rfl) (fun hs10_7 => ?_) (fun hs10_7 => ?_)
              ·
                try with_reducible replace hs10_7 := dec_t hs10_7
                refine WL_call (dd := some 65) rfl rfl rfl (r_call0 tb_c16) (C_drawknifelaw04_knows _ (Gl.below hB hgl)) (fun v10_8 W188 hE189 hP10_8 => ?_)
                have hsz190 := (Below.size hB)
                replace hB := below_ext hB hE189 (Nat.le_refl _)
                replace hm3_7 := hE189.at hm3_7
                clear hE189
                clear hsz190
                obtain rfl := hP10_8
                refine WL_val (dd := some 66) rfl rfl rfl (r_pick_t rfl (v := .bool _) rfl) ?_
                refine WL_val (dd := some 6) rfl rfl rfl (r_assign (v := .bool _) rfl) ?_
                refine WL_nil ?_
                refine hK187 _ _ ?_
                clear hK187 K186
                refine WC_ret ?_
                repeat (first | refine thenQ_ret ?_ | refine blockQ_ret ?_)
                try clear hK183 K182
                refine ret_t (v := .bool _) rfl ?_
                refine ⟨hB, ?_⟩
                rfl
              ·
                try with_reducible replace hs10_7 := dec_f hs10_7
                exact absurd rfl hs10_7
            ·
              try with_reducible replace hs10_3 := dec_f hs10_3
              exact absurd ⟨rfl, rfl, rfl, rfl⟩ hs10_3
          ·
            try with_reducible replace hc2 := dec_f hc2
            refine WC_skip ?_
            refine hK183 _ _ ?_
            clear hK183 K182
            refine WC_seq (fun K191 hK192 => ?_)
            have hpk : ptOk l n out = true := bool_f hc2
            obtain ⟨⟨hi0, hi8, hu0, hu4⟩, _⟩ := ptOk_iff.1 hpk
            obtain ⟨_, hsa, her⟩ := hhP3_3.resolve_right (fun h => by rw [h.1] at hpk; cases hpk)
            subst hsa
            subst her
            refine WC_region ?_
            refine WL_val (dd := some 68) rfl rfl rfl (r_move (v := .int .i64 _) rfl) ?_
            refine WL_call (dd := some 69) rfl rfl rfl (r_call1 tb_c21 (v0 := .int .i64 _) rfl) (C_set_All _ _) (fun v11_1 W193 hE194 hP11_1 => ?_)
            have hsz195 := (Below.size hB)
            replace hB := below_ext hB hE194 (Nat.le_refl _)
            replace hm3_7 := hE194.at hm3_7
            clear hE194
            rw [if_pos ⟨hi0, hi8⟩] at hP11_1
            obtain rfl := hP11_1
            clear hsz195
            refine WL_val (dd := some 67) rfl rfl rfl (r_move (v := .tuple #[.agg #[_, _, _, _], .int .i64 0]) rfl) ?_
            refine WL_val (dd := some 70) rfl rfl rfl (r_ext2_0 (h := rfl)) ?_
            refine WL_val (dd := some 71) rfl rfl rfl (r_ext2_1 (h := rfl)) ?_
            refine WL_step (dd := some 11) rfl rfl rfl (Y_alloc tb_z51 rfl (fun b11_5 W196 hb197 hE198 hm11_5 => ?_))
            have lo_b11_5 : w.heap.size ≤ b11_5 := hb197 ▸ (Below.size hB)
            have ne_b3_7_b11_5 : b3_7 ≠ b11_5 := Nat.ne_of_lt (hb197 ▸ hm3_7.lt)
            clear hb197
            replace hB := below_ext hB hE198 (Nat.le_refl _)
            replace hm3_7 := hE198.at hm3_7
            clear hE198
            replace hm11_5 : At W196 b11_5 #[wv 0 0, wv 0 1, wv 0 2, wv 0 3] 51 := hm11_5
            refine WL_step (dd := none) rfl rfl rfl (Y_storeW rfl rfl tb_ag51 rfl hm11_5 rfl (by rfl) (fun W199 hG200 hm201 => ?_))
            replace hB := below_grown hB hG200 (Nat.le_refl _) (fun j hj => by cases hj; exact lo_b11_5)
            replace hm3_7 := At.grownNe hm3_7 ne_b3_7_b11_5 hG200
            clear hG200 hm11_5
            have hm11_5 := hm201
            clear hm201
            refine WL_val (dd := some 12) rfl rfl rfl (r_assign (v := .int .i64 0) rfl) ?_
            refine WL_nil ?_
            refine hK192 _ _ ?_
            clear hK192 K191
            refine WC_seq (fun K202 hK203 => ?_)
            refine WC_seq (fun K204 hK205 => ?_)
            refine WC_region ?_
            refine WL_val (dd := some 13) rfl rfl rfl (r_assign (v := .int .i64 0) rfl) ?_
            refine WL_nil ?_
            refine hK205 _ _ ?_
            clear hK205 K204
            refine WC_block ?_
            refine WC_loop (σ := (Nat)) [6, 13, 72, 73, 74, 75, 76, 77, 78, 79, 80, 81, 82, 83, 84, 85, 86, 87, 88] (fun p => [(13, .int .i64 (p : Int))]) (fun p W => (Below w.heap.size w W) ∧ (At W b3_7 _ 51) ∧ (At W b11_5 _ 51) ∧ (p ≤ 256) ∧ (True)) (fun p => 256 - p) (0) ⟨rfl, trivial⟩ ⟨hB, hm3_7, hm11_5, (by omega), trivial⟩ ?_
            clear hB hm3_7 hm11_5
            rintro p g207 W206 ⟨hB, hm3_7, hm11_5, hp, _⟩ J208 hJ209
            refine WC_seq (fun K210 hK211 => ?_)
            refine WC_seq (fun K212 hK213 => ?_)
            refine WC_region ?_
            refine WL_val (dd := some 72) rfl rfl rfl (r_move (v := .int .i64 _) rfl) ?_
            refine WL_val (dd := some 73) rfl rfl rfl (r_lss rfl rfl) ?_
            refine WL_nil ?_
            refine hK213 _ _ ?_
            clear hK213 K212
            refine WC_cond (b := _) rfl (fun hc3 => ?_) (fun hc3 => ?_)
            ·
              try with_reducible replace hc3 := dec_t hc3
              refine WC_skip ?_
              refine hK211 _ _ ?_
              clear hK211 K210
              refine WC_seq (fun K214 hK215 => ?_)
              refine WC_block ?_
              refine WC_seq (fun K216 hK217 => ?_)
              refine WC_draw Ext tb_mix (fun W218 hE219 => ?_)
              replace hB := below_ext hB hE219 (Nat.le_refl _)
              replace hm3_7 := hE219.at hm3_7
              replace hm11_5 := hE219.at hm11_5
              have hS := Ext.refl W218
              refine WT_take (dd := some 76) 0 rfl (by kernel_rfl) (by kernel_rfl) (by kernel_rfl) rfl rfl rfl (fun _wq hq => r_loadW rfl tb_ag51 rfl (hq.at hm3_7)) hS ?_
              refine WT_take (dd := some 77) 1 rfl (by kernel_rfl) (by kernel_rfl) (by kernel_rfl) rfl rfl rfl (fun _wq _hq => r_move (v := .int .i64 _) rfl) hS ?_
              refine WT_take (dd := some 79) 3 rfl (by kernel_rfl) (by kernel_rfl) (by kernel_rfl) rfl rfl rfl (fun _wq hq => r_loadW rfl tb_ag51 rfl (hq.at hm11_5)) hS ?_
              refine WT_take (dd := some 80) 4 rfl (by kernel_rfl) (by kernel_rfl) (by kernel_rfl) rfl rfl rfl (fun _wq _hq => r_move (v := .int .i64 _) rfl) hS ?_
              refine WT_one (dd := some 78) 2 (by kernel_rfl) rfl rfl rfl rfl (Yd.call (r_call2 tb_c22 (v0 := .agg #[_, _, _, _]) rfl (v1 := .int .i64 _) rfl) (C_set_Has _ _ _) (fun v15_2 W220 hE221 hP15_2 => ⟨.inl (hS.trans hE221), ?_⟩))
              have hsz222 := (Below.size hB)
              have sv223_hB := hB
              have sv223_hm3_7 := hm3_7
              have sv223_hm11_5 := hm11_5
              replace hB := below_ext hB hE221 (Nat.le_refl _)
              replace hm3_7 := hE221.at hm3_7
              replace hm11_5 := hE221.at hm11_5
              replace hS := hS.trans hE221
              clear hE221
              clear hsz222
              obtain rfl := hP15_2
              refine WT_one (dd := some 81) 5 (by kernel_rfl) rfl rfl rfl rfl (Yd.call (r_call2 tb_c22 (v0 := .agg #[_, _, _, _]) rfl (v1 := .int .i64 _) rfl) (C_set_Has _ _ _) (fun v15_5 W224 hE225 hP15_5 => ⟨.inl (hS.trans hE225), ?_⟩))
              have hsz226 := (Below.size hB)
              replace hB := below_ext hB hE225 (Nat.le_refl _)
              replace hm3_7 := hE225.at hm3_7
              replace hm11_5 := hE225.at hm11_5
              replace hS := hS.trans hE225
              clear hE225
              clear hsz226
              obtain rfl := hP15_5
              refine WT_split (dd := some 82) 6 rfl (by kernel_rfl) (by kernel_rfl) (by kernel_rfl) rfl rfl rfl (fun wq hq => r_move (v := .bool _) rfl) hS (fun hs15_6 => ?_) (fun hs15_6 => ?_)
              ·
                try with_reducible replace hs15_6 := dec_t hs15_6
                refine WT_take (dd := some 83) 7 rfl (by kernel_rfl) (by kernel_rfl) (by kernel_rfl) rfl rfl rfl (fun _wq _hq => r_move (v := xa) rfl) hS ?_
                refine WT_take (dd := some 84) 8 rfl (by kernel_rfl) (by kernel_rfl) (by kernel_rfl) rfl rfl rfl (fun _wq _hq => r_move (v := .int .i64 _) rfl) hS ?_
                refine WT_take (dd := some 85) 9 rfl (by kernel_rfl) (by kernel_rfl) (by kernel_rfl) rfl rfl rfl (fun _wq _hq => r_move (v := .int .i64 _) rfl) hS ?_
                refine WT_one (dd := some 86) 10 (by kernel_rfl) rfl rfl rfl rfl (Yd.call (r_call3 tb_c23 (v0 := xa) rfl (v1 := .int .i64 _) rfl (v2 := .int .i64 _) rfl) (Covered_int _ l p out _ (Below.slT hB hl) (by omega) hlr (by omega) (by omega) (by omega)) (fun v15_10 W227 hE228 hP15_10 => ⟨.inl (hS.trans hE228), ?_⟩))
                have hsz229 := (Below.size hB)
                replace hB := below_ext hB hE228 (Nat.le_refl _)
                replace hm3_7 := hE228.at hm3_7
                replace hm11_5 := hE228.at hm11_5
                replace hS := hS.trans hE228
                clear hE228
                clear hsz229
                obtain rfl := hP15_10
                refine WT_take (dd := some 87) 11 rfl (by kernel_rfl) (by kernel_rfl) (by kernel_rfl) rfl rfl rfl (fun _wq _hq => r_pick_t rfl (v := .bool _) rfl) hS ?_
                refine WT_take (dd := some 88) 12 rfl (by kernel_rfl) (by kernel_rfl) (by kernel_rfl) rfl rfl rfl (fun _wq _hq => r_neqB rfl rfl Tryd.underlying4) hS ?_
                refine WT_done (by kernel_rfl) ?_
                try clear sv223_hB sv223_hm3_7 sv223_hm11_5
                refine hK217 _ _ ?_
                clear hK217 K216
                refine WC_cond (b := _) rfl (fun hc4 => ?_) (fun hc4 => ?_)
                ·
                  try with_reducible replace hc4 := dec_t hc4
                  exact (hc4 (pt_same1 hpk (by omega) hs15_6)).elim
                ·
                  try with_reducible replace hc4 := dec_f hc4
                  refine WC_skip ?_
                  refine hK215 _ _ ?_
                  clear hK215 K214
                  refine WC_region ?_
                  refine WL_val (dd := some 74) rfl rfl rfl (r_move (v := .int .i64 _) rfl) ?_
                  refine WL_val (dd := some 75) rfl rfl rfl (r_addI rfl rfl (by omega) (by omega)) ?_
                  refine WL_val (dd := some 13) rfl rfl rfl (r_assign (v := .int .i64 _) rfl) ?_
                  refine WL_nil ?_
                  refine hJ209 _ _ (p + 1) ?_ ?_ ?_ ?_
                  · repeat (first | exact agree.mask _ _ _ | refine agree.updo ?_ rfl _ | refine agree.updL ?_ _ rfl | refine agree.maskS rfl ?_)
                  · exact ⟨rfl, trivial⟩
                  · exact ⟨hB, hm3_7, hm11_5, (by omega), trivial⟩
                  · first | omega | (dsimp only; omega)
              ·
                try with_reducible replace hs15_6 := dec_f hs15_6
                refine WT_pass (dd := some 83) 7 rfl (by kernel_rfl) (by kernel_rfl) (by kernel_rfl) rfl rfl rfl hS ?_
                refine WT_pass (dd := some 84) 8 rfl (by kernel_rfl) (by kernel_rfl) (by kernel_rfl) rfl rfl rfl hS ?_
                refine WT_pass (dd := some 85) 9 rfl (by kernel_rfl) (by kernel_rfl) (by kernel_rfl) rfl rfl rfl hS ?_
                refine WT_pass (dd := some 86) 10 rfl (by kernel_rfl) (by kernel_rfl) (by kernel_rfl) rfl rfl rfl hS ?_
                refine WT_take (dd := some 87) 11 rfl (by kernel_rfl) (by kernel_rfl) (by kernel_rfl) rfl rfl rfl (fun _wq _hq => r_pick_f rfl (v := .bool false) rfl) hS ?_
                refine WT_take (dd := some 88) 12 rfl (by kernel_rfl) (by kernel_rfl) (by kernel_rfl) rfl rfl rfl (fun _wq _hq => r_neqB rfl rfl Tryd.underlying4) hS ?_
                refine WT_done (by kernel_rfl) ?_
                try clear sv223_hB sv223_hm3_7 sv223_hm11_5
                refine hK217 _ _ ?_
                clear hK217 K216
                refine WC_cond (b := _) rfl (fun hc4 => ?_) (fun hc4 => ?_)
                ·
                  try with_reducible replace hc4 := dec_t hc4
                  exact (hc4 (pt_same0 hpk (by omega) hs15_6)).elim
                ·
                  try with_reducible replace hc4 := dec_f hc4
                  refine WC_skip ?_
                  refine hK215 _ _ ?_
                  clear hK215 K214
                  refine WC_region ?_
                  refine WL_val (dd := some 74) rfl rfl rfl (r_move (v := .int .i64 _) rfl) ?_
                  refine WL_val (dd := some 75) rfl rfl rfl (r_addI rfl rfl (by omega) (by omega)) ?_
                  refine WL_val (dd := some 13) rfl rfl rfl (r_assign (v := .int .i64 _) rfl) ?_
                  refine WL_nil ?_
                  refine hJ209 _ _ (p + 1) ?_ ?_ ?_ ?_
                  · repeat (first | exact agree.mask _ _ _ | refine agree.updo ?_ rfl _ | refine agree.updL ?_ _ rfl | refine agree.maskS rfl ?_)
                  · exact ⟨rfl, trivial⟩
                  · exact ⟨hB, hm3_7, hm11_5, (by omega), trivial⟩
                  · first | omega | (dsimp only; omega)
            ·
              try with_reducible replace hc3 := dec_f hc3
              refine WC_exit ?_
              refine hK203 _ _ ?_
              clear hK211 K210
              clear hJ209 J208
              clear hK203 K202
              refine WC_seq (fun K230 hK231 => ?_)
              refine WC_region ?_
              refine WL_val (dd := some 89) rfl rfl rfl (r_move (v := .int .i64 _) rfl) ?_
              refine WL_val (dd := some 90) rfl rfl rfl (r_eql rfl rfl) ?_
              refine WL_split (dd := some 91) rfl rfl rfl (r_move (v := .bool _) rfl) (fun hs17_2 => ?_) (fun hs17_2 => ?_)
              ·
                try with_reducible replace hs17_2 := dec_t hs17_2
                refine WL_call (dd := some 92) rfl rfl rfl (r_call0 tb_c16) (C_drawknifelaw04_knows _ (Gl.below hB hgl)) (fun v17_3 W232 hE233 hP17_3 => ?_)
                have hsz234 := (Below.size hB)
                replace hB := below_ext hB hE233 (Nat.le_refl _)
                replace hm3_7 := hE233.at hm3_7
                replace hm11_5 := hE233.at hm11_5
                clear hE233
                clear hsz234
                obtain rfl := hP17_3
                refine WL_val (dd := some 93) rfl rfl rfl (r_pick_t rfl (v := .bool _) rfl) ?_
                refine WL_val (dd := some 6) rfl rfl rfl (r_assign (v := .bool _) rfl) ?_
                refine WL_nil ?_
                refine hK231 _ _ ?_
                clear hK231 K230
                refine WC_ret ?_
                repeat (first | refine thenQ_ret ?_ | refine blockQ_ret ?_)
                refine ret_t (v := .bool _) rfl ?_
                refine ⟨hB, ?_⟩
                rfl
              ·
                try with_reducible replace hs17_2 := dec_f hs17_2
                exact absurd rfl hs17_2
    ·
      try with_reducible replace hs4_2 := dec_f hs4_2
      refine WL_skip (dd := some 28) rfl rfl rfl ?_
      refine WL_skip (dd := some 29) rfl rfl rfl ?_
      refine WL_val (dd := some 30) rfl rfl rfl (r_pick_f rfl (v := .bool false) rfl) ?_
      refine WL_val (dd := some 31) rfl rfl rfl (r_move (v := .bool false) rfl) ?_
      refine WL_skip (dd := some 32) rfl rfl rfl ?_
      refine WL_skip (dd := some 33) rfl rfl rfl ?_
      refine WL_val (dd := some 34) rfl rfl rfl (r_pick_f rfl (v := .bool false) rfl) ?_
      refine WL_val (dd := some 35) rfl rfl rfl (r_move (v := .bool false) rfl) ?_
      refine WL_skip (dd := some 36) rfl rfl rfl ?_
      refine WL_skip (dd := some 37) rfl rfl rfl ?_
      refine WL_val (dd := some 38) rfl rfl rfl (r_pick_f rfl (v := .bool false) rfl) ?_
      refine WL_val (dd := some 9) rfl rfl rfl (r_assign (v := .bool false) rfl) ?_
      refine WL_nil ?_
      refine hK24 _ _ ?_
      clear hK24 K23
      refine WC_seq (fun K235 hK236 => ?_)
      refine WC_seq (fun K237 hK238 => ?_)
      refine WC_region ?_
      refine WL_val (dd := some 10) rfl rfl rfl (r_assign (v := .int .i64 0) rfl) ?_
      refine WL_nil ?_
      refine hK238 _ _ ?_
      clear hK238 K237
      refine WC_block ?_
      refine WC_loop (σ := (Nat)) [9, 10, 39, 40, 41, 42, 43, 44, 45, 46, 47, 48, 49, 50, 51, 52, 53, 54] (fun k => [(10, .int .i64 (k : Int)), (9, .bool (okP l n out k))]) (fun k W => (Below w.heap.size w W) ∧ (At W b3_7 _ 51) ∧ (k ≤ l.length) ∧ (True)) (fun k => l.length - k) (0) ⟨rfl, (by first | exact okP_0 (by omega) | exact okP_f (by omega)), trivial⟩ ⟨hB, hm3_7, (Nat.zero_le _), trivial⟩ ?_
      clear hB hm3_7
      rintro k g240 W239 ⟨hB, hm3_7, hk, _⟩ J241 hJ242
      refine WC_seq (fun K243 hK244 => ?_)
      refine WC_seq (fun K245 hK246 => ?_)
      refine WC_region ?_
      refine WL_val (dd := some 39) rfl rfl rfl (r_move (v := .int .i64 _) rfl) ?_
      refine WL_val (dd := some 40) rfl rfl rfl (r_move (v := xa) rfl) ?_
      refine WL_val (dd := some 41) rfl rfl rfl (r_lenS (v := xa) rfl (Below.slT hB hl) tb_el40) ?_
      refine WL_val (dd := some 42) rfl rfl rfl (r_lss rfl rfl) ?_
      refine WL_nil ?_
      refine hK246 _ _ ?_
      clear hK246 K245
      refine WC_cond (b := _) rfl (fun hc1 => ?_) (fun hc1 => ?_)
      ·
        try with_reducible replace hc1 := dec_t hc1
        refine WC_skip ?_
        refine hK244 _ _ ?_
        clear hK244 K243
        refine WC_seq (fun K247 hK248 => ?_)
        refine WC_block ?_
        obtain ⟨hb1, hb2, hb3⟩ := hlr.get (k := k) (by omega)
        refine WC_region ?_
        refine WL_val (dd := some 45) rfl rfl rfl (r_move (v := .bool _) rfl) ?_
        refine WL_split (dd := some 46) rfl rfl rfl (r_move (v := .bool _) rfl) (fun hs8_1 => ?_) (fun hs8_1 => ?_)
        ·
          try with_reducible replace hs8_1 := dec_t hs8_1
          refine WL_val (dd := some 47) rfl rfl rfl (r_move (v := xa) rfl) ?_
          refine WL_val (dd := some 48) rfl rfl rfl (r_move (v := .int .i64 _) rfl) ?_
          refine WL_val (dd := some 49) rfl rfl rfl (r_idxS (v := xa) rfl (Below.slT hB hl) rfl tb_el40 (by omega) (by omega)) ?_
          refine WL_val (dd := some 50) rfl rfl rfl (r_fieldAddr (b := _) (o := _) rfl tb_fo47_0) ?_
          refine WL_val (dd := some 51) rfl rfl rfl (r_load2 rfl tb_ag42 (SlT.cell (Below.slT hB hl) encR_len ⟨⟨0, 0⟩, 0⟩ (by omega) (by omega) 0 rfl) (SlT.cell (Below.slT hB hl) encR_len ⟨⟨0, 0⟩, 0⟩ (by omega) (by omega) 1 rfl)) ?_
          refine WL_val (dd := some 52) rfl rfl rfl (r_move (v := .int .i64 _) rfl) ?_
          refine WL_call (dd := some 53) rfl rfl rfl (r_call2 tb_c20 (v0 := .agg #[_, _]) rfl (v1 := .int .i64 _) rfl) (C_drawkniferef02_Right _ _ _ _ hb1 hb2) (fun v8_8 W249 hE250 hP8_8 => ?_)
          have hsz251 := (Below.size hB)
          replace hB := below_ext hB hE250 (Nat.le_refl _)
          replace hm3_7 := hE250.at hm3_7
          clear hE250
          clear hsz251
          obtain rfl := hP8_8
          refine WL_val (dd := some 54) rfl rfl rfl (r_pick_t rfl (v := .bool _) rfl) ?_
          refine WL_val (dd := some 9) rfl rfl rfl (r_assign (v := .bool _) rfl) ?_
          refine WL_nil ?_
          refine hK248 _ _ ?_
          clear hK248 K247
          refine WC_region ?_
          refine WL_val (dd := some 43) rfl rfl rfl (r_move (v := .int .i64 _) rfl) ?_
          refine WL_val (dd := some 44) rfl rfl rfl (r_addI rfl rfl (by omega) (by omega)) ?_
          refine WL_val (dd := some 10) rfl rfl rfl (r_assign (v := .int .i64 _) rfl) ?_
          refine WL_nil ?_
          refine hJ242 _ _ (k + 1) ?_ ?_ ?_ ?_
          · repeat (first | exact agree.mask _ _ _ | refine agree.updo ?_ rfl _ | refine agree.updL ?_ _ rfl | refine agree.maskS rfl ?_)
          · exact ⟨rfl, (by first | exact okP_t (by omega) hs8_1 | exact okP_n (by omega) hs8_1), trivial⟩
          · exact ⟨hB, hm3_7, (by omega), trivial⟩
          · first | omega | (dsimp only; omega)
        ·
          try with_reducible replace hs8_1 := dec_f hs8_1
          refine WL_skip (dd := some 47) rfl rfl rfl ?_
          refine WL_skip (dd := some 48) rfl rfl rfl ?_
          refine WL_skip (dd := some 49) rfl rfl rfl ?_
          refine WL_skip (dd := some 50) rfl rfl rfl ?_
          refine WL_skip (dd := some 51) rfl rfl rfl ?_
          refine WL_skip (dd := some 52) rfl rfl rfl ?_
          refine WL_skip (dd := some 53) rfl rfl rfl ?_
          refine WL_val (dd := some 54) rfl rfl rfl (r_pick_f rfl (v := .bool false) rfl) ?_
          refine WL_val (dd := some 9) rfl rfl rfl (r_assign (v := .bool false) rfl) ?_
          refine WL_nil ?_
          refine hK248 _ _ ?_
          clear hK248 K247
          refine WC_region ?_
          refine WL_val (dd := some 43) rfl rfl rfl (r_move (v := .int .i64 _) rfl) ?_
          refine WL_val (dd := some 44) rfl rfl rfl (r_addI rfl rfl (by omega) (by omega)) ?_
          refine WL_val (dd := some 10) rfl rfl rfl (r_assign (v := .int .i64 _) rfl) ?_
          refine WL_nil ?_
          refine hJ242 _ _ (k + 1) ?_ ?_ ?_ ?_
          · repeat (first | exact agree.mask _ _ _ | refine agree.updo ?_ rfl _ | refine agree.updL ?_ _ rfl | refine agree.maskS rfl ?_)
          · exact ⟨rfl, (by first | exact okP_t (by omega) hs8_1 | exact okP_n (by omega) hs8_1), trivial⟩
          · exact ⟨hB, hm3_7, (by omega), trivial⟩
          · first | omega | (dsimp only; omega)
      ·
        try with_reducible replace hc1 := dec_f hc1
        refine WC_exit ?_
        refine hK236 _ _ ?_
        clear hK244 K243
        clear hJ242 J241
        clear hK236 K235
        refine WC_seq (fun K252 hK253 => ?_)
        refine WC_seq (fun K254 hK255 => ?_)
        obtain rfl : k = l.length := by omega
        rw [okP_all]
        refine WC_region ?_
        refine WL_val (dd := some 55) rfl rfl rfl (r_move (v := .bool _) rfl) ?_
        refine WL_val (dd := some 56) rfl rfl rfl (r_not rfl) ?_
        refine WL_nil ?_
        refine hK255 _ _ ?_
        clear hK255 K254
        refine WC_cond (b := _) rfl (fun hc2 => ?_) (fun hc2 => ?_)
        ·
          try with_reducible replace hc2 := dec_t hc2
          refine WC_seq (fun K256 hK257 => ?_)
          have hpk : ptOk l n out = false := bool_t hc2
          obtain ⟨_, hsa, her⟩ := hhP3_3.resolve_left (fun h => by rw [h.1] at hpk; cases hpk)
          subst hsa
          subst her
          refine WC_region ?_
          refine WL_val (dd := some 57) rfl rfl rfl (r_loadW rfl tb_ag51 rfl hm3_7) ?_
          refine WL_val (dd := some 58) (v := setV 0) rfl rfl rfl (tb_build51_ ) ?_
          refine WL_val (dd := some 59) rfl rfl rfl (tb_eq51 rfl rfl) ?_
          refine WL_split (dd := some 60) rfl rfl rfl (r_move (v := .bool _) rfl) (fun hs10_3 => ?_) (fun hs10_3 => ?_)
          ·
            try with_reducible replace hs10_3 := dec_t hs10_3
            refine WL_val (dd := some 61) rfl rfl rfl (r_move (v := .int .i64 _) rfl) ?_
            refine WL_val (dd := some 62) rfl rfl rfl (r_eql rfl rfl) ?_
            refine WL_val (dd := some 63) rfl rfl rfl (r_pick_t rfl (v := .bool _) rfl) ?_
            refine WL_split (dd := some 64) rfl rfl rfl (r_move (v := .bool _) rfl) (fun hs10_7 => ?_) (fun hs10_7 => ?_)
            ·
              try with_reducible replace hs10_7 := dec_t hs10_7
              refine WL_call (dd := some 65) rfl rfl rfl (r_call0 tb_c16) (C_drawknifelaw04_knows _ (Gl.below hB hgl)) (fun v10_8 W258 hE259 hP10_8 => ?_)
              have hsz260 := (Below.size hB)
              replace hB := below_ext hB hE259 (Nat.le_refl _)
              replace hm3_7 := hE259.at hm3_7
              clear hE259
              clear hsz260
              obtain rfl := hP10_8
              refine WL_val (dd := some 66) rfl rfl rfl (r_pick_t rfl (v := .bool _) rfl) ?_
              refine WL_val (dd := some 6) rfl rfl rfl (r_assign (v := .bool _) rfl) ?_
              refine WL_nil ?_
              refine hK257 _ _ ?_
              clear hK257 K256
              refine WC_ret ?_
              repeat (first | refine thenQ_ret ?_ | refine blockQ_ret ?_)
              try clear hK253 K252
              refine ret_t (v := .bool _) rfl ?_
              refine ⟨hB, ?_⟩
              rfl
            ·
              try with_reducible replace hs10_7 := dec_f hs10_7
              exact absurd rfl hs10_7
          ·
            try with_reducible replace hs10_3 := dec_f hs10_3
            exact absurd ⟨rfl, rfl, rfl, rfl⟩ hs10_3
        ·
          try with_reducible replace hc2 := dec_f hc2
          refine WC_skip ?_
          refine hK253 _ _ ?_
          clear hK253 K252
          refine WC_seq (fun K261 hK262 => ?_)
          have hpk : ptOk l n out = true := bool_f hc2
          obtain ⟨⟨hi0, hi8, hu0, hu4⟩, _⟩ := ptOk_iff.1 hpk
          obtain ⟨_, hsa, her⟩ := hhP3_3.resolve_right (fun h => by rw [h.1] at hpk; cases hpk)
          subst hsa
          subst her
          refine WC_region ?_
          refine WL_val (dd := some 68) rfl rfl rfl (r_move (v := .int .i64 _) rfl) ?_
          refine WL_call (dd := some 69) rfl rfl rfl (r_call1 tb_c21 (v0 := .int .i64 _) rfl) (C_set_All _ _) (fun v11_1 W263 hE264 hP11_1 => ?_)
          have hsz265 := (Below.size hB)
          replace hB := below_ext hB hE264 (Nat.le_refl _)
          replace hm3_7 := hE264.at hm3_7
          clear hE264
          rw [if_pos ⟨hi0, hi8⟩] at hP11_1
          obtain rfl := hP11_1
          clear hsz265
          refine WL_val (dd := some 67) rfl rfl rfl (r_move (v := .tuple #[.agg #[_, _, _, _], .int .i64 0]) rfl) ?_
          refine WL_val (dd := some 70) rfl rfl rfl (r_ext2_0 (h := rfl)) ?_
          refine WL_val (dd := some 71) rfl rfl rfl (r_ext2_1 (h := rfl)) ?_
          refine WL_step (dd := some 11) rfl rfl rfl (Y_alloc tb_z51 rfl (fun b11_5 W266 hb267 hE268 hm11_5 => ?_))
          have lo_b11_5 : w.heap.size ≤ b11_5 := hb267 ▸ (Below.size hB)
          have ne_b3_7_b11_5 : b3_7 ≠ b11_5 := Nat.ne_of_lt (hb267 ▸ hm3_7.lt)
          clear hb267
          replace hB := below_ext hB hE268 (Nat.le_refl _)
          replace hm3_7 := hE268.at hm3_7
          clear hE268
          replace hm11_5 : At W266 b11_5 #[wv 0 0, wv 0 1, wv 0 2, wv 0 3] 51 := hm11_5
          refine WL_step (dd := none) rfl rfl rfl (Y_storeW rfl rfl tb_ag51 rfl hm11_5 rfl (by rfl) (fun W269 hG270 hm271 => ?_))
          replace hB := below_grown hB hG270 (Nat.le_refl _) (fun j hj => by cases hj; exact lo_b11_5)
          replace hm3_7 := At.grownNe hm3_7 ne_b3_7_b11_5 hG270
          clear hG270 hm11_5
          have hm11_5 := hm271
          clear hm271
          refine WL_val (dd := some 12) rfl rfl rfl (r_assign (v := .int .i64 0) rfl) ?_
          refine WL_nil ?_
          refine hK262 _ _ ?_
          clear hK262 K261
          refine WC_seq (fun K272 hK273 => ?_)
          refine WC_seq (fun K274 hK275 => ?_)
          refine WC_region ?_
          refine WL_val (dd := some 13) rfl rfl rfl (r_assign (v := .int .i64 0) rfl) ?_
          refine WL_nil ?_
          refine hK275 _ _ ?_
          clear hK275 K274
          refine WC_block ?_
          refine WC_loop (σ := (Nat)) [6, 13, 72, 73, 74, 75, 76, 77, 78, 79, 80, 81, 82, 83, 84, 85, 86, 87, 88] (fun p => [(13, .int .i64 (p : Int))]) (fun p W => (Below w.heap.size w W) ∧ (At W b3_7 _ 51) ∧ (At W b11_5 _ 51) ∧ (p ≤ 256) ∧ (True)) (fun p => 256 - p) (0) ⟨rfl, trivial⟩ ⟨hB, hm3_7, hm11_5, (by omega), trivial⟩ ?_
          clear hB hm3_7 hm11_5
          rintro p g277 W276 ⟨hB, hm3_7, hm11_5, hp, _⟩ J278 hJ279
          refine WC_seq (fun K280 hK281 => ?_)
          refine WC_seq (fun K282 hK283 => ?_)
          refine WC_region ?_
          refine WL_val (dd := some 72) rfl rfl rfl (r_move (v := .int .i64 _) rfl) ?_
          refine WL_val (dd := some 73) rfl rfl rfl (r_lss rfl rfl) ?_
          refine WL_nil ?_
          refine hK283 _ _ ?_
          clear hK283 K282
          refine WC_cond (b := _) rfl (fun hc3 => ?_) (fun hc3 => ?_)
          ·
            try with_reducible replace hc3 := dec_t hc3
            refine WC_skip ?_
            refine hK281 _ _ ?_
            clear hK281 K280
            refine WC_seq (fun K284 hK285 => ?_)
            refine WC_block ?_
            refine WC_seq (fun K286 hK287 => ?_)
            refine WC_draw Ext tb_mix (fun W288 hE289 => ?_)
            replace hB := below_ext hB hE289 (Nat.le_refl _)
            replace hm3_7 := hE289.at hm3_7
            replace hm11_5 := hE289.at hm11_5
            have hS := Ext.refl W288
            refine WT_take (dd := some 76) 0 rfl (by kernel_rfl) (by kernel_rfl) (by kernel_rfl) rfl rfl rfl (fun _wq hq => r_loadW rfl tb_ag51 rfl (hq.at hm3_7)) hS ?_
            refine WT_take (dd := some 77) 1 rfl (by kernel_rfl) (by kernel_rfl) (by kernel_rfl) rfl rfl rfl (fun _wq _hq => r_move (v := .int .i64 _) rfl) hS ?_
            refine WT_take (dd := some 79) 3 rfl (by kernel_rfl) (by kernel_rfl) (by kernel_rfl) rfl rfl rfl (fun _wq hq => r_loadW rfl tb_ag51 rfl (hq.at hm11_5)) hS ?_
            refine WT_take (dd := some 80) 4 rfl (by kernel_rfl) (by kernel_rfl) (by kernel_rfl) rfl rfl rfl (fun _wq _hq => r_move (v := .int .i64 _) rfl) hS ?_
            refine WT_one (dd := some 78) 2 (by kernel_rfl) rfl rfl rfl rfl (Yd.call (r_call2 tb_c22 (v0 := .agg #[_, _, _, _]) rfl (v1 := .int .i64 _) rfl) (C_set_Has _ _ _) (fun v15_2 W290 hE291 hP15_2 => ⟨.inl (hS.trans hE291), ?_⟩))
            have hsz292 := (Below.size hB)
            have sv293_hB := hB
            have sv293_hm3_7 := hm3_7
            have sv293_hm11_5 := hm11_5
            replace hB := below_ext hB hE291 (Nat.le_refl _)
            replace hm3_7 := hE291.at hm3_7
            replace hm11_5 := hE291.at hm11_5
            replace hS := hS.trans hE291
            clear hE291
            clear hsz292
            obtain rfl := hP15_2
            refine WT_one (dd := some 81) 5 (by kernel_rfl) rfl rfl rfl rfl (Yd.call (r_call2 tb_c22 (v0 := .agg #[_, _, _, _]) rfl (v1 := .int .i64 _) rfl) (C_set_Has _ _ _) (fun v15_5 W294 hE295 hP15_5 => ⟨.inl (hS.trans hE295), ?_⟩))
            have hsz296 := (Below.size hB)
            replace hB := below_ext hB hE295 (Nat.le_refl _)
            replace hm3_7 := hE295.at hm3_7
            replace hm11_5 := hE295.at hm11_5
            replace hS := hS.trans hE295
            clear hE295
            clear hsz296
            obtain rfl := hP15_5
            refine WT_split (dd := some 82) 6 rfl (by kernel_rfl) (by kernel_rfl) (by kernel_rfl) rfl rfl rfl (fun wq hq => r_move (v := .bool _) rfl) hS (fun hs15_6 => ?_) (fun hs15_6 => ?_)
            ·
              try with_reducible replace hs15_6 := dec_t hs15_6
              refine WT_take (dd := some 83) 7 rfl (by kernel_rfl) (by kernel_rfl) (by kernel_rfl) rfl rfl rfl (fun _wq _hq => r_move (v := xa) rfl) hS ?_
              refine WT_take (dd := some 84) 8 rfl (by kernel_rfl) (by kernel_rfl) (by kernel_rfl) rfl rfl rfl (fun _wq _hq => r_move (v := .int .i64 _) rfl) hS ?_
              refine WT_take (dd := some 85) 9 rfl (by kernel_rfl) (by kernel_rfl) (by kernel_rfl) rfl rfl rfl (fun _wq _hq => r_move (v := .int .i64 _) rfl) hS ?_
              refine WT_one (dd := some 86) 10 (by kernel_rfl) rfl rfl rfl rfl (Yd.call (r_call3 tb_c23 (v0 := xa) rfl (v1 := .int .i64 _) rfl (v2 := .int .i64 _) rfl) (Covered_int _ l p out _ (Below.slT hB hl) (by omega) hlr (by omega) (by omega) (by omega)) (fun v15_10 W297 hE298 hP15_10 => ⟨.inl (hS.trans hE298), ?_⟩))
              have hsz299 := (Below.size hB)
              replace hB := below_ext hB hE298 (Nat.le_refl _)
              replace hm3_7 := hE298.at hm3_7
              replace hm11_5 := hE298.at hm11_5
              replace hS := hS.trans hE298
              clear hE298
              clear hsz299
              obtain rfl := hP15_10
              refine WT_take (dd := some 87) 11 rfl (by kernel_rfl) (by kernel_rfl) (by kernel_rfl) rfl rfl rfl (fun _wq _hq => r_pick_t rfl (v := .bool _) rfl) hS ?_
              refine WT_take (dd := some 88) 12 rfl (by kernel_rfl) (by kernel_rfl) (by kernel_rfl) rfl rfl rfl (fun _wq _hq => r_neqB rfl rfl Tryd.underlying4) hS ?_
              refine WT_done (by kernel_rfl) ?_
              try clear sv293_hB sv293_hm3_7 sv293_hm11_5
              refine hK287 _ _ ?_
              clear hK287 K286
              refine WC_cond (b := _) rfl (fun hc4 => ?_) (fun hc4 => ?_)
              ·
                try with_reducible replace hc4 := dec_t hc4
                exact (hc4 (pt_same1 hpk (by omega) hs15_6)).elim
              ·
                try with_reducible replace hc4 := dec_f hc4
                refine WC_skip ?_
                refine hK285 _ _ ?_
                clear hK285 K284
                refine WC_region ?_
                refine WL_val (dd := some 74) rfl rfl rfl (r_move (v := .int .i64 _) rfl) ?_
                refine WL_val (dd := some 75) rfl rfl rfl (r_addI rfl rfl (by omega) (by omega)) ?_
                refine WL_val (dd := some 13) rfl rfl rfl (r_assign (v := .int .i64 _) rfl) ?_
                refine WL_nil ?_
                refine hJ279 _ _ (p + 1) ?_ ?_ ?_ ?_
                · repeat (first | exact agree.mask _ _ _ | refine agree.updo ?_ rfl _ | refine agree.updL ?_ _ rfl | refine agree.maskS rfl ?_)
                · exact ⟨rfl, trivial⟩
                · exact ⟨hB, hm3_7, hm11_5, (by omega), trivial⟩
                · first | omega | (dsimp only; omega)
            ·
              try with_reducible replace hs15_6 := dec_f hs15_6
              refine WT_pass (dd := some 83) 7 rfl (by kernel_rfl) (by kernel_rfl) (by kernel_rfl) rfl rfl rfl hS ?_
              refine WT_pass (dd := some 84) 8 rfl (by kernel_rfl) (by kernel_rfl) (by kernel_rfl) rfl rfl rfl hS ?_
              refine WT_pass (dd := some 85) 9 rfl (by kernel_rfl) (by kernel_rfl) (by kernel_rfl) rfl rfl rfl hS ?_
              refine WT_pass (dd := some 86) 10 rfl (by kernel_rfl) (by kernel_rfl) (by kernel_rfl) rfl rfl rfl hS ?_
              refine WT_take (dd := some 87) 11 rfl (by kernel_rfl) (by kernel_rfl) (by kernel_rfl) rfl rfl rfl (fun _wq _hq => r_pick_f rfl (v := .bool false) rfl) hS ?_
              refine WT_take (dd := some 88) 12 rfl (by kernel_rfl) (by kernel_rfl) (by kernel_rfl) rfl rfl rfl (fun _wq _hq => r_neqB rfl rfl Tryd.underlying4) hS ?_
              refine WT_done (by kernel_rfl) ?_
              try clear sv293_hB sv293_hm3_7 sv293_hm11_5
              refine hK287 _ _ ?_
              clear hK287 K286
              refine WC_cond (b := _) rfl (fun hc4 => ?_) (fun hc4 => ?_)
              ·
                try with_reducible replace hc4 := dec_t hc4
                exact (hc4 (pt_same0 hpk (by omega) hs15_6)).elim
              ·
                try with_reducible replace hc4 := dec_f hc4
                refine WC_skip ?_
                refine hK285 _ _ ?_
                clear hK285 K284
                refine WC_region ?_
                refine WL_val (dd := some 74) rfl rfl rfl (r_move (v := .int .i64 _) rfl) ?_
                refine WL_val (dd := some 75) rfl rfl rfl (r_addI rfl rfl (by omega) (by omega)) ?_
                refine WL_val (dd := some 13) rfl rfl rfl (r_assign (v := .int .i64 _) rfl) ?_
                refine WL_nil ?_
                refine hJ279 _ _ (p + 1) ?_ ?_ ?_ ?_
                · repeat (first | exact agree.mask _ _ _ | refine agree.updo ?_ rfl _ | refine agree.updL ?_ _ rfl | refine agree.maskS rfl ?_)
                · exact ⟨rfl, trivial⟩
                · exact ⟨hB, hm3_7, hm11_5, (by omega), trivial⟩
                · first | omega | (dsimp only; omega)
          ·
            try with_reducible replace hc3 := dec_f hc3
            refine WC_exit ?_
            refine hK273 _ _ ?_
            clear hK281 K280
            clear hJ279 J278
            clear hK273 K272
            refine WC_seq (fun K300 hK301 => ?_)
            refine WC_region ?_
            refine WL_val (dd := some 89) rfl rfl rfl (r_move (v := .int .i64 _) rfl) ?_
            refine WL_val (dd := some 90) rfl rfl rfl (r_eql rfl rfl) ?_
            refine WL_split (dd := some 91) rfl rfl rfl (r_move (v := .bool _) rfl) (fun hs17_2 => ?_) (fun hs17_2 => ?_)
            ·
              try with_reducible replace hs17_2 := dec_t hs17_2
              refine WL_call (dd := some 92) rfl rfl rfl (r_call0 tb_c16) (C_drawknifelaw04_knows _ (Gl.below hB hgl)) (fun v17_3 W302 hE303 hP17_3 => ?_)
              have hsz304 := (Below.size hB)
              replace hB := below_ext hB hE303 (Nat.le_refl _)
              replace hm3_7 := hE303.at hm3_7
              replace hm11_5 := hE303.at hm11_5
              clear hE303
              clear hsz304
              obtain rfl := hP17_3
              refine WL_val (dd := some 93) rfl rfl rfl (r_pick_t rfl (v := .bool _) rfl) ?_
              refine WL_val (dd := some 6) rfl rfl rfl (r_assign (v := .bool _) rfl) ?_
              refine WL_nil ?_
              refine hK301 _ _ ?_
              clear hK301 K300
              refine WC_ret ?_
              repeat (first | refine thenQ_ret ?_ | refine blockQ_ret ?_)
              refine ret_t (v := .bool _) rfl ?_
              refine ⟨hB, ?_⟩
              rfl
            ·
              try with_reducible replace hs17_2 := dec_f hs17_2
              exact absurd rfl hs17_2

end Go.Proofs.YtnkaebjaeaecmaaDoor
