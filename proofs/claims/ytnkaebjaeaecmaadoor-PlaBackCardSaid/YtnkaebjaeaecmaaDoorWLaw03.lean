/-
  The statements of layer 3, walked: each answers true.
-/
import Derived.Test.YtnkaebjaeaecmaaDoorProg
import Derived.Test.YtnkaebjaeaecmaaDoorWPla5
import Derived.Test.YtnkaebjaeaecmaaDoorPars2
namespace Go.Proofs.YtnkaebjaeaecmaaDoor
set_option linter.unusedVariables false
set_option linter.unusedSimpArgs false
open Go Go.RowKit

theorem tb_c15 : callB Tryd.prog 15 = true := by kernel_rfl
theorem tb_c9 : callB Tryd.prog 9 = true := by kernel_rfl
theorem tb_build42_0_1 {f : Nat → Value} {w : World} {d : Option Nat} {ty : TypeId} {ps : String} {af : Array Edge} {g : Option (Nat × Bool)} {x0 x1 : Operand} {c0_0 c1_0 : Value} (h0 : evF f x0 = c0_0) (k0 : c0_0.cells = #[c0_0]) (h1 : evF f x1 = c1_0) (k1 : c1_0.cells = #[c1_0]) :
    (execOp (evF f) ⟨d, .build 42 #[(0, x0), (1, x1)], ty, ps, af, g⟩).run Tryd.prog w = .ok (.value (.agg #[c0_0, c1_0])) w := by
  obtain ⟨i0, hi0, hz0⟩ := Option.bind_eq_some_iff.1 (show (Tryd.prog.info? 42).bind (·.zero) = _ from tb_z42)
  obtain ⟨j5, hj5, hs5⟩ := Option.map_eq_some_iff.1 tb_size5
  simp [execOp, h0, k0, h1, k1, Instr.build, zeroValue, typeInfo, sizeOf, hi0, hz0, run_underlying Tryd.underlying42, Instr.fill, cells_agg, hj5, hs5]
theorem tb_c12 : callB Tryd.prog 12 = true := by kernel_rfl
theorem tb_c7 : callB Tryd.prog 7 = true := by kernel_rfl
theorem tb_c8 : callB Tryd.prog 8 = true := by kernel_rfl
theorem tb_c10 : callB Tryd.prog 10 = true := by kernel_rfl
theorem tb_c13 : callB Tryd.prog 13 = true := by kernel_rfl
theorem tb_c14 : callB Tryd.prog 14 = true := by kernel_rfl

theorem kn_1 : parseT [46, 105, 32, 50, 10, 46, 111, 32, 49, 10, 46, 116, 121, 112, 101, 32, 102, 100, 10, 46, 112, 32, 49, 10, 49, 45, 32, 49, 10, 46, 101, 10] = ((⟨1, 2, 1, [⟨⟨1, 1⟩, [1]⟩]⟩ : Tb), 0, 0) := by decide +kernel
theorem kn_2 : parseT [46, 105, 32, 50, 10, 46, 111, 32, 48, 10, 46, 101, 10] = ((⟨0, 0, 0, []⟩ : Tb), 1, 2) := by decide +kernel
theorem kn_r : rightT ⟨1, 2, 1, [⟨⟨1, 1⟩, [1]⟩]⟩ = true := by decide +kernel
theorem kn_mb : ∀ i, i < (⟨1, 2, 1, [⟨⟨1, 1⟩, [1]⟩]⟩ : Tb).ls.length → ((⟨1, 2, 1, [⟨⟨1, 1⟩, [1]⟩]⟩ : Tb).ls.getD i ln0).c.m < 256 ∧ ((⟨1, 2, 1, [⟨⟨1, 1⟩, [1]⟩]⟩ : Tb).ls.getD i ln0).c.v < 256 := right_mb kn_r
theorem kn_ol : ∀ k, k < (⟨1, 2, 1, [⟨⟨1, 1⟩, [1]⟩]⟩ : Tb).ls.length → ((⟨1, 2, 1, [⟨⟨1, 1⟩, [1]⟩]⟩ : Tb).ls.getD k ln0).os.length ≤ 1000000 := fun k hk => by
  match k, hk with
  | 0, _ => decide

theorem C_drawknifelaw03_knows  (w : World) (hgl : Gl w) :
    Fn Tryd.prog 8 #[] w fun v w' => v = .bool true := by
  refine Fn_intro (n := 84) Tryd.func8 rfl rfl (Nat.le_of_ble_eq_true rfl) ?_
  have hB : Below w.heap.size w w := Below.refl _ _
  refine WC_seq (fun K1 hK2 => ?_)
  refine WC_region ?_
  refine WL_val (dd := some 0) rfl rfl rfl (r_assign (v := .bool false) rfl) ?_
  refine WL_nil ?_
  refine hK2 _ _ ?_
  clear hK2 K1
  refine WC_seq (fun K3 hK4 => ?_)
  refine WC_region ?_
  refine WL_val (dd := some 1) rfl rfl rfl (r_assign (v := .string _) rfl) ?_
  refine WL_nil ?_
  refine hK4 _ _ ?_
  clear hK4 K3
  refine WC_seq (fun K5 hK6 => ?_)
  refine WC_region ?_
  refine WL_val (dd := some 11) rfl rfl rfl (r_move (v := .string _) rfl) ?_
  refine WL_call (dd := some 12) rfl rfl rfl (r_call1 tb_c15 (v0 := .string _) rfl) (C_pla_Parse [46, 105, 32, 50, 10, 46, 111, 32, 49, 10, 46, 116, 121, 112, 101, 32, 102, 100, 10, 46, 112, 32, 49, 10, 49, 45, 32, 49, 10, 46, 101, 10] _ (Gl.below hB hgl) (by decide)) (fun v2_1 W7 hE8 hP2_1 => ?_)
  have hsz9 := (Below.size hB)
  replace hB := below_ext hB hE8 (Nat.le_refl _)
  clear hE8
  rw [kn_1] at hP2_1
  obtain ⟨lv2_1, vs2_1, rfl, hsl2_1, hls2_1⟩ := hP2_1
  clear hsz9
  refine WL_val (dd := some 10) rfl rfl rfl (r_move (v := .tuple #[.agg #[.int .i64 _, .int .i64 _, .int .i64 _, lv2_1], .int .i64 _, .int .i64 _]) rfl) ?_
  refine WL_val (dd := some 13) rfl rfl rfl (r_ext3_0 (h := rfl)) ?_
  refine WL_val (dd := some 14) rfl rfl rfl (r_ext3_1 (h := rfl)) ?_
  refine WL_val (dd := some 15) rfl rfl rfl (r_ext3_2 (h := rfl)) ?_
  have hz11 := Gl.below hB hgl
  have hBo10 := hB
  replace hB := Below.refl W7.heap.size W7
  refine WL_step (dd := some 2) rfl rfl rfl (Y_alloc tb_z24 rfl (fun b2_6 W12 hb13 hE14 hm2_6 => ?_))
  have lo_b2_6 : W7.heap.size ≤ b2_6 := hb13 ▸ (Below.size hB)
  clear hb13
  replace hB := below_ext hB hE14 (Nat.le_refl _)
  clear hE14
  refine WL_step (dd := none) rfl rfl rfl (Y_storeW rfl rfl tb_ag24 rfl hm2_6 rfl (by exact one_tb (SlT.one hsl2_1)) (fun W15 hG16 hm17 => ?_))
  replace hB := below_grown hB hG16 (Nat.le_refl _) (fun j hj => by cases hj; exact lo_b2_6)
  clear hG16 hm2_6
  have hm2_6 := hm17
  clear hm17
  refine WL_val (dd := some 3) rfl rfl rfl (r_assign (v := .int .i64 _) rfl) ?_
  refine WL_val (dd := some 4) rfl rfl rfl (r_assign (v := .int .i64 _) rfl) ?_
  refine WL_nil ?_
  refine hK6 _ _ ?_
  clear hK6 K5
  refine WC_seq (fun K18 hK19 => ?_)
  refine WC_region ?_
  refine WL_val (dd := some 17) rfl rfl rfl (r_loadW rfl tb_ag24 rfl hm2_6) ?_
  refine WL_call (dd := some 18) rfl rfl rfl (r_call1 tb_c9 (v0 := .agg #[_, _, _, _]) rfl) (C_pla_Print ⟨1, 2, 1, [⟨⟨1, 1⟩, [1]⟩]⟩ _ vs2_1 _ (Gl.below hB hz11) (Below.slT hB hsl2_1) (LsAt.below hB hls2_1) kn_mb) (fun v3_1 W20 hE21 hP3_1 => ?_)
  have hsz22 := (Below.size hB)
  replace hB := below_ext hB hE21 (Nat.le_refl _)
  replace hm2_6 := hE21.at hm2_6
  clear hE21
  rw [if_pos kn_r] at hP3_1
  obtain rfl := hP3_1
  clear hsz22
  refine WL_val (dd := some 16) rfl rfl rfl (r_move (v := .tuple #[.string _, .int .i64 0]) rfl) ?_
  refine WL_val (dd := some 19) rfl rfl rfl (r_ext2_0 (h := rfl)) ?_
  refine WL_val (dd := some 20) rfl rfl rfl (r_ext2_1 (h := rfl)) ?_
  refine WL_val (dd := some 5) rfl rfl rfl (r_assign (v := .string _) rfl) ?_
  refine WL_val (dd := some 6) rfl rfl rfl (r_assign (v := .int .i64 0) rfl) ?_
  refine WL_nil ?_
  refine hK19 _ _ ?_
  clear hK19 K18
  refine WC_seq (fun K23 hK24 => ?_)
  refine WC_region ?_
  refine WL_call (dd := some 22) rfl rfl rfl (r_call1 tb_c15 (v0 := .string _) rfl) (C_pla_Parse [46, 105, 32, 50, 10, 46, 111, 32, 48, 10, 46, 101, 10] _ (Gl.below hB hz11) (by decide)) (fun v4_0 W25 hE26 hP4_0 => ?_)
  have hsz27 := (Below.size hB)
  replace hB := below_ext hB hE26 (Nat.le_refl _)
  replace hm2_6 := hE26.at hm2_6
  clear hE26
  rw [kn_2] at hP4_0
  obtain ⟨lv4_0, vs4_0, rfl, hsl4_0, hls4_0⟩ := hP4_0
  clear hsz27
  refine WL_val (dd := some 21) rfl rfl rfl (r_move (v := .tuple #[.agg #[.int .i64 _, .int .i64 _, .int .i64 _, lv4_0], .int .i64 _, .int .i64 _]) rfl) ?_
  refine WL_val (dd := some 23) rfl rfl rfl (r_ext3_0 (h := rfl)) ?_
  refine WL_val (dd := some 24) rfl rfl rfl (r_ext3_1 (h := rfl)) ?_
  refine WL_val (dd := some 25) rfl rfl rfl (r_ext3_2 (h := rfl)) ?_
  refine WL_step (dd := some 7) rfl rfl rfl (Y_alloc tb_z24 rfl (fun b4_5 W28 hb29 hE30 hm4_5 => ?_))
  have lo_b4_5 : W7.heap.size ≤ b4_5 := hb29 ▸ (Below.size hB)
  have ne_b2_6_b4_5 : b2_6 ≠ b4_5 := Nat.ne_of_lt (hb29 ▸ hm2_6.lt)
  clear hb29
  replace hB := below_ext hB hE30 (Nat.le_refl _)
  replace hm2_6 := hE30.at hm2_6
  replace hsl4_0 := hE30.slT hsl4_0
  replace hls4_0 := LsAt.ext hE30 hls4_0
  clear hE30
  refine WL_step (dd := none) rfl rfl rfl (Y_storeW rfl rfl tb_ag24 rfl hm4_5 rfl (by exact one_tb (SlT.one hsl4_0)) (fun W31 hG32 hm33 => ?_))
  replace hB := below_grown hB hG32 (Nat.le_refl _) (fun j hj => by cases hj; exact lo_b4_5)
  replace hm2_6 := At.grownNe hm2_6 ne_b2_6_b4_5 hG32
  clear hsl4_0
  clear hls4_0
  clear hG32 hm4_5
  have hm4_5 := hm33
  clear hm33
  refine WL_val (dd := some 8) rfl rfl rfl (r_assign (v := .int .i64 _) rfl) ?_
  refine WL_val (dd := some 9) rfl rfl rfl (r_assign (v := .int .i64 _) rfl) ?_
  refine WL_nil ?_
  refine hK24 _ _ ?_
  clear hK24 K23
  refine WC_seq (fun K34 hK35 => ?_)
  have hle := hls2_1.len
  have hle1 : vs2_1.length = 1 := hle
  have hcc := hls2_1.c 0 (by decide)
  refine WC_region ?_
  refine WL_val (dd := some 26) rfl rfl rfl (r_move (v := .int .i64 _) rfl) ?_
  refine WL_val (dd := some 27) rfl rfl rfl (r_eql rfl rfl) ?_
  refine WL_split (dd := some 28) rfl rfl rfl (r_move (v := .bool _) rfl) (fun hs5_2 => ?_) (fun hs5_2 => ?_)
  ·
    try with_reducible replace hs5_2 := dec_t hs5_2
    refine WL_val (dd := some 29) rfl rfl rfl (r_fieldAddr (b := _) (o := _) rfl tb_fo24_1) ?_
    refine WL_val (dd := some 30) rfl rfl rfl (r_load1 (v := .int .i64 _) rfl tb_sc3 (At.cell hm2_6 rfl)) ?_
    refine WL_val (dd := some 31) rfl rfl rfl (r_eql rfl rfl) ?_
    refine WL_val (dd := some 32) rfl rfl rfl (r_pick_t rfl (v := .bool _) rfl) ?_
    refine WL_split (dd := some 33) rfl rfl rfl (r_move (v := .bool _) rfl) (fun hs5_7 => ?_) (fun hs5_7 => ?_)
    ·
      try with_reducible replace hs5_7 := dec_t hs5_7
      refine WL_val (dd := some 34) rfl rfl rfl (r_fieldAddr (b := _) (o := _) rfl tb_fo24_2) ?_
      refine WL_val (dd := some 35) rfl rfl rfl (r_load1 (v := .int .i64 _) rfl tb_sc3 (At.cell hm2_6 rfl)) ?_
      refine WL_val (dd := some 36) rfl rfl rfl (r_eql rfl rfl) ?_
      refine WL_val (dd := some 37) rfl rfl rfl (r_pick_t rfl (v := .bool _) rfl) ?_
      refine WL_split (dd := some 38) rfl rfl rfl (r_move (v := .bool _) rfl) (fun hs5_12 => ?_) (fun hs5_12 => ?_)
      ·
        try with_reducible replace hs5_12 := dec_t hs5_12
        refine WL_val (dd := some 39) rfl rfl rfl (r_fieldAddr (b := _) (o := _) rfl tb_fo24_0) ?_
        refine WL_val (dd := some 40) rfl rfl rfl (r_load1 (v := .int .i64 _) rfl tb_sc3 (At.cell hm2_6 rfl)) ?_
        refine WL_val (dd := some 41) rfl rfl rfl (r_eql rfl rfl) ?_
        refine WL_val (dd := some 42) rfl rfl rfl (r_pick_t rfl (v := .bool _) rfl) ?_
        refine WL_split (dd := some 43) rfl rfl rfl (r_move (v := .bool _) rfl) (fun hs5_17 => ?_) (fun hs5_17 => ?_)
        ·
          try with_reducible replace hs5_17 := dec_t hs5_17
          refine WL_val (dd := some 44) rfl rfl rfl (r_fieldAddr (b := _) (o := _) rfl tb_fo24_3) ?_
          refine WL_val (dd := some 45) rfl rfl rfl (r_load1 (v := lv2_1) rfl tb_sc22 (At.cell hm2_6 rfl)) ?_
          refine WL_val (dd := some 46) rfl rfl rfl (r_lenS (v := lv2_1) rfl (Below.slT hB hsl2_1) tb_el22) ?_
          refine WL_val (dd := some 47) rfl rfl rfl (r_eql rfl rfl) ?_
          refine WL_val (dd := some 48) rfl rfl rfl (r_pick_t rfl (v := .bool _) rfl) ?_
          refine WL_split (dd := some 49) rfl rfl rfl (r_move (v := .bool _) rfl) (fun hs5_23 => ?_) (fun hs5_23 => ?_)
          ·
            try with_reducible replace hs5_23 := dec_t hs5_23
            refine WL_val (dd := some 50) rfl rfl rfl (r_fieldAddr (b := _) (o := _) rfl tb_fo24_3) ?_
            refine WL_val (dd := some 51) rfl rfl rfl (r_load1 (v := lv2_1) rfl tb_sc22 (At.cell hm2_6 rfl)) ?_
            refine WL_val (dd := some 52) rfl rfl rfl (r_idxS (j := 0) (v := lv2_1) rfl (Below.slT hB hsl2_1) rfl tb_el22 (by omega) (by omega)) ?_
            refine WL_val (dd := some 53) rfl rfl rfl (r_fieldAddr (b := _) (o := _) rfl tb_fo45_0) ?_
            refine WL_val (dd := some 54) rfl rfl rfl (r_load2 rfl tb_ag42 (SlT.cell (j := 0) (Below.slT hB hsl2_1) encLn_len lv0 (by omega) (by omega) 0 rfl) (SlT.cell (j := 0) (Below.slT hB hsl2_1) encLn_len lv0 (by omega) (by omega) 1 rfl)) ?_
            refine WL_val (dd := some 55) rfl rfl rfl (tb_build42_0_1 (h0 := rfl) (k0 := rfl) (h1 := rfl) (k1 := rfl) (c0_0 := .int .u8 1) (c1_0 := .int .u8 1)) ?_
            refine WL_val (dd := some 56) rfl rfl rfl (tb_eq42 rfl rfl) ?_
            refine WL_val (dd := some 57) rfl rfl rfl (r_pick_t rfl (v := .bool _) rfl) ?_
            refine WL_split (dd := some 58) rfl rfl rfl (r_move (v := .bool _) rfl) (fun hs5_32 => ?_) (fun hs5_32 => ?_)
            ·
              try with_reducible replace hs5_32 := dec_t hs5_32
              refine WL_val (dd := some 59) rfl rfl rfl (r_move (v := .string _) rfl) ?_
              refine WL_val (dd := some 60) rfl rfl rfl (r_move (v := .string _) rfl) ?_
              refine WL_val (dd := some 61) rfl rfl rfl (r_eqlW rfl rfl) ?_
              refine WL_val (dd := some 62) rfl rfl rfl (r_pick_t rfl (v := .bool _) rfl) ?_
              refine WL_split (dd := some 63) rfl rfl rfl (r_move (v := .bool _) rfl) (fun hs5_37 => ?_) (fun hs5_37 => ?_)
              ·
                try with_reducible replace hs5_37 := dec_t hs5_37
                refine WL_val (dd := some 64) rfl rfl rfl (r_move (v := .int .i64 0) rfl) ?_
                refine WL_val (dd := some 65) rfl rfl rfl (r_eql rfl rfl) ?_
                refine WL_val (dd := some 66) rfl rfl rfl (r_pick_t rfl (v := .bool _) rfl) ?_
                refine WL_split (dd := some 67) rfl rfl rfl (r_move (v := .bool _) rfl) (fun hs5_41 => ?_) (fun hs5_41 => ?_)
                ·
                  try with_reducible replace hs5_41 := dec_t hs5_41
                  refine WL_val (dd := some 68) rfl rfl rfl (r_move (v := .int .i64 _) rfl) ?_
                  refine WL_val (dd := some 69) rfl rfl rfl (r_eql rfl rfl) ?_
                  refine WL_val (dd := some 70) rfl rfl rfl (r_pick_t rfl (v := .bool _) rfl) ?_
                  refine WL_split (dd := some 71) rfl rfl rfl (r_move (v := .bool _) rfl) (fun hs5_45 => ?_) (fun hs5_45 => ?_)
                  ·
                    try with_reducible replace hs5_45 := dec_t hs5_45
                    refine WL_val (dd := some 72) rfl rfl rfl (r_move (v := .int .i64 _) rfl) ?_
                    refine WL_val (dd := some 73) rfl rfl rfl (r_eql rfl rfl) ?_
                    refine WL_val (dd := some 74) rfl rfl rfl (r_pick_t rfl (v := .bool _) rfl) ?_
                    refine WL_split (dd := some 75) rfl rfl rfl (r_move (v := .bool _) rfl) (fun hs5_49 => ?_) (fun hs5_49 => ?_)
                    ·
                      try with_reducible replace hs5_49 := dec_t hs5_49
                      refine WL_val (dd := some 76) rfl rfl rfl (r_loadW rfl tb_ag24 rfl hm2_6) ?_
                      refine WL_call (dd := some 77) rfl rfl rfl (r_call1 tb_c11 (v0 := .agg #[_, _, _, _]) rfl) (C_pla_Right ⟨1, 2, 1, [⟨⟨1, 1⟩, [1]⟩]⟩ _ vs2_1 _ (Below.slT hB hsl2_1) (LsAt.below hB hls2_1) kn_mb) (fun v5_51 W36 hE37 hP5_51 => ?_)
                      have hsz38 := (Below.size hB)
                      replace hB := below_ext hB hE37 (Nat.le_refl _)
                      replace hm2_6 := hE37.at hm2_6
                      replace hm4_5 := hE37.at hm4_5
                      clear hE37
                      clear hsz38
                      obtain rfl := hP5_51
                      refine WL_val (dd := some 78) rfl rfl rfl (r_pick_t rfl (v := .bool _) rfl) ?_
                      refine WL_split (dd := some 79) rfl rfl rfl (r_move (v := .bool _) rfl) (fun hs5_53 => ?_) (fun hs5_53 => ?_)
                      ·
                        try with_reducible replace hs5_53 := dec_t hs5_53
                        refine WL_val (dd := some 80) rfl rfl rfl (r_loadW rfl tb_ag24 rfl hm2_6) ?_
                        refine WL_val (dd := some 81) rfl rfl rfl (r_loadW rfl tb_ag24 rfl hm2_6) ?_
                        refine WL_call (dd := some 82) rfl rfl rfl (r_call2 tb_c12 (v0 := .agg #[_, _, _, _]) rfl (v1 := .agg #[_, _, _, _]) rfl) (C_pla_Same ⟨1, 2, 1, [⟨⟨1, 1⟩, [1]⟩]⟩ _ vs2_1 ⟨1, 2, 1, [⟨⟨1, 1⟩, [1]⟩]⟩ _ vs2_1 _ (Below.slT hB hsl2_1) (LsAt.below hB hls2_1) kn_mb (Below.slT hB hsl2_1) (LsAt.below hB hls2_1) kn_mb (by decide) kn_ol) (fun v5_56 W39 hE40 hP5_56 => ?_)
                        have hsz41 := (Below.size hB)
                        replace hB := below_ext hB hE40 (Nat.le_refl _)
                        replace hm2_6 := hE40.at hm2_6
                        replace hm4_5 := hE40.at hm4_5
                        clear hE40
                        clear hsz41
                        obtain rfl := hP5_56
                        refine WL_val (dd := some 83) rfl rfl rfl (r_pick_t rfl (v := .bool _) rfl) ?_
                        refine WL_val (dd := some 0) rfl rfl rfl (r_assign (v := .bool _) rfl) ?_
                        refine WL_nil ?_
                        refine hK35 _ _ ?_
                        clear hK35 K34
                        refine WC_ret ?_
                        try clear hz11
                        replace hsl2_1 := Below.slT hB hsl2_1
                        replace hls2_1 := LsAt.below hB hls2_1
                        have hzs := Nat.le_trans (Nat.le_refl _) (Below.size hBo10)
                        replace lo_b2_6 := Nat.le_trans hzs lo_b2_6
                        replace lo_b4_5 := Nat.le_trans hzs lo_b4_5
                        replace hB := Below.trans hBo10 (Below.mono hB hzs)
                        clear hBo10 hzs
                        repeat (first | refine thenQ_ret ?_ | refine blockQ_ret ?_)
                        refine ret_t (v := .bool _) rfl ?_
                        refine ⟨hB, ?_⟩
                        exact congrArg Value.bool (decide_eq_true rfl)
                      ·
                        try with_reducible replace hs5_53 := dec_f hs5_53
                        exact absurd hs5_53 (by decide +kernel)
                    ·
                      try with_reducible replace hs5_49 := dec_f hs5_49
                      exact absurd hs5_49 (by decide +kernel)
                  ·
                    try with_reducible replace hs5_45 := dec_f hs5_45
                    exact absurd hs5_45 (by decide +kernel)
                ·
                  try with_reducible replace hs5_41 := dec_f hs5_41
                  exact absurd hs5_41 (by decide +kernel)
              ·
                try with_reducible replace hs5_37 := dec_f hs5_37
                exact absurd hs5_37 (by decide +kernel)
            ·
              try with_reducible replace hs5_32 := dec_f hs5_32
              rw [show (vs2_1.getD (Int.toNat 0) lv0).c = _ from hcc] at hs5_32
              exact absurd hs5_32 (by decide)
          ·
            try with_reducible replace hs5_23 := dec_f hs5_23
            exact absurd (show (vs2_1.length : Int) = 1 by omega) hs5_23
        ·
          try with_reducible replace hs5_17 := dec_f hs5_17
          exact absurd hs5_17 (by decide +kernel)
      ·
        try with_reducible replace hs5_12 := dec_f hs5_12
        exact absurd hs5_12 (by decide +kernel)
    ·
      try with_reducible replace hs5_7 := dec_f hs5_7
      exact absurd hs5_7 (by decide +kernel)
  ·
    try with_reducible replace hs5_2 := dec_f hs5_2
    exact absurd hs5_2 (by decide +kernel)

theorem C_drawknifelaw03_PlaPrints (T : Tb) (lv : Value) (vs : List LnV) (U : Tb) (lu : Value) (us : List LnV) (w : World) (hgl : Gl w) (hlv : SlT encLn 3 w lv vs) (hls : LsAt w vs T.ls) (hmb : ∀ i, i < T.ls.length → (T.ls.getD i ln0).c.m < 256 ∧ (T.ls.getD i ln0).c.v < 256) (hlv2 : SlT encLn 3 w lu us) (hls2 : LsAt w us U.ls) (hmb2 : ∀ i, i < U.ls.length → (U.ls.getD i ln0).c.m < 256 ∧ (U.ls.getD i ln0).c.v < 256) (hvl : vs.length ≤ 9223372036854775807) (hul : us.length ≤ 9223372036854775807) :
    Fn Tryd.prog 3 #[.agg #[.int .i64 T.kind, .int .i64 T.ni, .int .i64 T.no, lv], .agg #[.int .i64 U.kind, .int .i64 U.ni, .int .i64 U.no, lu]] w fun v w' => v = .bool true := by
  refine Fn_intro (n := 57) Tryd.func3 rfl rfl (Nat.le_of_ble_eq_true rfl) ?_
  have hB : Below w.heap.size w w := Below.refl _ _
  refine WC_seq (fun K1 hK2 => ?_)
  refine WC_region ?_
  refine WL_step (dd := some 2) rfl rfl rfl (Y_box (c := #[_, _, _, _]) rfl rfl (fun b0_0 W3 hb4 hE5 hm0_0 => ?_))
  have lo_b0_0 : w.heap.size ≤ b0_0 := hb4 ▸ (Below.size hB)
  clear hb4
  replace hB := below_ext hB hE5 (Nat.le_refl _)
  clear hE5
  refine WL_step (dd := some 3) rfl rfl rfl (Y_box (c := #[_, _, _, _]) rfl rfl (fun b0_1 W6 hb7 hE8 hm0_1 => ?_))
  have lo_b0_1 : w.heap.size ≤ b0_1 := hb7 ▸ (Below.size hB)
  have ne_b0_0_b0_1 : b0_0 ≠ b0_1 := Nat.ne_of_lt (hb7 ▸ hm0_0.lt)
  clear hb7
  replace hB := below_ext hB hE8 (Nat.le_refl _)
  replace hm0_0 := hE8.at hm0_0
  clear hE8
  refine WL_val (dd := some 4) rfl rfl rfl (r_assign (v := .bool false) rfl) ?_
  refine WL_nil ?_
  refine hK2 _ _ ?_
  clear hK2 K1
  refine WC_seq (fun K9 hK10 => ?_)
  refine WC_seq (fun K11 hK12 => ?_)
  refine WC_region ?_
  refine WL_val (dd := some 8) rfl rfl rfl (r_loadW rfl tb_ag24 rfl hm0_0) ?_
  refine WL_call (dd := some 9) rfl rfl rfl (r_call1 tb_c7 (v0 := .agg #[_, _, _, _]) rfl) (C_drawknifelaw03_Great _ _ _ _ (Below.slT hB hlv) (LsAt.below hB hls) (by assumption) (by first | assumption | omega)) (fun v1_1 W13 hE14 hP1_1 => ?_)
  have hsz15 := (Below.size hB)
  replace hB := below_ext hB hE14 (Nat.le_refl _)
  replace hm0_0 := hE14.at hm0_0
  replace hm0_1 := hE14.at hm0_1
  clear hE14
  clear hsz15
  obtain rfl := hP1_1
  refine WL_split (dd := some 10) rfl rfl rfl (r_move (v := .bool _) rfl) (fun hs1_2 => ?_) (fun hs1_2 => ?_)
  ·
    try with_reducible replace hs1_2 := dec_t hs1_2
    refine WL_skip (dd := some 11) rfl rfl rfl ?_
    refine WL_skip (dd := some 12) rfl rfl rfl ?_
    refine WL_val (dd := some 13) rfl rfl rfl (r_pick_t rfl (v := .bool true) rfl) ?_
    refine WL_nil ?_
    refine hK12 _ _ ?_
    clear hK12 K11
    refine WC_cond_true rfl ?_
    refine WC_seq (fun K16 hK17 => ?_)
    refine WC_region ?_
    refine WL_call (dd := some 14) rfl rfl rfl (r_call0 tb_c8) (C_drawknifelaw03_knows _ (Gl.below hB hgl)) (fun v2_0 W18 hE19 hP2_0 => ?_)
    have hsz20 := (Below.size hB)
    replace hB := below_ext hB hE19 (Nat.le_refl _)
    replace hm0_0 := hE19.at hm0_0
    replace hm0_1 := hE19.at hm0_1
    clear hE19
    clear hsz20
    obtain rfl := hP2_0
    refine WL_val (dd := some 4) rfl rfl rfl (r_assign (v := .bool _) rfl) ?_
    refine WL_nil ?_
    refine hK17 _ _ ?_
    clear hK17 K16
    refine WC_ret ?_
    repeat (first | refine thenQ_ret ?_ | refine blockQ_ret ?_)
    try clear hK10 K9
    refine ret_t (v := .bool _) rfl ?_
    refine ⟨hB, ?_⟩
    rfl
  ·
    try with_reducible replace hs1_2 := dec_f hs1_2
    refine WL_val (dd := some 11) rfl rfl rfl (r_loadW rfl tb_ag24 rfl hm0_1) ?_
    refine WL_call (dd := some 12) rfl rfl rfl (r_call1 tb_c7 (v0 := .agg #[_, _, _, _]) rfl) (C_drawknifelaw03_Great _ _ _ _ (Below.slT hB hlv2) (LsAt.below hB hls2) (by assumption) (by first | assumption | omega)) (fun v1_4 W21 hE22 hP1_4 => ?_)
    have hsz23 := (Below.size hB)
    replace hB := below_ext hB hE22 (Nat.le_refl _)
    replace hm0_0 := hE22.at hm0_0
    replace hm0_1 := hE22.at hm0_1
    clear hE22
    clear hsz23
    obtain rfl := hP1_4
    refine WL_val (dd := some 13) rfl rfl rfl (r_pick_f rfl (v := .bool _) rfl) ?_
    refine WL_nil ?_
    refine hK12 _ _ ?_
    clear hK12 K11
    refine WC_cond (b := _) rfl (fun hc0 => ?_) (fun hc0 => ?_)
    ·
      try with_reducible replace hc0 := dec_t hc0
      refine WC_seq (fun K24 hK25 => ?_)
      refine WC_region ?_
      refine WL_call (dd := some 14) rfl rfl rfl (r_call0 tb_c8) (C_drawknifelaw03_knows _ (Gl.below hB hgl)) (fun v2_0 W26 hE27 hP2_0 => ?_)
      have hsz28 := (Below.size hB)
      replace hB := below_ext hB hE27 (Nat.le_refl _)
      replace hm0_0 := hE27.at hm0_0
      replace hm0_1 := hE27.at hm0_1
      clear hE27
      clear hsz28
      obtain rfl := hP2_0
      refine WL_val (dd := some 4) rfl rfl rfl (r_assign (v := .bool _) rfl) ?_
      refine WL_nil ?_
      refine hK25 _ _ ?_
      clear hK25 K24
      refine WC_ret ?_
      repeat (first | refine thenQ_ret ?_ | refine blockQ_ret ?_)
      try clear hK10 K9
      refine ret_t (v := .bool _) rfl ?_
      refine ⟨hB, ?_⟩
      rfl
    ·
      try with_reducible replace hc0 := dec_f hc0
      refine WC_skip ?_
      refine hK10 _ _ ?_
      clear hK10 K9
      refine WC_seq (fun K29 hK30 => ?_)
      refine WC_region ?_
      refine WL_val (dd := some 16) rfl rfl rfl (r_loadW rfl tb_ag24 rfl hm0_0) ?_
      refine WL_call (dd := some 17) rfl rfl rfl (r_call1 tb_c9 (v0 := .agg #[_, _, _, _]) rfl) (C_pla_Print _ _ _ _ (Gl.below hB hgl) (Below.slT hB hlv) (LsAt.below hB hls) (by assumption)) (fun v3_1 W31 hE32 hP3_1 => ?_)
      have hsz33 := (Below.size hB)
      replace hB := below_ext hB hE32 (Nat.le_refl _)
      replace hm0_0 := hE32.at hm0_0
      replace hm0_1 := hE32.at hm0_1
      clear hE32
      by_cases hpr3_1 : rightT T = true
      clear hsz33
      ·
        rw [if_pos hpr3_1] at hP3_1
        obtain rfl := hP3_1
        refine WL_val (dd := some 15) rfl rfl rfl (r_move (v := .tuple #[.string _, .int .i64 0]) rfl) ?_
        refine WL_val (dd := some 18) rfl rfl rfl (r_ext2_0 (h := rfl)) ?_
        refine WL_val (dd := some 19) rfl rfl rfl (r_ext2_1 (h := rfl)) ?_
        refine WL_val (dd := some 5) rfl rfl rfl (r_assign (v := .string _) rfl) ?_
        refine WL_val (dd := some 6) rfl rfl rfl (r_assign (v := .int .i64 0) rfl) ?_
        refine WL_nil ?_
        refine hK30 _ _ ?_
        clear hK30 K29
        refine WC_seq (fun K34 hK35 => ?_)
        refine WC_region ?_
        refine WL_val (dd := some 20) rfl rfl rfl (r_loadW rfl tb_ag24 rfl hm0_0) ?_
        refine WL_call (dd := some 21) rfl rfl rfl (r_call1 tb_c10 (v0 := .agg #[_, _, _, _]) rfl) (C_drawkniferef03_Right _ _ _ _ (Below.slT hB hlv) (LsAt.below hB hls) (by assumption)) (fun v4_1 W36 hE37 hP4_1 => ?_)
        have hsz38 := (Below.size hB)
        replace hB := below_ext hB hE37 (Nat.le_refl _)
        replace hm0_0 := hE37.at hm0_0
        replace hm0_1 := hE37.at hm0_1
        clear hE37
        clear hsz38
        obtain rfl := hP4_1
        refine WL_val (dd := some 7) rfl rfl rfl (r_assign (v := .bool _) rfl) ?_
        refine WL_nil ?_
        refine hK35 _ _ ?_
        clear hK35 K34
        refine WC_seq (fun K39 hK40 => ?_)
        refine WC_seq (fun K41 hK42 => ?_)
        obtain ⟨h100, hol⟩ := great_f (T := T) (by simpa using hs1_2)
        refine WC_draw Ext tb_mix (fun W43 hE44 => ?_)
        replace hB := below_ext hB hE44 (Nat.le_refl _)
        replace hm0_0 := hE44.at hm0_0
        replace hm0_1 := hE44.at hm0_1
        have hS := Ext.refl W43
        refine WT_take (dd := some 22) 0 rfl (by kernel_rfl) (by kernel_rfl) (by kernel_rfl) rfl rfl rfl (fun _wq hq => r_loadW rfl tb_ag24 rfl (hq.at hm0_0)) hS ?_
        refine WT_take (dd := some 24) 2 rfl (by kernel_rfl) (by kernel_rfl) (by kernel_rfl) rfl rfl rfl (fun _wq _hq => r_move (v := .bool _) rfl) hS ?_
        refine WT_one (dd := some 23) 1 (by kernel_rfl) rfl rfl rfl rfl (Yd.call (r_call1 tb_c11 (v0 := .agg #[_, _, _, _]) rfl) (C_pla_Right _ _ _ _ (Below.slT hB hlv) (LsAt.below hB hls) (by assumption)) (fun v5_1 W45 hE46 hP5_1 => ⟨.inl (hS.trans hE46), ?_⟩))
        have hsz47 := (Below.size hB)
        have sv48_hB := hB
        have sv48_hm0_0 := hm0_0
        have sv48_hm0_1 := hm0_1
        replace hB := below_ext hB hE46 (Nat.le_refl _)
        replace hm0_0 := hE46.at hm0_0
        replace hm0_1 := hE46.at hm0_1
        replace hS := hS.trans hE46
        clear hE46
        clear hsz47
        obtain rfl := hP5_1
        refine WT_take (dd := some 25) 3 rfl (by kernel_rfl) (by kernel_rfl) (by kernel_rfl) rfl rfl rfl (fun _wq _hq => r_neqB rfl rfl Tryd.underlying4) hS ?_
        refine WT_split (dd := some 26) 4 rfl (by kernel_rfl) (by kernel_rfl) (by kernel_rfl) rfl rfl rfl (fun wq hq => r_move (v := .bool _) rfl) hS (fun hs5_4 => ?_) (fun hs5_4 => ?_)
        ·
          try with_reducible replace hs5_4 := dec_t hs5_4
          exact absurd rfl hs5_4
        ·
          try with_reducible replace hs5_4 := dec_f hs5_4
          refine WT_take (dd := some 27) 5 rfl (by kernel_rfl) (by kernel_rfl) (by kernel_rfl) rfl rfl rfl (fun _wq hq => r_loadW rfl tb_ag24 rfl (hq.at sv48_hm0_0)) hS ?_
          refine WT_take (dd := some 28) 6 rfl (by kernel_rfl) (by kernel_rfl) (by kernel_rfl) rfl rfl rfl (fun _wq hq => r_loadW rfl tb_ag24 rfl (hq.at sv48_hm0_1)) hS ?_
          refine WT_take (dd := some 30) 8 rfl (by kernel_rfl) (by kernel_rfl) (by kernel_rfl) rfl rfl rfl (fun _wq hq => r_loadW rfl tb_ag24 rfl (hq.at sv48_hm0_0)) hS ?_
          refine WT_take (dd := some 31) 9 rfl (by kernel_rfl) (by kernel_rfl) (by kernel_rfl) rfl rfl rfl (fun _wq hq => r_loadW rfl tb_ag24 rfl (hq.at sv48_hm0_1)) hS ?_
          refine WT_one (dd := some 29) 7 (by kernel_rfl) rfl rfl rfl rfl (Yd.call (r_call2 tb_c12 (v0 := .agg #[_, _, _, _]) rfl (v1 := .agg #[_, _, _, _]) rfl) (C_pla_Same T _ vs U _ us _ (Below.slT hB hlv) (LsAt.below hB hls) hmb (Below.slT hB hlv2) (LsAt.below hB hls2) hmb2 (by omega) hol) (fun v5_7 W49 hE50 hP5_7 => ⟨.inl (hS.trans hE50), ?_⟩))
          have hsz51 := (Below.size hB)
          replace hB := below_ext hB hE50 (Nat.le_refl _)
          replace hm0_0 := hE50.at hm0_0
          replace hm0_1 := hE50.at hm0_1
          replace hS := hS.trans hE50
          clear hE50
          clear hsz51
          obtain rfl := hP5_7
          refine WT_one (dd := some 32) 10 (by kernel_rfl) rfl rfl rfl rfl (Yd.call (r_call2 tb_c13 (v0 := .agg #[_, _, _, _]) rfl (v1 := .agg #[_, _, _, _]) rfl) (C_drawkniferef03_Same T _ vs U _ us _ (Below.slT hB hlv) (LsAt.below hB hls) hmb (Below.slT hB hlv2) (LsAt.below hB hls2) hmb2 (by omega) hol) (fun v5_10 W52 hE53 hP5_10 => ⟨.inl (hS.trans hE53), ?_⟩))
          have hsz54 := (Below.size hB)
          replace hB := below_ext hB hE53 (Nat.le_refl _)
          replace hm0_0 := hE53.at hm0_0
          replace hm0_1 := hE53.at hm0_1
          replace hS := hS.trans hE53
          clear hE53
          clear hsz54
          obtain rfl := hP5_10
          refine WT_take (dd := some 33) 11 rfl (by kernel_rfl) (by kernel_rfl) (by kernel_rfl) rfl rfl rfl (fun _wq _hq => r_neqB rfl rfl Tryd.underlying4) hS ?_
          refine WT_take (dd := some 34) 12 rfl (by kernel_rfl) (by kernel_rfl) (by kernel_rfl) rfl rfl rfl (fun _wq _hq => r_pick_f rfl (v := .bool _) rfl) hS ?_
          refine WT_done (by kernel_rfl) ?_
          try clear sv48_hB sv48_hm0_0 sv48_hm0_1
          refine hK42 _ _ ?_
          clear hK42 K41
          refine WC_cond (b := _) rfl (fun hc1 => ?_) (fun hc1 => ?_)
          ·
            try with_reducible replace hc1 := dec_t hc1
            exact absurd rfl hc1
          ·
            try with_reducible replace hc1 := dec_f hc1
            refine WC_skip ?_
            refine hK40 _ _ ?_
            clear hK40 K39
            refine WC_seq (fun K55 hK56 => ?_)
            refine WC_seq (fun K57 hK58 => ?_)
            refine WC_region ?_
            refine WL_val (dd := some 35) rfl rfl rfl (r_move (v := .bool _) rfl) ?_
            refine WL_val (dd := some 36) rfl rfl rfl (r_not rfl) ?_
            refine WL_nil ?_
            refine hK58 _ _ ?_
            clear hK58 K57
            refine WC_cond (b := _) rfl (fun hc2 => ?_) (fun hc2 => ?_)
            ·
              try with_reducible replace hc2 := dec_t hc2
              rw [hpr3_1] at hc2
              exact absurd hc2 (by decide)
            ·
              try with_reducible replace hc2 := dec_f hc2
              refine WC_skip ?_
              refine hK56 _ _ ?_
              clear hK56 K55
              refine WC_seq (fun K59 hK60 => ?_)
              refine WC_region ?_
              refine WL_val (dd := some 46) rfl rfl rfl (r_move (v := .string _) rfl) ?_
              refine WL_val (dd := some 47) rfl rfl rfl (r_loadW rfl tb_ag24 rfl hm0_0) ?_
              refine WL_call (dd := some 48) rfl rfl rfl (r_call1 tb_c14 (v0 := .agg #[_, _, _, _]) rfl) (C_drawkniferef03_Print T _ vs _ (Below.slT hB hlv) (LsAt.below hB hls) hmb hpr3_1) (fun v9_2 W61 hE62 hP9_2 => ?_)
              have hsz63 := (Below.size hB)
              replace hB := below_ext hB hE62 (Nat.le_refl _)
              replace hm0_0 := hE62.at hm0_0
              replace hm0_1 := hE62.at hm0_1
              clear hE62
              obtain rfl := hP9_2
              clear hsz63
              refine WL_val (dd := some 49) rfl rfl rfl (r_eqlW rfl rfl) ?_
              refine WL_split (dd := some 50) rfl rfl rfl (r_move (v := .bool _) rfl) (fun hs9_4 => ?_) (fun hs9_4 => ?_)
              ·
                try with_reducible replace hs9_4 := dec_t hs9_4
                refine WL_val (dd := some 51) rfl rfl rfl (r_move (v := .int .i64 0) rfl) ?_
                refine WL_val (dd := some 52) rfl rfl rfl (r_eql rfl rfl) ?_
                refine WL_val (dd := some 53) rfl rfl rfl (r_pick_t rfl (v := .bool _) rfl) ?_
                refine WL_split (dd := some 54) rfl rfl rfl (r_move (v := .bool _) rfl) (fun hs9_8 => ?_) (fun hs9_8 => ?_)
                ·
                  try with_reducible replace hs9_8 := dec_t hs9_8
                  refine WL_call (dd := some 55) rfl rfl rfl (r_call0 tb_c8) (C_drawknifelaw03_knows _ (Gl.below hB hgl)) (fun v9_9 W64 hE65 hP9_9 => ?_)
                  have hsz66 := (Below.size hB)
                  replace hB := below_ext hB hE65 (Nat.le_refl _)
                  replace hm0_0 := hE65.at hm0_0
                  replace hm0_1 := hE65.at hm0_1
                  clear hE65
                  clear hsz66
                  obtain rfl := hP9_9
                  refine WL_val (dd := some 56) rfl rfl rfl (r_pick_t rfl (v := .bool _) rfl) ?_
                  refine WL_val (dd := some 4) rfl rfl rfl (r_assign (v := .bool _) rfl) ?_
                  refine WL_nil ?_
                  refine hK60 _ _ ?_
                  clear hK60 K59
                  refine WC_ret ?_
                  repeat (first | refine thenQ_ret ?_ | refine blockQ_ret ?_)
                  refine ret_t (v := .bool _) rfl ?_
                  refine ⟨hB, ?_⟩
                  rfl
                ·
                  try with_reducible replace hs9_8 := dec_f hs9_8
                  exact absurd rfl hs9_8
              ·
                try with_reducible replace hs9_4 := dec_f hs9_4
                exact absurd rfl hs9_4
      ·
        rw [if_neg hpr3_1] at hP3_1
        obtain rfl := hP3_1
        refine WL_val (dd := some 15) rfl rfl rfl (r_move (v := .tuple #[.string _, .int .i64 1]) rfl) ?_
        refine WL_val (dd := some 18) rfl rfl rfl (r_ext2_0 (h := rfl)) ?_
        refine WL_val (dd := some 19) rfl rfl rfl (r_ext2_1 (h := rfl)) ?_
        refine WL_val (dd := some 5) rfl rfl rfl (r_assign (v := .string _) rfl) ?_
        refine WL_val (dd := some 6) rfl rfl rfl (r_assign (v := .int .i64 1) rfl) ?_
        refine WL_nil ?_
        refine hK30 _ _ ?_
        clear hK30 K29
        refine WC_seq (fun K67 hK68 => ?_)
        refine WC_region ?_
        refine WL_val (dd := some 20) rfl rfl rfl (r_loadW rfl tb_ag24 rfl hm0_0) ?_
        refine WL_call (dd := some 21) rfl rfl rfl (r_call1 tb_c10 (v0 := .agg #[_, _, _, _]) rfl) (C_drawkniferef03_Right _ _ _ _ (Below.slT hB hlv) (LsAt.below hB hls) (by assumption)) (fun v4_1 W69 hE70 hP4_1 => ?_)
        have hsz71 := (Below.size hB)
        replace hB := below_ext hB hE70 (Nat.le_refl _)
        replace hm0_0 := hE70.at hm0_0
        replace hm0_1 := hE70.at hm0_1
        clear hE70
        clear hsz71
        obtain rfl := hP4_1
        refine WL_val (dd := some 7) rfl rfl rfl (r_assign (v := .bool _) rfl) ?_
        refine WL_nil ?_
        refine hK68 _ _ ?_
        clear hK68 K67
        refine WC_seq (fun K72 hK73 => ?_)
        refine WC_seq (fun K74 hK75 => ?_)
        obtain ⟨h100, hol⟩ := great_f (T := T) (by simpa using hs1_2)
        refine WC_draw Ext tb_mix (fun W76 hE77 => ?_)
        replace hB := below_ext hB hE77 (Nat.le_refl _)
        replace hm0_0 := hE77.at hm0_0
        replace hm0_1 := hE77.at hm0_1
        have hS := Ext.refl W76
        refine WT_take (dd := some 22) 0 rfl (by kernel_rfl) (by kernel_rfl) (by kernel_rfl) rfl rfl rfl (fun _wq hq => r_loadW rfl tb_ag24 rfl (hq.at hm0_0)) hS ?_
        refine WT_take (dd := some 24) 2 rfl (by kernel_rfl) (by kernel_rfl) (by kernel_rfl) rfl rfl rfl (fun _wq _hq => r_move (v := .bool _) rfl) hS ?_
        refine WT_one (dd := some 23) 1 (by kernel_rfl) rfl rfl rfl rfl (Yd.call (r_call1 tb_c11 (v0 := .agg #[_, _, _, _]) rfl) (C_pla_Right _ _ _ _ (Below.slT hB hlv) (LsAt.below hB hls) (by assumption)) (fun v5_1 W78 hE79 hP5_1 => ⟨.inl (hS.trans hE79), ?_⟩))
        have hsz80 := (Below.size hB)
        have sv81_hB := hB
        have sv81_hm0_0 := hm0_0
        have sv81_hm0_1 := hm0_1
        replace hB := below_ext hB hE79 (Nat.le_refl _)
        replace hm0_0 := hE79.at hm0_0
        replace hm0_1 := hE79.at hm0_1
        replace hS := hS.trans hE79
        clear hE79
        clear hsz80
        obtain rfl := hP5_1
        refine WT_take (dd := some 25) 3 rfl (by kernel_rfl) (by kernel_rfl) (by kernel_rfl) rfl rfl rfl (fun _wq _hq => r_neqB rfl rfl Tryd.underlying4) hS ?_
        refine WT_split (dd := some 26) 4 rfl (by kernel_rfl) (by kernel_rfl) (by kernel_rfl) rfl rfl rfl (fun wq hq => r_move (v := .bool _) rfl) hS (fun hs5_4 => ?_) (fun hs5_4 => ?_)
        ·
          try with_reducible replace hs5_4 := dec_t hs5_4
          exact absurd rfl hs5_4
        ·
          try with_reducible replace hs5_4 := dec_f hs5_4
          refine WT_take (dd := some 27) 5 rfl (by kernel_rfl) (by kernel_rfl) (by kernel_rfl) rfl rfl rfl (fun _wq hq => r_loadW rfl tb_ag24 rfl (hq.at sv81_hm0_0)) hS ?_
          refine WT_take (dd := some 28) 6 rfl (by kernel_rfl) (by kernel_rfl) (by kernel_rfl) rfl rfl rfl (fun _wq hq => r_loadW rfl tb_ag24 rfl (hq.at sv81_hm0_1)) hS ?_
          refine WT_take (dd := some 30) 8 rfl (by kernel_rfl) (by kernel_rfl) (by kernel_rfl) rfl rfl rfl (fun _wq hq => r_loadW rfl tb_ag24 rfl (hq.at sv81_hm0_0)) hS ?_
          refine WT_take (dd := some 31) 9 rfl (by kernel_rfl) (by kernel_rfl) (by kernel_rfl) rfl rfl rfl (fun _wq hq => r_loadW rfl tb_ag24 rfl (hq.at sv81_hm0_1)) hS ?_
          refine WT_one (dd := some 29) 7 (by kernel_rfl) rfl rfl rfl rfl (Yd.call (r_call2 tb_c12 (v0 := .agg #[_, _, _, _]) rfl (v1 := .agg #[_, _, _, _]) rfl) (C_pla_Same T _ vs U _ us _ (Below.slT hB hlv) (LsAt.below hB hls) hmb (Below.slT hB hlv2) (LsAt.below hB hls2) hmb2 (by omega) hol) (fun v5_7 W82 hE83 hP5_7 => ⟨.inl (hS.trans hE83), ?_⟩))
          have hsz84 := (Below.size hB)
          replace hB := below_ext hB hE83 (Nat.le_refl _)
          replace hm0_0 := hE83.at hm0_0
          replace hm0_1 := hE83.at hm0_1
          replace hS := hS.trans hE83
          clear hE83
          clear hsz84
          obtain rfl := hP5_7
          refine WT_one (dd := some 32) 10 (by kernel_rfl) rfl rfl rfl rfl (Yd.call (r_call2 tb_c13 (v0 := .agg #[_, _, _, _]) rfl (v1 := .agg #[_, _, _, _]) rfl) (C_drawkniferef03_Same T _ vs U _ us _ (Below.slT hB hlv) (LsAt.below hB hls) hmb (Below.slT hB hlv2) (LsAt.below hB hls2) hmb2 (by omega) hol) (fun v5_10 W85 hE86 hP5_10 => ⟨.inl (hS.trans hE86), ?_⟩))
          have hsz87 := (Below.size hB)
          replace hB := below_ext hB hE86 (Nat.le_refl _)
          replace hm0_0 := hE86.at hm0_0
          replace hm0_1 := hE86.at hm0_1
          replace hS := hS.trans hE86
          clear hE86
          clear hsz87
          obtain rfl := hP5_10
          refine WT_take (dd := some 33) 11 rfl (by kernel_rfl) (by kernel_rfl) (by kernel_rfl) rfl rfl rfl (fun _wq _hq => r_neqB rfl rfl Tryd.underlying4) hS ?_
          refine WT_take (dd := some 34) 12 rfl (by kernel_rfl) (by kernel_rfl) (by kernel_rfl) rfl rfl rfl (fun _wq _hq => r_pick_f rfl (v := .bool _) rfl) hS ?_
          refine WT_done (by kernel_rfl) ?_
          try clear sv81_hB sv81_hm0_0 sv81_hm0_1
          refine hK75 _ _ ?_
          clear hK75 K74
          refine WC_cond (b := _) rfl (fun hc1 => ?_) (fun hc1 => ?_)
          ·
            try with_reducible replace hc1 := dec_t hc1
            exact absurd rfl hc1
          ·
            try with_reducible replace hc1 := dec_f hc1
            refine WC_skip ?_
            refine hK73 _ _ ?_
            clear hK73 K72
            refine WC_seq (fun K88 hK89 => ?_)
            refine WC_seq (fun K90 hK91 => ?_)
            refine WC_region ?_
            refine WL_val (dd := some 35) rfl rfl rfl (r_move (v := .bool _) rfl) ?_
            refine WL_val (dd := some 36) rfl rfl rfl (r_not rfl) ?_
            refine WL_nil ?_
            refine hK91 _ _ ?_
            clear hK91 K90
            refine WC_cond (b := _) rfl (fun hc2 => ?_) (fun hc2 => ?_)
            ·
              try with_reducible replace hc2 := dec_t hc2
              refine WC_seq (fun K92 hK93 => ?_)
              refine WC_region ?_
              refine WL_val (dd := some 37) rfl rfl rfl (r_move (v := .string _) rfl) ?_
              refine WL_val (dd := some 38) rfl rfl rfl (r_eqlW rfl rfl) ?_
              refine WL_split (dd := some 39) rfl rfl rfl (r_move (v := .bool _) rfl) (fun hs8_2 => ?_) (fun hs8_2 => ?_)
              ·
                try with_reducible replace hs8_2 := dec_t hs8_2
                refine WL_val (dd := some 40) rfl rfl rfl (r_move (v := .int .i64 1) rfl) ?_
                refine WL_val (dd := some 41) rfl rfl rfl (r_eql rfl rfl) ?_
                refine WL_val (dd := some 42) rfl rfl rfl (r_pick_t rfl (v := .bool _) rfl) ?_
                refine WL_split (dd := some 43) rfl rfl rfl (r_move (v := .bool _) rfl) (fun hs8_6 => ?_) (fun hs8_6 => ?_)
                ·
                  try with_reducible replace hs8_6 := dec_t hs8_6
                  refine WL_call (dd := some 44) rfl rfl rfl (r_call0 tb_c8) (C_drawknifelaw03_knows _ (Gl.below hB hgl)) (fun v8_7 W94 hE95 hP8_7 => ?_)
                  have hsz96 := (Below.size hB)
                  replace hB := below_ext hB hE95 (Nat.le_refl _)
                  replace hm0_0 := hE95.at hm0_0
                  replace hm0_1 := hE95.at hm0_1
                  clear hE95
                  clear hsz96
                  obtain rfl := hP8_7
                  refine WL_val (dd := some 45) rfl rfl rfl (r_pick_t rfl (v := .bool _) rfl) ?_
                  refine WL_val (dd := some 4) rfl rfl rfl (r_assign (v := .bool _) rfl) ?_
                  refine WL_nil ?_
                  refine hK93 _ _ ?_
                  clear hK93 K92
                  refine WC_ret ?_
                  repeat (first | refine thenQ_ret ?_ | refine blockQ_ret ?_)
                  try clear hK89 K88
                  refine ret_t (v := .bool _) rfl ?_
                  refine ⟨hB, ?_⟩
                  rfl
                ·
                  try with_reducible replace hs8_6 := dec_f hs8_6
                  exact absurd rfl hs8_6
              ·
                try with_reducible replace hs8_2 := dec_f hs8_2
                exact absurd rfl hs8_2
            ·
              try with_reducible replace hc2 := dec_f hc2
              exact absurd (bool_f hc2) hpr3_1

theorem C_drawknifelaw03_PlaBack (T : Tb) (lv : Value) (vs : List LnV) (s : List UInt8) (w : World) (hgl : Gl w) (hlv : SlT encLn 3 w lv vs) (hls : LsAt w vs T.ls) (hmb : ∀ i, i < T.ls.length → (T.ls.getD i ln0).c.m < 256 ∧ (T.ls.getD i ln0).c.v < 256) (hvl : vs.length ≤ 9223372036854775807) :
    Fn Tryd.prog 4 #[.agg #[.int .i64 T.kind, .int .i64 T.ni, .int .i64 T.no, lv], keyW s] w fun v w' => v = .bool true := by
  refine Fn_intro (n := 86) Tryd.func4 rfl rfl (Nat.le_of_ble_eq_true rfl) ?_
  have hB : Below w.heap.size w w := Below.refl _ _
  refine WC_seq (fun K1 hK2 => ?_)
  refine WC_region ?_
  refine WL_step (dd := some 2) rfl rfl rfl (Y_box (c := #[_, _, _, _]) rfl rfl (fun b0_0 W3 hb4 hE5 hm0_0 => ?_))
  have lo_b0_0 : w.heap.size ≤ b0_0 := hb4 ▸ (Below.size hB)
  clear hb4
  replace hB := below_ext hB hE5 (Nat.le_refl _)
  clear hE5
  refine WL_val (dd := some 4) rfl rfl rfl (r_assign (v := .bool false) rfl) ?_
  refine WL_nil ?_
  refine hK2 _ _ ?_
  clear hK2 K1
  refine WC_seq (fun K6 hK7 => ?_)
  refine WC_seq (fun K8 hK9 => ?_)
  refine WC_region ?_
  refine WL_val (dd := some 18) rfl rfl rfl (r_loadW rfl tb_ag24 rfl hm0_0) ?_
  refine WL_call (dd := some 19) rfl rfl rfl (r_call1 tb_c7 (v0 := .agg #[_, _, _, _]) rfl) (C_drawknifelaw03_Great _ _ _ _ (Below.slT hB hlv) (LsAt.below hB hls) (by assumption) (by first | assumption | omega)) (fun v1_1 W10 hE11 hP1_1 => ?_)
  have hsz12 := (Below.size hB)
  replace hB := below_ext hB hE11 (Nat.le_refl _)
  replace hm0_0 := hE11.at hm0_0
  clear hE11
  clear hsz12
  obtain rfl := hP1_1
  refine WL_split (dd := some 20) rfl rfl rfl (r_move (v := .bool _) rfl) (fun hs1_2 => ?_) (fun hs1_2 => ?_)
  ·
    try with_reducible replace hs1_2 := dec_t hs1_2
    refine WL_skip (dd := some 21) rfl rfl rfl ?_
    refine WL_skip (dd := some 22) rfl rfl rfl ?_
    refine WL_skip (dd := some 23) rfl rfl rfl ?_
    refine WL_val (dd := some 24) rfl rfl rfl (r_pick_t rfl (v := .bool true) rfl) ?_
    refine WL_nil ?_
    refine hK9 _ _ ?_
    clear hK9 K8
    refine WC_cond_true rfl ?_
    refine WC_seq (fun K13 hK14 => ?_)
    refine WC_region ?_
    refine WL_call (dd := some 25) rfl rfl rfl (r_call0 tb_c8) (C_drawknifelaw03_knows _ (Gl.below hB hgl)) (fun v2_0 W15 hE16 hP2_0 => ?_)
    have hsz17 := (Below.size hB)
    replace hB := below_ext hB hE16 (Nat.le_refl _)
    replace hm0_0 := hE16.at hm0_0
    clear hE16
    clear hsz17
    obtain rfl := hP2_0
    refine WL_val (dd := some 4) rfl rfl rfl (r_assign (v := .bool _) rfl) ?_
    refine WL_nil ?_
    refine hK14 _ _ ?_
    clear hK14 K13
    refine WC_ret ?_
    repeat (first | refine thenQ_ret ?_ | refine blockQ_ret ?_)
    try clear hK7 K6
    refine ret_t (v := .bool _) rfl ?_
    refine ⟨hB, ?_⟩
    rfl
  ·
    try with_reducible replace hs1_2 := dec_f hs1_2
    refine WL_val (dd := some 21) rfl rfl rfl (r_move (v := .string _) rfl) ?_
    refine WL_val (dd := some 22) rfl rfl rfl (r_lenW rfl Tryd.underlying9) ?_
    refine WL_val (dd := some 23) rfl rfl rfl (r_gtr rfl rfl) ?_
    refine WL_val (dd := some 24) rfl rfl rfl (r_pick_f rfl (v := .bool _) rfl) ?_
    refine WL_nil ?_
    refine hK9 _ _ ?_
    clear hK9 K8
    refine WC_cond (b := _) rfl (fun hc0 => ?_) (fun hc0 => ?_)
    ·
      try with_reducible replace hc0 := dec_t hc0
      refine WC_seq (fun K18 hK19 => ?_)
      refine WC_region ?_
      refine WL_call (dd := some 25) rfl rfl rfl (r_call0 tb_c8) (C_drawknifelaw03_knows _ (Gl.below hB hgl)) (fun v2_0 W20 hE21 hP2_0 => ?_)
      have hsz22 := (Below.size hB)
      replace hB := below_ext hB hE21 (Nat.le_refl _)
      replace hm0_0 := hE21.at hm0_0
      clear hE21
      clear hsz22
      obtain rfl := hP2_0
      refine WL_val (dd := some 4) rfl rfl rfl (r_assign (v := .bool _) rfl) ?_
      refine WL_nil ?_
      refine hK19 _ _ ?_
      clear hK19 K18
      refine WC_ret ?_
      repeat (first | refine thenQ_ret ?_ | refine blockQ_ret ?_)
      try clear hK7 K6
      refine ret_t (v := .bool _) rfl ?_
      refine ⟨hB, ?_⟩
      rfl
    ·
      try with_reducible replace hc0 := dec_f hc0
      refine WC_skip ?_
      refine hK7 _ _ ?_
      clear hK7 K6
      refine WC_seq (fun K23 hK24 => ?_)
      obtain ⟨h100, hol⟩ := great_f (T := T) (by simpa using hs1_2)
      refine WC_region ?_
      refine WL_val (dd := some 27) rfl rfl rfl (r_loadW rfl tb_ag24 rfl hm0_0) ?_
      refine WL_call (dd := some 28) rfl rfl rfl (r_call1 tb_c9 (v0 := .agg #[_, _, _, _]) rfl) (C_pla_Print _ _ _ _ (Gl.below hB hgl) (Below.slT hB hlv) (LsAt.below hB hls) (by assumption)) (fun v3_1 W25 hE26 hP3_1 => ?_)
      have hsz27 := (Below.size hB)
      replace hB := below_ext hB hE26 (Nat.le_refl _)
      replace hm0_0 := hE26.at hm0_0
      clear hE26
      by_cases hpr3_1 : rightT T = true
      clear hsz27
      ·
        rw [if_pos hpr3_1] at hP3_1
        obtain rfl := hP3_1
        refine WL_val (dd := some 26) rfl rfl rfl (r_move (v := .tuple #[.string _, .int .i64 0]) rfl) ?_
        refine WL_val (dd := some 29) rfl rfl rfl (r_ext2_0 (h := rfl)) ?_
        refine WL_val (dd := some 30) rfl rfl rfl (r_ext2_1 (h := rfl)) ?_
        refine WL_val (dd := some 5) rfl rfl rfl (r_assign (v := .string _) rfl) ?_
        refine WL_val (dd := some 6) rfl rfl rfl (r_assign (v := .int .i64 0) rfl) ?_
        refine WL_nil ?_
        refine hK24 _ _ ?_
        clear hK24 K23
        refine WC_seq (fun K28 hK29 => ?_)
        refine WC_seq (fun K30 hK31 => ?_)
        refine WC_region ?_
        refine WL_val (dd := some 31) rfl rfl rfl (r_move (v := .int .i64 0) rfl) ?_
        refine WL_val (dd := some 32) rfl rfl rfl (r_eql rfl rfl) ?_
        refine WL_nil ?_
        refine hK31 _ _ ?_
        clear hK31 K30
        refine WC_cond (b := _) rfl (fun hc1 => ?_) (fun hc1 => ?_)
        ·
          try with_reducible replace hc1 := dec_t hc1
          refine WC_seq (fun K32 hK33 => ?_)
          refine WC_region ?_
          refine WL_val (dd := some 34) rfl rfl rfl (r_move (v := .string _) rfl) ?_
          refine WL_call (dd := some 35) rfl rfl rfl (r_call1 tb_c15 (v0 := .string _) rfl) (C_pla_Parse (printT T) _ (Gl.below hB hgl) (by have := printT_len hpr3_1; omega)) (fun v5_1 W34 hE35 hP5_1 => ?_)
          have hsz36 := (Below.size hB)
          replace hB := below_ext hB hE35 (Nat.le_refl _)
          replace hm0_0 := hE35.at hm0_0
          clear hE35
          rw [parse_print hpr3_1] at hP5_1
          obtain ⟨lv5_1, vs5_1, rfl, hsl5_1, hls5_1⟩ := hP5_1
          clear hsz36
          refine WL_val (dd := some 33) rfl rfl rfl (r_move (v := .tuple #[.agg #[.int .i64 _, .int .i64 _, .int .i64 _, lv5_1], .int .i64 _, .int .i64 _]) rfl) ?_
          refine WL_val (dd := some 36) rfl rfl rfl (r_ext3_0 (h := rfl)) ?_
          refine WL_val (dd := some 37) rfl rfl rfl (r_ext3_1 (h := rfl)) ?_
          refine WL_val (dd := some 38) rfl rfl rfl (r_ext3_2 (h := rfl)) ?_
          have hz38 := Gl.below hB hgl
          have hz39 := Below.slT hB hlv
          have hz40 := LsAt.below hB hls
          have hBo37 := hB
          replace hB := Below.refl W34.heap.size W34
          refine WL_step (dd := some 7) rfl rfl rfl (Y_alloc tb_z24 rfl (fun b5_6 W41 hb42 hE43 hm5_6 => ?_))
          have lo_b5_6 : W34.heap.size ≤ b5_6 := hb42 ▸ (Below.size hB)
          clear hb42
          replace hB := below_ext hB hE43 (Nat.le_refl _)
          clear hE43
          refine WL_step (dd := none) rfl rfl rfl (Y_storeW rfl rfl tb_ag24 rfl hm5_6 rfl (by exact one_tb (SlT.one hsl5_1)) (fun W44 hG45 hm46 => ?_))
          replace hB := below_grown hB hG45 (Nat.le_refl _) (fun j hj => by cases hj; exact lo_b5_6)
          clear hG45 hm5_6
          have hm5_6 := hm46
          clear hm46
          refine WL_val (dd := some 8) rfl rfl rfl (r_assign (v := .int .i64 _) rfl) ?_
          refine WL_val (dd := some 9) rfl rfl rfl (r_assign (v := .int .i64 _) rfl) ?_
          refine WL_nil ?_
          refine hK33 _ _ ?_
          clear hK33 K32
          refine WC_seq (fun K47 hK48 => ?_)
          refine WC_region ?_
          refine WL_val (dd := some 39) rfl rfl rfl (r_move (v := .int .i64 _) rfl) ?_
          refine WL_val (dd := some 40) rfl rfl rfl (r_neq rfl rfl) ?_
          refine WL_split (dd := some 41) rfl rfl rfl (r_move (v := .bool _) rfl) (fun hs6_2 => ?_) (fun hs6_2 => ?_)
          ·
            try with_reducible replace hs6_2 := dec_t hs6_2
            exact absurd rfl hs6_2
          ·
            try with_reducible replace hs6_2 := dec_f hs6_2
            refine WL_val (dd := some 42) rfl rfl rfl (r_loadW rfl tb_ag24 rfl (Below.atI hB hm0_0)) ?_
            refine WL_val (dd := some 43) rfl rfl rfl (r_loadW rfl tb_ag24 rfl hm5_6) ?_
            refine WL_call (dd := some 44) rfl rfl rfl (r_call2 tb_c13 (v0 := .agg #[_, _, _, _]) rfl (v1 := .agg #[_, _, _, _]) rfl) (C_drawkniferef03_Same T _ vs T _ vs5_1 _ (Below.slT hB hz39) (LsAt.below hB hz40) hmb (Below.slT hB hsl5_1) (LsAt.below hB hls5_1) hmb (by omega) hol) (fun v6_5 W49 hE50 hP6_5 => ?_)
            have hsz51 := (Below.size hB)
            replace hB := below_ext hB hE50 (Nat.le_refl _)
            replace hm5_6 := hE50.at hm5_6
            clear hE50
            clear hsz51
            obtain rfl := hP6_5
            refine WL_val (dd := some 45) rfl rfl rfl (r_not rfl) ?_
            refine WL_val (dd := some 46) rfl rfl rfl (r_pick_f rfl (v := .bool _) rfl) ?_
            refine WL_nil ?_
            refine hK48 _ _ ?_
            clear hK48 K47
            refine WC_cond (b := _) rfl (fun hc2 => ?_) (fun hc2 => ?_)
            ·
              try with_reducible replace hc2 := dec_t hc2
              simp at hc2
            ·
              try with_reducible replace hc2 := dec_f hc2
              refine WC_skip ?_
              refine hK29 _ _ ?_
              clear hK29 K28
              refine WC_seq (fun K52 hK53 => ?_)
              try clear hz38
              try clear hz39
              try clear hz40
              replace hm0_0 := Below.atI hB hm0_0
              replace hsl5_1 := Below.slT hB hsl5_1
              replace hls5_1 := LsAt.below hB hls5_1
              have hzs := Nat.le_trans (Nat.le_refl _) (Below.size hBo37)
              replace lo_b5_6 := Nat.le_trans hzs lo_b5_6
              replace hB := Below.trans hBo37 (Below.mono hB hzs)
              clear hBo37 hzs
              refine WC_region ?_
              refine WL_val (dd := some 48) rfl rfl rfl (r_move (v := .string _) rfl) ?_
              refine WL_call (dd := some 49) rfl rfl rfl (r_call1 tb_c15 (v0 := .string _) rfl) (C_pla_Parse s _ (Gl.below hB hgl) (by omega)) (fun v8_1 W54 hE55 hP8_1 => ?_)
              have hsz56 := (Below.size hB)
              replace hB := below_ext hB hE55 (Nat.le_refl _)
              replace hm0_0 := hE55.at hm0_0
              replace hsl5_1 := hE55.slT hsl5_1
              replace hls5_1 := LsAt.ext hE55 hls5_1
              replace hm5_6 := hE55.at hm5_6
              clear hE55
              obtain ⟨lv8_1, vs8_1, rfl, hsl8_1, hls8_1⟩ := hP8_1
              clear hsz56
              refine WL_val (dd := some 47) rfl rfl rfl (r_move (v := .tuple #[.agg #[.int .i64 _, .int .i64 _, .int .i64 _, lv8_1], .int .i64 _, .int .i64 _]) rfl) ?_
              refine WL_val (dd := some 50) rfl rfl rfl (r_ext3_0 (h := rfl)) ?_
              refine WL_val (dd := some 51) rfl rfl rfl (r_ext3_1 (h := rfl)) ?_
              refine WL_val (dd := some 52) rfl rfl rfl (r_ext3_2 (h := rfl)) ?_
              have hz58 := Gl.below hB hgl
              have hz59 := Below.slT hB hlv
              have hz60 := LsAt.below hB hls
              have hBo57 := hB
              replace hB := Below.refl W54.heap.size W54
              refine WL_step (dd := some 10) rfl rfl rfl (Y_alloc tb_z24 rfl (fun b8_6 W61 hb62 hE63 hm8_6 => ?_))
              have lo_b8_6 : W54.heap.size ≤ b8_6 := hb62 ▸ (Below.size hB)
              clear hb62
              replace hB := below_ext hB hE63 (Nat.le_refl _)
              clear hE63
              refine WL_step (dd := none) rfl rfl rfl (Y_storeW rfl rfl tb_ag24 rfl hm8_6 rfl (by exact one_tb (SlT.one hsl8_1)) (fun W64 hG65 hm66 => ?_))
              replace hB := below_grown hB hG65 (Nat.le_refl _) (fun j hj => by cases hj; exact lo_b8_6)
              clear hG65 hm8_6
              have hm8_6 := hm66
              clear hm66
              refine WL_val (dd := some 11) rfl rfl rfl (r_assign (v := .int .i64 _) rfl) ?_
              refine WL_val (dd := some 12) rfl rfl rfl (r_assign (v := .int .i64 _) rfl) ?_
              refine WL_nil ?_
              refine hK53 _ _ ?_
              clear hK53 K52
              refine WC_seq (fun K67 hK68 => ?_)
              refine WC_seq (fun K69 hK70 => ?_)
              refine WC_region ?_
              refine WL_val (dd := some 53) rfl rfl rfl (r_move (v := .int .i64 _) rfl) ?_
              refine WL_val (dd := some 54) rfl rfl rfl (r_neq rfl rfl) ?_
              refine WL_nil ?_
              refine hK70 _ _ ?_
              clear hK70 K69
              refine WC_cond (b := _) rfl (fun hc3 => ?_) (fun hc3 => ?_)
              ·
                try with_reducible replace hc3 := dec_t hc3
                refine WC_seq (fun K71 hK72 => ?_)
                refine WC_region ?_
                refine WL_val (dd := some 55) rfl rfl rfl (r_loadW rfl tb_ag24 rfl hm8_6) ?_
                refine WL_val (dd := some 56) rfl rfl rfl (tb_build24_ ) ?_
                refine WL_call (dd := some 57) rfl rfl rfl (r_call2 tb_c13 (v0 := .agg #[_, _, _, _]) rfl (v1 := .agg #[_, _, _, _]) rfl) (C_drawkniferef03_Same (parseT s).1 _ vs8_1 tb0 _ [] _ (Below.slT hB hsl8_1) (LsAt.below hB hls8_1) (parse_mb s) SlT.nil LsAt.nil (fun i hi => by cases hi) (Nat.le_trans (parse_hol s).1 (by decide)) (parse_hol s).2) (fun v10_2 W73 hE74 hP10_2 => ?_)
                have hsz75 := (Below.size hB)
                replace hB := below_ext hB hE74 (Nat.le_refl _)
                replace hm8_6 := hE74.at hm8_6
                clear hE74
                clear hsz75
                obtain rfl := hP10_2
                refine WL_split (dd := some 58) rfl rfl rfl (r_move (v := .bool _) rfl) (fun hs10_3 => ?_) (fun hs10_3 => ?_)
                ·
                  try with_reducible replace hs10_3 := dec_t hs10_3
                  refine WL_call (dd := some 59) rfl rfl rfl (r_call0 tb_c8) (C_drawknifelaw03_knows _ (Gl.below hB hz58)) (fun v10_4 W76 hE77 hP10_4 => ?_)
                  have hsz78 := (Below.size hB)
                  replace hB := below_ext hB hE77 (Nat.le_refl _)
                  replace hm8_6 := hE77.at hm8_6
                  clear hE77
                  clear hsz78
                  obtain rfl := hP10_4
                  refine WL_val (dd := some 60) rfl rfl rfl (r_pick_t rfl (v := .bool _) rfl) ?_
                  refine WL_val (dd := some 4) rfl rfl rfl (r_assign (v := .bool _) rfl) ?_
                  refine WL_nil ?_
                  refine hK72 _ _ ?_
                  clear hK72 K71
                  refine WC_ret ?_
                  try clear hz58
                  try clear hz59
                  try clear hz60
                  replace hm0_0 := Below.atI hB hm0_0
                  replace hsl5_1 := Below.slT hB hsl5_1
                  replace hls5_1 := LsAt.below hB hls5_1
                  replace hm5_6 := Below.atI hB hm5_6
                  replace hsl8_1 := Below.slT hB hsl8_1
                  replace hls8_1 := LsAt.below hB hls8_1
                  have hzs := Nat.le_trans (Nat.le_refl _) (Below.size hBo57)
                  replace lo_b8_6 := Nat.le_trans hzs lo_b8_6
                  replace hB := Below.trans hBo57 (Below.mono hB hzs)
                  clear hBo57 hzs
                  repeat (first | refine thenQ_ret ?_ | refine blockQ_ret ?_)
                  try clear hK68 K67
                  refine ret_t (v := .bool _) rfl ?_
                  refine ⟨hB, ?_⟩
                  rfl
                ·
                  try with_reducible replace hs10_3 := dec_f hs10_3
                  exact absurd (parse_err hc3) hs10_3
              ·
                try with_reducible replace hc3 := dec_f hc3
                refine WC_skip ?_
                refine hK68 _ _ ?_
                clear hK68 K67
                refine WC_seq (fun K79 hK80 => ?_)
                have hrt := parse_right (Decidable.of_not_not hc3)
                have hpl := printT_len hrt
                refine WC_region ?_
                refine WL_val (dd := some 62) rfl rfl rfl (r_loadW rfl tb_ag24 rfl hm8_6) ?_
                refine WL_call (dd := some 63) rfl rfl rfl (r_call1 tb_c9 (v0 := .agg #[_, _, _, _]) rfl) (C_pla_Print (parseT s).1 _ vs8_1 _ (Gl.below hB hz58) (Below.slT hB hsl8_1) (LsAt.below hB hls8_1) (parse_mb s)) (fun v11_1 W81 hE82 hP11_1 => ?_)
                have hsz83 := (Below.size hB)
                replace hB := below_ext hB hE82 (Nat.le_refl _)
                replace hm8_6 := hE82.at hm8_6
                clear hE82
                rw [if_pos hrt] at hP11_1
                obtain rfl := hP11_1
                clear hsz83
                refine WL_val (dd := some 61) rfl rfl rfl (r_move (v := .tuple #[.string _, .int .i64 0]) rfl) ?_
                refine WL_val (dd := some 64) rfl rfl rfl (r_ext2_0 (h := rfl)) ?_
                refine WL_val (dd := some 65) rfl rfl rfl (r_ext2_1 (h := rfl)) ?_
                refine WL_val (dd := some 13) rfl rfl rfl (r_assign (v := .string _) rfl) ?_
                refine WL_val (dd := some 14) rfl rfl rfl (r_assign (v := .int .i64 0) rfl) ?_
                refine WL_nil ?_
                refine hK80 _ _ ?_
                clear hK80 K79
                refine WC_seq (fun K84 hK85 => ?_)
                try clear hz58
                try clear hz59
                try clear hz60
                replace hm0_0 := Below.atI hB hm0_0
                replace hsl5_1 := Below.slT hB hsl5_1
                replace hls5_1 := LsAt.below hB hls5_1
                replace hm5_6 := Below.atI hB hm5_6
                replace hsl8_1 := Below.slT hB hsl8_1
                replace hls8_1 := LsAt.below hB hls8_1
                have hzs := Nat.le_trans (Nat.le_refl _) (Below.size hBo57)
                replace lo_b8_6 := Nat.le_trans hzs lo_b8_6
                replace hB := Below.trans hBo57 (Below.mono hB hzs)
                clear hBo57 hzs
                refine WC_region ?_
                refine WL_val (dd := some 67) rfl rfl rfl (r_move (v := .string _) rfl) ?_
                refine WL_call (dd := some 68) rfl rfl rfl (r_call1 tb_c15 (v0 := .string _) rfl) (C_pla_Parse (printT (parseT s).1) _ (Gl.below hB hgl) (by omega)) (fun v12_1 W86 hE87 hP12_1 => ?_)
                have hsz88 := (Below.size hB)
                replace hB := below_ext hB hE87 (Nat.le_refl _)
                replace hm0_0 := hE87.at hm0_0
                replace hsl5_1 := hE87.slT hsl5_1
                replace hls5_1 := LsAt.ext hE87 hls5_1
                replace hm5_6 := hE87.at hm5_6
                replace hsl8_1 := hE87.slT hsl8_1
                replace hls8_1 := LsAt.ext hE87 hls8_1
                replace hm8_6 := hE87.at hm8_6
                clear hE87
                rw [parse_print hrt] at hP12_1
                obtain ⟨lv12_1, vs12_1, rfl, hsl12_1, hls12_1⟩ := hP12_1
                clear hsz88
                refine WL_val (dd := some 66) rfl rfl rfl (r_move (v := .tuple #[.agg #[.int .i64 _, .int .i64 _, .int .i64 _, lv12_1], .int .i64 _, .int .i64 _]) rfl) ?_
                refine WL_val (dd := some 69) rfl rfl rfl (r_ext3_0 (h := rfl)) ?_
                refine WL_val (dd := some 70) rfl rfl rfl (r_ext3_1 (h := rfl)) ?_
                refine WL_val (dd := some 71) rfl rfl rfl (r_ext3_2 (h := rfl)) ?_
                have hz90 := Gl.below hB hgl
                have hz91 := Below.slT hB hlv
                have hz92 := LsAt.below hB hls
                have hBo89 := hB
                replace hB := Below.refl W86.heap.size W86
                refine WL_step (dd := some 15) rfl rfl rfl (Y_alloc tb_z24 rfl (fun b12_6 W93 hb94 hE95 hm12_6 => ?_))
                have lo_b12_6 : W86.heap.size ≤ b12_6 := hb94 ▸ (Below.size hB)
                clear hb94
                replace hB := below_ext hB hE95 (Nat.le_refl _)
                clear hE95
                refine WL_step (dd := none) rfl rfl rfl (Y_storeW rfl rfl tb_ag24 rfl hm12_6 rfl (by exact one_tb (SlT.one hsl12_1)) (fun W96 hG97 hm98 => ?_))
                replace hB := below_grown hB hG97 (Nat.le_refl _) (fun j hj => by cases hj; exact lo_b12_6)
                clear hG97 hm12_6
                have hm12_6 := hm98
                clear hm98
                refine WL_val (dd := some 16) rfl rfl rfl (r_assign (v := .int .i64 _) rfl) ?_
                refine WL_val (dd := some 17) rfl rfl rfl (r_assign (v := .int .i64 _) rfl) ?_
                refine WL_nil ?_
                refine hK85 _ _ ?_
                clear hK85 K84
                refine WC_seq (fun K99 hK100 => ?_)
                refine WC_region ?_
                refine WL_val (dd := some 72) rfl rfl rfl (r_move (v := .int .i64 0) rfl) ?_
                refine WL_val (dd := some 73) rfl rfl rfl (r_eql rfl rfl) ?_
                refine WL_split (dd := some 74) rfl rfl rfl (r_move (v := .bool _) rfl) (fun hs13_2 => ?_) (fun hs13_2 => ?_)
                ·
                  try with_reducible replace hs13_2 := dec_t hs13_2
                  refine WL_val (dd := some 75) rfl rfl rfl (r_move (v := .int .i64 _) rfl) ?_
                  refine WL_val (dd := some 76) rfl rfl rfl (r_eql rfl rfl) ?_
                  refine WL_val (dd := some 77) rfl rfl rfl (r_pick_t rfl (v := .bool _) rfl) ?_
                  refine WL_split (dd := some 78) rfl rfl rfl (r_move (v := .bool _) rfl) (fun hs13_6 => ?_) (fun hs13_6 => ?_)
                  ·
                    try with_reducible replace hs13_6 := dec_t hs13_6
                    refine WL_val (dd := some 79) rfl rfl rfl (r_loadW rfl tb_ag24 rfl (Below.atI hB hm8_6)) ?_
                    refine WL_val (dd := some 80) rfl rfl rfl (r_loadW rfl tb_ag24 rfl hm12_6) ?_
                    refine WL_call (dd := some 81) rfl rfl rfl (r_call2 tb_c13 (v0 := .agg #[_, _, _, _]) rfl (v1 := .agg #[_, _, _, _]) rfl) (C_drawkniferef03_Same (parseT s).1 _ vs8_1 (parseT s).1 _ vs12_1 _ (Below.slT hB hsl8_1) (LsAt.below hB hls8_1) (parse_mb s) (Below.slT hB hsl12_1) (LsAt.below hB hls12_1) (parse_mb s) (Nat.le_trans (parse_hol s).1 (by decide)) (parse_hol s).2) (fun v13_9 W101 hE102 hP13_9 => ?_)
                    have hsz103 := (Below.size hB)
                    replace hB := below_ext hB hE102 (Nat.le_refl _)
                    replace hm12_6 := hE102.at hm12_6
                    clear hE102
                    clear hsz103
                    obtain rfl := hP13_9
                    refine WL_val (dd := some 82) rfl rfl rfl (r_pick_t rfl (v := .bool _) rfl) ?_
                    refine WL_split (dd := some 83) rfl rfl rfl (r_move (v := .bool _) rfl) (fun hs13_11 => ?_) (fun hs13_11 => ?_)
                    ·
                      try with_reducible replace hs13_11 := dec_t hs13_11
                      refine WL_call (dd := some 84) rfl rfl rfl (r_call0 tb_c8) (C_drawknifelaw03_knows _ (Gl.below hB hz90)) (fun v13_12 W104 hE105 hP13_12 => ?_)
                      have hsz106 := (Below.size hB)
                      replace hB := below_ext hB hE105 (Nat.le_refl _)
                      replace hm12_6 := hE105.at hm12_6
                      clear hE105
                      clear hsz106
                      obtain rfl := hP13_12
                      refine WL_val (dd := some 85) rfl rfl rfl (r_pick_t rfl (v := .bool _) rfl) ?_
                      refine WL_val (dd := some 4) rfl rfl rfl (r_assign (v := .bool _) rfl) ?_
                      refine WL_nil ?_
                      refine hK100 _ _ ?_
                      clear hK100 K99
                      refine WC_ret ?_
                      try clear hz90
                      try clear hz91
                      try clear hz92
                      replace hm0_0 := Below.atI hB hm0_0
                      replace hsl5_1 := Below.slT hB hsl5_1
                      replace hls5_1 := LsAt.below hB hls5_1
                      replace hm5_6 := Below.atI hB hm5_6
                      replace hsl8_1 := Below.slT hB hsl8_1
                      replace hls8_1 := LsAt.below hB hls8_1
                      replace hm8_6 := Below.atI hB hm8_6
                      replace hsl12_1 := Below.slT hB hsl12_1
                      replace hls12_1 := LsAt.below hB hls12_1
                      have hzs := Nat.le_trans (Nat.le_refl _) (Below.size hBo89)
                      replace lo_b12_6 := Nat.le_trans hzs lo_b12_6
                      replace hB := Below.trans hBo89 (Below.mono hB hzs)
                      clear hBo89 hzs
                      repeat (first | refine thenQ_ret ?_ | refine blockQ_ret ?_)
                      refine ret_t (v := .bool _) rfl ?_
                      refine ⟨hB, ?_⟩
                      rfl
                    ·
                      try with_reducible replace hs13_11 := dec_f hs13_11
                      exact absurd rfl hs13_11
                  ·
                    try with_reducible replace hs13_6 := dec_f hs13_6
                    exact absurd rfl hs13_6
                ·
                  try with_reducible replace hs13_2 := dec_f hs13_2
                  exact absurd rfl hs13_2
        ·
          try with_reducible replace hc1 := dec_f hc1
          exact absurd rfl hc1
      ·
        rw [if_neg hpr3_1] at hP3_1
        obtain rfl := hP3_1
        refine WL_val (dd := some 26) rfl rfl rfl (r_move (v := .tuple #[.string _, .int .i64 1]) rfl) ?_
        refine WL_val (dd := some 29) rfl rfl rfl (r_ext2_0 (h := rfl)) ?_
        refine WL_val (dd := some 30) rfl rfl rfl (r_ext2_1 (h := rfl)) ?_
        refine WL_val (dd := some 5) rfl rfl rfl (r_assign (v := .string _) rfl) ?_
        refine WL_val (dd := some 6) rfl rfl rfl (r_assign (v := .int .i64 1) rfl) ?_
        refine WL_nil ?_
        refine hK24 _ _ ?_
        clear hK24 K23
        refine WC_seq (fun K107 hK108 => ?_)
        refine WC_seq (fun K109 hK110 => ?_)
        refine WC_region ?_
        refine WL_val (dd := some 31) rfl rfl rfl (r_move (v := .int .i64 1) rfl) ?_
        refine WL_val (dd := some 32) rfl rfl rfl (r_eql rfl rfl) ?_
        refine WL_nil ?_
        refine hK110 _ _ ?_
        clear hK110 K109
        refine WC_cond (b := _) rfl (fun hc1 => ?_) (fun hc1 => ?_)
        ·
          try with_reducible replace hc1 := dec_t hc1
          exact absurd hc1 (by decide)
        ·
          try with_reducible replace hc1 := dec_f hc1
          refine WC_skip ?_
          refine hK108 _ _ ?_
          clear hK108 K107
          refine WC_seq (fun K111 hK112 => ?_)
          refine WC_region ?_
          refine WL_val (dd := some 48) rfl rfl rfl (r_move (v := .string _) rfl) ?_
          refine WL_call (dd := some 49) rfl rfl rfl (r_call1 tb_c15 (v0 := .string _) rfl) (C_pla_Parse s _ (Gl.below hB hgl) (by omega)) (fun v8_1 W113 hE114 hP8_1 => ?_)
          have hsz115 := (Below.size hB)
          replace hB := below_ext hB hE114 (Nat.le_refl _)
          replace hm0_0 := hE114.at hm0_0
          clear hE114
          obtain ⟨lv8_1, vs8_1, rfl, hsl8_1, hls8_1⟩ := hP8_1
          clear hsz115
          refine WL_val (dd := some 47) rfl rfl rfl (r_move (v := .tuple #[.agg #[.int .i64 _, .int .i64 _, .int .i64 _, lv8_1], .int .i64 _, .int .i64 _]) rfl) ?_
          refine WL_val (dd := some 50) rfl rfl rfl (r_ext3_0 (h := rfl)) ?_
          refine WL_val (dd := some 51) rfl rfl rfl (r_ext3_1 (h := rfl)) ?_
          refine WL_val (dd := some 52) rfl rfl rfl (r_ext3_2 (h := rfl)) ?_
          have hz117 := Gl.below hB hgl
          have hz118 := Below.slT hB hlv
          have hz119 := LsAt.below hB hls
          have hBo116 := hB
          replace hB := Below.refl W113.heap.size W113
          refine WL_step (dd := some 10) rfl rfl rfl (Y_alloc tb_z24 rfl (fun b8_6 W120 hb121 hE122 hm8_6 => ?_))
          have lo_b8_6 : W113.heap.size ≤ b8_6 := hb121 ▸ (Below.size hB)
          clear hb121
          replace hB := below_ext hB hE122 (Nat.le_refl _)
          clear hE122
          refine WL_step (dd := none) rfl rfl rfl (Y_storeW rfl rfl tb_ag24 rfl hm8_6 rfl (by exact one_tb (SlT.one hsl8_1)) (fun W123 hG124 hm125 => ?_))
          replace hB := below_grown hB hG124 (Nat.le_refl _) (fun j hj => by cases hj; exact lo_b8_6)
          clear hG124 hm8_6
          have hm8_6 := hm125
          clear hm125
          refine WL_val (dd := some 11) rfl rfl rfl (r_assign (v := .int .i64 _) rfl) ?_
          refine WL_val (dd := some 12) rfl rfl rfl (r_assign (v := .int .i64 _) rfl) ?_
          refine WL_nil ?_
          refine hK112 _ _ ?_
          clear hK112 K111
          refine WC_seq (fun K126 hK127 => ?_)
          refine WC_seq (fun K128 hK129 => ?_)
          refine WC_region ?_
          refine WL_val (dd := some 53) rfl rfl rfl (r_move (v := .int .i64 _) rfl) ?_
          refine WL_val (dd := some 54) rfl rfl rfl (r_neq rfl rfl) ?_
          refine WL_nil ?_
          refine hK129 _ _ ?_
          clear hK129 K128
          refine WC_cond (b := _) rfl (fun hc3 => ?_) (fun hc3 => ?_)
          ·
            try with_reducible replace hc3 := dec_t hc3
            refine WC_seq (fun K130 hK131 => ?_)
            refine WC_region ?_
            refine WL_val (dd := some 55) rfl rfl rfl (r_loadW rfl tb_ag24 rfl hm8_6) ?_
            refine WL_val (dd := some 56) rfl rfl rfl (tb_build24_ ) ?_
            refine WL_call (dd := some 57) rfl rfl rfl (r_call2 tb_c13 (v0 := .agg #[_, _, _, _]) rfl (v1 := .agg #[_, _, _, _]) rfl) (C_drawkniferef03_Same (parseT s).1 _ vs8_1 tb0 _ [] _ (Below.slT hB hsl8_1) (LsAt.below hB hls8_1) (parse_mb s) SlT.nil LsAt.nil (fun i hi => by cases hi) (Nat.le_trans (parse_hol s).1 (by decide)) (parse_hol s).2) (fun v10_2 W132 hE133 hP10_2 => ?_)
            have hsz134 := (Below.size hB)
            replace hB := below_ext hB hE133 (Nat.le_refl _)
            replace hm8_6 := hE133.at hm8_6
            clear hE133
            clear hsz134
            obtain rfl := hP10_2
            refine WL_split (dd := some 58) rfl rfl rfl (r_move (v := .bool _) rfl) (fun hs10_3 => ?_) (fun hs10_3 => ?_)
            ·
              try with_reducible replace hs10_3 := dec_t hs10_3
              refine WL_call (dd := some 59) rfl rfl rfl (r_call0 tb_c8) (C_drawknifelaw03_knows _ (Gl.below hB hz117)) (fun v10_4 W135 hE136 hP10_4 => ?_)
              have hsz137 := (Below.size hB)
              replace hB := below_ext hB hE136 (Nat.le_refl _)
              replace hm8_6 := hE136.at hm8_6
              clear hE136
              clear hsz137
              obtain rfl := hP10_4
              refine WL_val (dd := some 60) rfl rfl rfl (r_pick_t rfl (v := .bool _) rfl) ?_
              refine WL_val (dd := some 4) rfl rfl rfl (r_assign (v := .bool _) rfl) ?_
              refine WL_nil ?_
              refine hK131 _ _ ?_
              clear hK131 K130
              refine WC_ret ?_
              try clear hz117
              try clear hz118
              try clear hz119
              replace hm0_0 := Below.atI hB hm0_0
              replace hsl8_1 := Below.slT hB hsl8_1
              replace hls8_1 := LsAt.below hB hls8_1
              have hzs := Nat.le_trans (Nat.le_refl _) (Below.size hBo116)
              replace lo_b8_6 := Nat.le_trans hzs lo_b8_6
              replace hB := Below.trans hBo116 (Below.mono hB hzs)
              clear hBo116 hzs
              repeat (first | refine thenQ_ret ?_ | refine blockQ_ret ?_)
              try clear hK127 K126
              refine ret_t (v := .bool _) rfl ?_
              refine ⟨hB, ?_⟩
              rfl
            ·
              try with_reducible replace hs10_3 := dec_f hs10_3
              exact absurd (parse_err hc3) hs10_3
          ·
            try with_reducible replace hc3 := dec_f hc3
            refine WC_skip ?_
            refine hK127 _ _ ?_
            clear hK127 K126
            refine WC_seq (fun K138 hK139 => ?_)
            have hrt := parse_right (Decidable.of_not_not hc3)
            have hpl := printT_len hrt
            refine WC_region ?_
            refine WL_val (dd := some 62) rfl rfl rfl (r_loadW rfl tb_ag24 rfl hm8_6) ?_
            refine WL_call (dd := some 63) rfl rfl rfl (r_call1 tb_c9 (v0 := .agg #[_, _, _, _]) rfl) (C_pla_Print (parseT s).1 _ vs8_1 _ (Gl.below hB hz117) (Below.slT hB hsl8_1) (LsAt.below hB hls8_1) (parse_mb s)) (fun v11_1 W140 hE141 hP11_1 => ?_)
            have hsz142 := (Below.size hB)
            replace hB := below_ext hB hE141 (Nat.le_refl _)
            replace hm8_6 := hE141.at hm8_6
            clear hE141
            rw [if_pos hrt] at hP11_1
            obtain rfl := hP11_1
            clear hsz142
            refine WL_val (dd := some 61) rfl rfl rfl (r_move (v := .tuple #[.string _, .int .i64 0]) rfl) ?_
            refine WL_val (dd := some 64) rfl rfl rfl (r_ext2_0 (h := rfl)) ?_
            refine WL_val (dd := some 65) rfl rfl rfl (r_ext2_1 (h := rfl)) ?_
            refine WL_val (dd := some 13) rfl rfl rfl (r_assign (v := .string _) rfl) ?_
            refine WL_val (dd := some 14) rfl rfl rfl (r_assign (v := .int .i64 0) rfl) ?_
            refine WL_nil ?_
            refine hK139 _ _ ?_
            clear hK139 K138
            refine WC_seq (fun K143 hK144 => ?_)
            try clear hz117
            try clear hz118
            try clear hz119
            replace hm0_0 := Below.atI hB hm0_0
            replace hsl8_1 := Below.slT hB hsl8_1
            replace hls8_1 := LsAt.below hB hls8_1
            have hzs := Nat.le_trans (Nat.le_refl _) (Below.size hBo116)
            replace lo_b8_6 := Nat.le_trans hzs lo_b8_6
            replace hB := Below.trans hBo116 (Below.mono hB hzs)
            clear hBo116 hzs
            refine WC_region ?_
            refine WL_val (dd := some 67) rfl rfl rfl (r_move (v := .string _) rfl) ?_
            refine WL_call (dd := some 68) rfl rfl rfl (r_call1 tb_c15 (v0 := .string _) rfl) (C_pla_Parse (printT (parseT s).1) _ (Gl.below hB hgl) (by omega)) (fun v12_1 W145 hE146 hP12_1 => ?_)
            have hsz147 := (Below.size hB)
            replace hB := below_ext hB hE146 (Nat.le_refl _)
            replace hm0_0 := hE146.at hm0_0
            replace hsl8_1 := hE146.slT hsl8_1
            replace hls8_1 := LsAt.ext hE146 hls8_1
            replace hm8_6 := hE146.at hm8_6
            clear hE146
            rw [parse_print hrt] at hP12_1
            obtain ⟨lv12_1, vs12_1, rfl, hsl12_1, hls12_1⟩ := hP12_1
            clear hsz147
            refine WL_val (dd := some 66) rfl rfl rfl (r_move (v := .tuple #[.agg #[.int .i64 _, .int .i64 _, .int .i64 _, lv12_1], .int .i64 _, .int .i64 _]) rfl) ?_
            refine WL_val (dd := some 69) rfl rfl rfl (r_ext3_0 (h := rfl)) ?_
            refine WL_val (dd := some 70) rfl rfl rfl (r_ext3_1 (h := rfl)) ?_
            refine WL_val (dd := some 71) rfl rfl rfl (r_ext3_2 (h := rfl)) ?_
            have hz149 := Gl.below hB hgl
            have hz150 := Below.slT hB hlv
            have hz151 := LsAt.below hB hls
            have hBo148 := hB
            replace hB := Below.refl W145.heap.size W145
            refine WL_step (dd := some 15) rfl rfl rfl (Y_alloc tb_z24 rfl (fun b12_6 W152 hb153 hE154 hm12_6 => ?_))
            have lo_b12_6 : W145.heap.size ≤ b12_6 := hb153 ▸ (Below.size hB)
            clear hb153
            replace hB := below_ext hB hE154 (Nat.le_refl _)
            clear hE154
            refine WL_step (dd := none) rfl rfl rfl (Y_storeW rfl rfl tb_ag24 rfl hm12_6 rfl (by exact one_tb (SlT.one hsl12_1)) (fun W155 hG156 hm157 => ?_))
            replace hB := below_grown hB hG156 (Nat.le_refl _) (fun j hj => by cases hj; exact lo_b12_6)
            clear hG156 hm12_6
            have hm12_6 := hm157
            clear hm157
            refine WL_val (dd := some 16) rfl rfl rfl (r_assign (v := .int .i64 _) rfl) ?_
            refine WL_val (dd := some 17) rfl rfl rfl (r_assign (v := .int .i64 _) rfl) ?_
            refine WL_nil ?_
            refine hK144 _ _ ?_
            clear hK144 K143
            refine WC_seq (fun K158 hK159 => ?_)
            refine WC_region ?_
            refine WL_val (dd := some 72) rfl rfl rfl (r_move (v := .int .i64 0) rfl) ?_
            refine WL_val (dd := some 73) rfl rfl rfl (r_eql rfl rfl) ?_
            refine WL_split (dd := some 74) rfl rfl rfl (r_move (v := .bool _) rfl) (fun hs13_2 => ?_) (fun hs13_2 => ?_)
            ·
              try with_reducible replace hs13_2 := dec_t hs13_2
              refine WL_val (dd := some 75) rfl rfl rfl (r_move (v := .int .i64 _) rfl) ?_
              refine WL_val (dd := some 76) rfl rfl rfl (r_eql rfl rfl) ?_
              refine WL_val (dd := some 77) rfl rfl rfl (r_pick_t rfl (v := .bool _) rfl) ?_
              refine WL_split (dd := some 78) rfl rfl rfl (r_move (v := .bool _) rfl) (fun hs13_6 => ?_) (fun hs13_6 => ?_)
              ·
                try with_reducible replace hs13_6 := dec_t hs13_6
                refine WL_val (dd := some 79) rfl rfl rfl (r_loadW rfl tb_ag24 rfl (Below.atI hB hm8_6)) ?_
                refine WL_val (dd := some 80) rfl rfl rfl (r_loadW rfl tb_ag24 rfl hm12_6) ?_
                refine WL_call (dd := some 81) rfl rfl rfl (r_call2 tb_c13 (v0 := .agg #[_, _, _, _]) rfl (v1 := .agg #[_, _, _, _]) rfl) (C_drawkniferef03_Same (parseT s).1 _ vs8_1 (parseT s).1 _ vs12_1 _ (Below.slT hB hsl8_1) (LsAt.below hB hls8_1) (parse_mb s) (Below.slT hB hsl12_1) (LsAt.below hB hls12_1) (parse_mb s) (Nat.le_trans (parse_hol s).1 (by decide)) (parse_hol s).2) (fun v13_9 W160 hE161 hP13_9 => ?_)
                have hsz162 := (Below.size hB)
                replace hB := below_ext hB hE161 (Nat.le_refl _)
                replace hm12_6 := hE161.at hm12_6
                clear hE161
                clear hsz162
                obtain rfl := hP13_9
                refine WL_val (dd := some 82) rfl rfl rfl (r_pick_t rfl (v := .bool _) rfl) ?_
                refine WL_split (dd := some 83) rfl rfl rfl (r_move (v := .bool _) rfl) (fun hs13_11 => ?_) (fun hs13_11 => ?_)
                ·
                  try with_reducible replace hs13_11 := dec_t hs13_11
                  refine WL_call (dd := some 84) rfl rfl rfl (r_call0 tb_c8) (C_drawknifelaw03_knows _ (Gl.below hB hz149)) (fun v13_12 W163 hE164 hP13_12 => ?_)
                  have hsz165 := (Below.size hB)
                  replace hB := below_ext hB hE164 (Nat.le_refl _)
                  replace hm12_6 := hE164.at hm12_6
                  clear hE164
                  clear hsz165
                  obtain rfl := hP13_12
                  refine WL_val (dd := some 85) rfl rfl rfl (r_pick_t rfl (v := .bool _) rfl) ?_
                  refine WL_val (dd := some 4) rfl rfl rfl (r_assign (v := .bool _) rfl) ?_
                  refine WL_nil ?_
                  refine hK159 _ _ ?_
                  clear hK159 K158
                  refine WC_ret ?_
                  try clear hz149
                  try clear hz150
                  try clear hz151
                  replace hm0_0 := Below.atI hB hm0_0
                  replace hsl8_1 := Below.slT hB hsl8_1
                  replace hls8_1 := LsAt.below hB hls8_1
                  replace hm8_6 := Below.atI hB hm8_6
                  replace hsl12_1 := Below.slT hB hsl12_1
                  replace hls12_1 := LsAt.below hB hls12_1
                  have hzs := Nat.le_trans (Nat.le_refl _) (Below.size hBo148)
                  replace lo_b12_6 := Nat.le_trans hzs lo_b12_6
                  replace hB := Below.trans hBo148 (Below.mono hB hzs)
                  clear hBo148 hzs
                  repeat (first | refine thenQ_ret ?_ | refine blockQ_ret ?_)
                  refine ret_t (v := .bool _) rfl ?_
                  refine ⟨hB, ?_⟩
                  rfl
                ·
                  try with_reducible replace hs13_11 := dec_f hs13_11
                  exact absurd rfl hs13_11
              ·
                try with_reducible replace hs13_6 := dec_f hs13_6
                exact absurd rfl hs13_6
            ·
              try with_reducible replace hs13_2 := dec_f hs13_2
              exact absurd rfl hs13_2

end Go.Proofs.YtnkaebjaeaecmaaDoor
