/-
  The walks of the reader.
-/
import Derived.Test.YtnkaebjaeaecmaaGreatDoorProg
import Derived.Test.YtnkaebjaeaecmaaGreatDoorWPla4
import Derived.Test.YtnkaebjaeaecmaaGreatDoorPars
import Derived.Test.YtnkaebjaeaecmaaGreatDoorZip
namespace Go.Proofs.YtnkaebjaeaecmaaGreatDoor
set_option linter.unusedVariables false
set_option linter.unusedSimpArgs false
open Go Go.RowKit

theorem tb_c71 : callB Tryz.prog 71 = true := by kernel_rfl
theorem tb_c72 : callB Tryz.prog 72 = true := by kernel_rfl
theorem tb_fo74_0 : fieldO Tryz.prog 74 0 = some 0 := by kernel_rfl
theorem tb_size41 : (Tryz.prog.info? 41).map (·.size) = some 2 := by kernel_rfl
theorem tb_size42 : (Tryz.prog.info? 42).map (·.size) = some 1 := by kernel_rfl
theorem tb_build44_0 {f : Nat → Value} {w : World} {d : Option Nat} {ty : TypeId} {ps : String} {af : Array Edge} {g : Option (Nat × Bool)} {x0 : Operand} {c0_0 c0_1 : Value} (h0 : evF f x0 = .agg #[c0_0, c0_1]) :
    (execOp (evF f) ⟨d, .build 44 #[(0, x0)], ty, ps, af, g⟩).run Tryz.prog w = .ok (.value (.agg #[c0_0, c0_1, .slice none 0 0])) w := by
  obtain ⟨i0, hi0, hz0⟩ := Option.bind_eq_some_iff.1 (show (Tryz.prog.info? 44).bind (·.zero) = _ from tb_z44)
  obtain ⟨j41, hj41, hs41⟩ := Option.map_eq_some_iff.1 tb_size41
  obtain ⟨j42, hj42, hs42⟩ := Option.map_eq_some_iff.1 tb_size42
  simp [execOp, h0, Instr.build, zeroValue, typeInfo, sizeOf, hi0, hz0, run_underlying Tryz.underlying44, Instr.fill, cells_agg, hj41, hs41, hj42, hs42]
theorem tb_zs44 : (zeroI Tryz.prog 44).map (fun z => z.cells.size) = some 3 := by kernel_rfl
theorem tb_fo74_1 : fieldO Tryz.prog 74 1 = some 4 := by kernel_rfl
theorem tb_c54 : callB Tryz.prog 54 = true := by kernel_rfl
theorem tb_c53 : callB Tryz.prog 53 = true := by kernel_rfl
theorem tb_c56 : callB Tryz.prog 56 = true := by kernel_rfl
theorem tb_sc9 : scalarB Tryz.prog 9 = true := by kernel_rfl
theorem tb_fo74_2 : fieldO Tryz.prog 74 2 = some 5 := by kernel_rfl
theorem tb_c57 : callB Tryz.prog 57 = true := by kernel_rfl
theorem tb_z24 : zeroI Tryz.prog 24 = some (.agg #[.int .i64 0, .int .i64 0, .int .i64 0, .slice none 0 0]) := by kernel_rfl
theorem tb_size3 : (Tryz.prog.info? 3).map (·.size) = some 1 := by kernel_rfl
theorem tb_size22 : (Tryz.prog.info? 22).map (·.size) = some 1 := by kernel_rfl
theorem tb_build24_ {f : Nat → Value} {w : World} {d : Option Nat} {ty : TypeId} {ps : String} {af : Array Edge} {g : Option (Nat × Bool)}    :
    (execOp (evF f) ⟨d, .build 24 #[], ty, ps, af, g⟩).run Tryz.prog w = .ok (.value (.agg #[.int .i64 0, .int .i64 0, .int .i64 0, .slice none 0 0])) w := by
  obtain ⟨i0, hi0, hz0⟩ := Option.bind_eq_some_iff.1 (show (Tryz.prog.info? 24).bind (·.zero) = _ from tb_z24)
  obtain ⟨j3, hj3, hs3⟩ := Option.map_eq_some_iff.1 tb_size3
  obtain ⟨j22, hj22, hs22⟩ := Option.map_eq_some_iff.1 tb_size22
  simp [execOp, Instr.build, zeroValue, typeInfo, sizeOf, hi0, hz0, run_underlying Tryz.underlying24, Instr.fill, cells_agg, hj3, hs3, hj22, hs22]
theorem tb_ag24 : aggN Tryz.prog 24 = some 4 := by kernel_rfl
theorem tb_build24_0 {f : Nat → Value} {w : World} {d : Option Nat} {ty : TypeId} {ps : String} {af : Array Edge} {g : Option (Nat × Bool)} {x0 : Operand} {c0_0 : Value} (h0 : evF f x0 = c0_0) (k0 : c0_0.cells = #[c0_0]) :
    (execOp (evF f) ⟨d, .build 24 #[(0, x0)], ty, ps, af, g⟩).run Tryz.prog w = .ok (.value (.agg #[c0_0, .int .i64 0, .int .i64 0, .slice none 0 0])) w := by
  obtain ⟨i0, hi0, hz0⟩ := Option.bind_eq_some_iff.1 (show (Tryz.prog.info? 24).bind (·.zero) = _ from tb_z24)
  obtain ⟨j3, hj3, hs3⟩ := Option.map_eq_some_iff.1 tb_size3
  obtain ⟨j22, hj22, hs22⟩ := Option.map_eq_some_iff.1 tb_size22
  simp [execOp, h0, k0, Instr.build, zeroValue, typeInfo, sizeOf, hi0, hz0, run_underlying Tryz.underlying24, Instr.fill, cells_agg, hj3, hs3, hj22, hs22]
theorem tb_z74 : zeroI Tryz.prog 74 = some (.agg #[.int .i64 0, .int .i64 0, .int .i64 0, .slice none 0 0, .int .i64 0, .int .i64 0]) := by kernel_rfl
theorem tb_size24 : (Tryz.prog.info? 24).map (·.size) = some 4 := by kernel_rfl
theorem tb_build74_0_2 {f : Nat → Value} {w : World} {d : Option Nat} {ty : TypeId} {ps : String} {af : Array Edge} {g : Option (Nat × Bool)} {x0 x1 : Operand} {c0_0 c0_1 c0_2 c0_3 c1_0 : Value} (h0 : evF f x0 = .agg #[c0_0, c0_1, c0_2, c0_3]) (h1 : evF f x1 = c1_0) (k1 : c1_0.cells = #[c1_0]) :
    (execOp (evF f) ⟨d, .build 74 #[(0, x0), (2, x1)], ty, ps, af, g⟩).run Tryz.prog w = .ok (.value (.agg #[c0_0, c0_1, c0_2, c0_3, .int .i64 0, c1_0])) w := by
  obtain ⟨i0, hi0, hz0⟩ := Option.bind_eq_some_iff.1 (show (Tryz.prog.info? 74).bind (·.zero) = _ from tb_z74)
  obtain ⟨j3, hj3, hs3⟩ := Option.map_eq_some_iff.1 tb_size3
  obtain ⟨j24, hj24, hs24⟩ := Option.map_eq_some_iff.1 tb_size24
  simp [execOp, h0, h1, k1, Instr.build, zeroValue, typeInfo, sizeOf, hi0, hz0, run_underlying Tryz.underlying74, Instr.fill, cells_agg, hj3, hs3, hj24, hs24]
theorem tb_c35 : callB Tryz.prog 35 = true := by kernel_rfl
theorem tb_c36 : callB Tryz.prog 36 = true := by kernel_rfl

theorem C___pla_reader__row (N br : Nat) (r : Rd) (line : List UInt8) (w : World) (hN0 : N ≤ w.heap.size) (hgl : ∀ W, Below N w W → Gl W) (hl : line.length ≤ 10000) (lob : N ≤ br) (h64 : r.T.ls.length ≤ 64) (hR : RdAt 74 44 3 N w br (r)) :
    FnG Tryz.prog 57 #[.pointer (some ⟨br, 0, none⟩), keyW line] w fun v w' => Dx 44 N [br] w w' ∧ ((rowOk r.T.ni r.T.no line = true ∧ v = .bool true ∧ RdAt 74 44 3 N w' br (⟨{ r.T with ls := r.T.ls ++ [rowL line] }, r.st, r.told⟩)) ∨ (rowOk r.T.ni r.T.no line = false ∧ v = .bool false ∧ RdAt 74 44 3 N w' br (r))) := by
 refine FnG_intro (n := 88) Tryz.func57 rfl rfl (Nat.le_of_ble_eq_true rfl) ?_
 have hB : Below N w w := Below.refl _ _
 have hX : Dx 44 N [br] w w := Dx.refl
 obtain ⟨lv, vs, hrd, hlv, hls⟩ := hR
 have hlen := hls.len
 have hbl := (cut_len line [32]).2
 refine Zr <| Zb rfl <| WL_nil <| Zr <| Zw (.string _) rfl <| ZC tb_c71 (C_strings_Cut _ _ _ (hgl _ hB) (by first | assumption | omega | (simp; omega) | simp)) rfl fun v1_1 W5 hE6 hP1_1 => ?_
 replace hrd := hE6.at hrd
 replace hlv := hE6.ow hlv
 replace hls := LsO.ext hE6 hls
 replace hX := Dx.trans hX (Dx.ext hE6)
 replace hB := below_ext hB hE6 hN0
 obtain rfl := hP1_1
 refine Zw (.tuple #[.string _, .string _, .bool _]) rfl <| Zv (r_ext3_0 rfl) <| Zv (r_ext3_1 rfl) <| Zv (r_ext3_2 rfl) <| Zw (.string _) rfl <| Zw (.string _) rfl <| Zb rfl <| WL_nil ?_
 have hBo10 := hB
 replace hB := Below.refl W5.heap.size W5
 refine Zr <| Zw (.string _) rfl <| ZC tb_c72 (C_cube_Parse _ _) rfl fun v2_1 W11 hE12 hP2_1 => ?_
 replace hB := Ze hB hE12
 by_cases hcub2_1 : cubOk (Lib.cut line [32]).1 = true
 rw [if_pos hcub2_1] at hP2_1
 obtain rfl := hP2_1
 refine Zw (.tuple #[.agg #[_, _], .int .i64 0]) rfl <| Zv (r_ext2_0 rfl) <| Zv (r_ext2_1 rfl) <| Zy (Y_alloc tb_z41 rfl fun b2_5 W14 hb15 hE16 hm2_5 => ?_)
 have lo_b2_5 := ZO hb15 hB
 clear hb15
 replace hB := Ze hB hE16
 refine Zy (Y_storeW rfl rfl tb_ag41 rfl hm2_5 rfl rfl fun W17 hG18 hm19 => ?_)
 replace hB := Zg hB hG18 lo_b2_5
 replace hm2_5 := hm19
 refine Zi rfl <| WL_nil <| WC_seq fun K20 hK21 => Zr <| Zb rfl <| Zv (r_not rfl) <| ZX rfl (fun hs3_2 => ?_) fun hs3_2 => ?_
 refine Zs <| Zs <| Zb rfl <| Zb rfl <| Zs <| Zs <| Zs <| Zs <| Zs <| Zs <| Zs <| Zs <| Zb rfl <| Zb rfl ?_
 refine Zs <| Zs <| Zs <| Zs <| Zs <| Zs <| Zs <| Zs <| Zb rfl <| WL_nil <| WC_cond_true rfl <| Zr <| Zb rfl <| WL_nil ?_
 refine WC_ret ?_
 replace hrd := Below.atI hB hrd
 replace hlv := Below.ow hB hlv
 replace hls := LsO.below hB hls
 replace hX := Dx.trans hX (Dx.below hB)
 have hzs := Nat.le_trans hN0 (Below.size hBo10)
 replace hB := Below.trans hBo10 (Below.mono hB hzs)
 clear hBo10 hzs
 repeat (first | refine thenQ_ret ?_ | refine blockQ_ret ?_)
 refine ret_t (v := .bool false) rfl ?_
 refine ⟨hX, .inr ⟨?_, rfl, ⟨lv, vs, hrd, hlv, hls⟩⟩⟩
 first | exact row_n1 hs3_2 | exact row_n2 hcub2_1 | exact row_n3 hs3_16 | exact row_n4 hc0 | exact row_n5 hlt7_0 (rune_no hrr7_0 hc3 hc2 hc4)
 refine Zi rfl <| Zv (r_neq rfl rfl) <| Zb rfl <| ZX rfl (fun hs3_6 => ?_) fun hs3_6 => ?_
 exact (hs3_6 rfl).elim
 refine Zw (.string _) rfl <| Zv (r_lenW rfl Tryz.underlying9) <| Zp rfl <| Zc rfl <| Zf rfl tb_fo74_0 <| Zf rfl tb_fo24_1 <| Zl rfl tb_sc3 (Below.atI hB hrd) rfl <| Zv (r_neq rfl rfl) <| Zb rfl <| ZX rfl (fun hs3_16 => ?_) fun hs3_16 => ?_
 refine Zs <| Zs <| Zs <| Zs <| Zs <| Zs <| Zs <| Zs <| Zb rfl <| WL_nil <| WC_cond_true rfl <| Zr <| Zb rfl <| WL_nil ?_
 refine WC_ret ?_
 replace hrd := Below.atI hB hrd
 replace hlv := Below.ow hB hlv
 replace hls := LsO.below hB hls
 replace hX := Dx.trans hX (Dx.below hB)
 have hzs := Nat.le_trans hN0 (Below.size hBo10)
 replace hB := Below.trans hBo10 (Below.mono hB hzs)
 clear hBo10 hzs
 repeat (first | refine thenQ_ret ?_ | refine blockQ_ret ?_)
 refine ret_t (v := .bool false) rfl ?_
 refine ⟨hX, .inr ⟨?_, rfl, ⟨lv, vs, hrd, hlv, hls⟩⟩⟩
 first | exact row_n1 hs3_2 | exact row_n2 hcub2_1 | exact row_n3 hs3_16 | exact row_n4 hc0 | exact row_n5 hlt7_0 (rune_no hrr7_0 hc3 hc2 hc4)
 refine Zw (.string _) rfl <| Zv (r_lenW rfl Tryz.underlying9) <| Zp rfl <| Zc rfl <| Zf rfl tb_fo74_0 <| Zf rfl tb_fo24_2 <| Zl rfl tb_sc3 (Below.atI hB hrd) rfl <| Zv (r_neq rfl rfl) <| Zb rfl <| WL_nil <| ZQ rfl (fun hc0 => ?_) fun hc0 => ?_
 refine Zr <| Zb rfl <| WL_nil ?_
 refine WC_ret ?_
 replace hrd := Below.atI hB hrd
 replace hlv := Below.ow hB hlv
 replace hls := LsO.below hB hls
 replace hX := Dx.trans hX (Dx.below hB)
 have hzs := Nat.le_trans hN0 (Below.size hBo10)
 replace hB := Below.trans hBo10 (Below.mono hB hzs)
 clear hBo10 hzs
 repeat (first | refine thenQ_ret ?_ | refine blockQ_ret ?_)
 refine ret_t (v := .bool false) rfl ?_
 refine ⟨hX, .inr ⟨?_, rfl, ⟨lv, vs, hrd, hlv, hls⟩⟩⟩
 first | exact row_n1 hs3_2 | exact row_n2 hcub2_1 | exact row_n3 hs3_16 | exact row_n4 hc0 | exact row_n5 hlt7_0 (rune_no hrr7_0 hc3 hc2 hc4)
 refine WC_skip <| hK21 _ _ <| Zr <| Zv (r_loadW rfl tb_ag41 rfl hm2_5) <| Zv (tb_build44_0 (h0 := rfl) ) <| Zy (Y_alloc tb_z44 rfl fun b5_2 W32 hb33 hE34 hm5_2 => ?_)
 have lo_b5_2 := ZO hb33 hB
 have no35 := OwT.neB (b := b5_2) (Below.ow hB hlv) (Nat.le_of_eq hb33.symm)
 clear hb33
 replace hB := Ze hB hE34
 replace hm2_5 := hE34.at hm2_5
 refine Zy (Y_storeW rfl rfl tb_ag44 rfl hm5_2 rfl rfl fun W36 hG37 hm38 => ?_)
 replace hB := Zg hB hG37 lo_b5_2
 replace hm2_5 := At.grownAt hm2_5 hm5_2 hG37 Dc
 replace hm5_2 := hm38
 refine WL_nil <| WC_seq fun K39 hK40 => Zr <| Zw (.string _) rfl <| Zy (Y_rangeW rfl Tryz.underlying9 fun b6_1 W43 hb44 hE45 hm6_1 => ?_)
 have lo_b6_1 := ZO hb44 hB
 clear hb44
 replace hB := Ze hB hE45
 replace hm2_5 := hE45.at hm2_5
 replace hm5_2 := hE45.at hm5_2
 refine WL_nil <| WC_block ?_
 refine WC_loop (σ := (Nat) × (Value)) [4, 12, 54, 55, 56, 57, 58, 59, 60, 61, 62, 63, 64, 65, 66, 67, 68, 69, 70, 71, 72, 73, 74, 75] (fun (i, ov) => []) (fun sg W => match sg with | (i, ov) => (Below W5.heap.size W5 W) ∧ (At W b2_5 _ 41) ∧ (ItW W b6_1 (Lib.cut line [32]).2.1 i) ∧ (At W b5_2 #[.int .u8 ((cubT (Lib.cut line [32]).1).m : Int), .int .u8 ((cubT (Lib.cut line [32]).1).v : Int), ov] 44) ∧ (OwT encI 1 3 W W5.heap.size ov (outsR ((Lib.cut line [32]).2.1.take i))) ∧ (i ≤ (Lib.cut line [32]).2.1.length) ∧ (∀ q, q < i → chOk (byN (Lib.cut line [32]).2.1 q) = true) ∧ (True)) (fun (i, ov) => (Lib.cut line [32]).2.1.length - i) ((0, .slice none 0 0)) trivial ⟨hB, hm2_5, hm6_1, hm5_2, OwT.nil, (Nat.zero_le _), upTo_zero, trivial⟩ ?_
 clear hB hm2_5 hm5_2 hm6_1
 rintro ⟨i, ov⟩ g47 W46 ⟨hB, hm2_5, hit, hm5_2, hov, hi, hq, _⟩ J48 hJ49
 refine Zr ?_
 refine WL_step (dd := some 54) rfl rfl rfl (Y_nextW rfl hit (fun hnd7_0 => ?_) (fun rr7_0 nn7_0 W52 hlt7_0 hgt7_0 hrr7_0 hG53 hm54 => ?_))
 refine Zv (r_ext1_0 rfl) <| WL_nil <| WC_seq fun K55 hK56 => WC_cond_false rfl <| WC_exit <| hK40 _ _ ?_
 replace hrd := Below.atI hB hrd
 replace hlv := Below.ow hB hlv
 replace hls := LsO.below hB hls
 replace hX := Dx.trans hX (Dx.below hB)
 have hzs := Nat.le_trans hN0 (Below.size hBo10)
 replace lo_b5_2 := Nat.le_trans hzs lo_b5_2
 replace hov := OwT.mono hov hzs
 replace hB := Below.trans hBo10 (Below.mono hB hzs)
 clear hBo10 hzs
 have hie : i = (Lib.cut line [32]).2.1.length := by omega
 subst hie
 rw [List.take_length] at hov
 refine Zd (fun a b => a.grownBy b lv.ownBlock) fun W59 hE60 => ?_
 replace hrd := hE60.at hrd
 replace hlv := hE60.ow hlv
 replace hls := LsO.ext hE60 hls
 replace hX := Dx.trans hX (Dx.ext hE60)
 replace hB := below_ext hB hE60 hN0
 replace hit := hE60.itW hit
 replace hm5_2 := hE60.at hm5_2
 replace hov := hE60.ow hov
 have hrow61 := hlv
 have hS := World.grownBy.refl W59 lv.ownBlock
 refine Tq 0 rfl rfl hS <| Tq 1 rfl rfl hS <| Tc 2 rfl rfl hS <| Tf 3 rfl rfl tb_fo74_0 hS <| Tf 4 rfl rfl tb_fo24_3 hS <| Tk 5 rfl (fun _ hq => r_load1 (v := lv) rfl tb_sc22 (At.cell (At.grownOw hrd hrow61 hq Dc) rfl)) hS ?_
 refine WT_one (dd := some 82) 6 (by kernel_rfl) rfl rfl rfl rfl (Yd.val (r_loadW rfl tb_ag44 rfl hm5_2) ⟨.inl hS, ?_⟩)
 refine To 7 rfl (Y_lit1 (u := .agg #[_, _, _]) rfl tb_el22 tb_zs44 rfl Dc Dc fun b16_7 W62 hb63 hE64 hm16_7 => ⟨.inl (grownBy_trans hS (Ext.grown hE64 lv.ownBlock)), ?_⟩)
 have lo_b16_7 : N ≤ b16_7 := hb63 ▸ (Nat.le_trans hN0 (Below.size hB))
 have no_lv_b16_7 := OwT.neB (b := b16_7) hlv (Nat.le_of_eq hb63.symm)
 have ne_b5_2_b16_7 := Zn hb63 hm5_2
 clear hb63
 replace hrd := hE64.at hrd
 replace hlv := hE64.ow hlv
 replace hls := LsO.ext hE64 hls
 replace hX := Dx.trans hX (Dx.ext hE64)
 replace hB := below_ext hB hE64 hN0
 replace hit := hE64.itW hit
 replace hm5_2 := hE64.at hm5_2
 replace hov := hE64.ow hov
 replace hS := grownBy_trans hS (Ext.grown hE64 lv.ownBlock)
 refine To 8 rfl (Y_append (v := lv) (v2 := .slice (some ⟨b16_7, 0, none⟩) 1 1) rfl rfl tb_el22 tb_zs44 Dc hlv (sl_lit1 hm16_7 rfl) (one_ln (SlT.one (OwT.sl hov))) (by have := Below.size hB; omega) Om Om fun v16_8 W66 hG67 ho16_8 => ⟨.inl (grownBy_trans hS hG67), ?_⟩)
 replace hS := grownBy_trans hS hG67
 replace ho16_8 := OwT.snoc (enc := encLn) (x := ⟨cubT (Lib.cut line [32]).1, ov⟩) rfl rfl rfl rfl ho16_8
 replace hrd := At.grownOw hrd hlv hG67 Dc
 replace hls := LsO.grownOw hls hlv hG67 Dc
 replace hX := Dx.trans hX (Dx.row hlv hG67)
 replace hB := below_grown hB hG67 hN0 (fun j hj => (OwT.lt hlv j hj))
 replace hit := ItW.grownOw hit hlv hG67
 replace hm5_2 := At.grownOwNe hm5_2 no35 hG67
 replace hov := OwT.grownOw hov hlv hG67 Dc
 clear hlv
 refine Tc 9 rfl rfl hS <| Tf 10 rfl rfl tb_fo74_0 hS <| Tf 11 rfl rfl tb_fo24_3 hS <| To 12 rfl (Y_store1 (v := v16_8) rfl rfl tb_sc22 (SlT.one ho16_8.sl) hrd (by simp) fun W69 hG70 hm71 => ⟨.inr (by kernel_rfl), ?_⟩)
 replace hls := LsO.grownAt hls hrd hG70 Dc
 replace hX := Dx.trans hX (Dx.grown hG70 (by simp) lob)
 replace hB := below_grown hB hG70 hN0 (fun j hj => by cases hj; exact lob)
 replace hit := ItW.grownAt hit hrd hG70
 replace hm5_2 := At.grownAt hm5_2 hrd hG70 Dc
 replace hov := OwT.grownAt hov hrd hG70 Dc
 replace ho16_8 := OwT.grownAt ho16_8 hrd hG70 Dc
 clear hG70 hrd
 replace hrd := hm71
 replace hrd : At _ _ #[_, _, _, _, _, _] _ := hrd
 refine Td <| Zr <| Zb rfl <| WL_nil <| Zt <| ret_t (v := .bool true) rfl ?_
 exact ⟨hX, .inl ⟨row_y hs3_2 hcub2_1 hs3_16 hc0 hq, rfl, ⟨_, _, hrd, ho16_8, LsO.snoc (l := rowL line) hls rfl hov⟩⟩⟩
 replace hB := Zg hB hG53 lo_b6_1
 replace hm2_5 := At.grownItW hm2_5 hit hG53
 replace hm5_2 := At.grownItW hm5_2 hit hG53
 replace hov := OwT.grownItW hov hit hG53
 replace hit := hm54
 refine Zv (r_ext3_0 rfl) <| WL_nil <| WC_seq fun K74 hK75 => WC_cond_true rfl <| WC_skip <| hK75 _ _ <| WC_block <| Zr <| Zv (r_ext3_2 rfl) <| Zi rfl <| WL_nil <| Zr <| Zi rfl <| WL_nil ?_
 refine WC_block <| WC_seq fun K80 hK81 => Zr <| Zv (r_eql rfl rfl) <| Zb rfl <| WL_nil <| ZQ rfl (fun hc2 => ?_) fun hc2 => ?_
 refine WC_skip <| hK81 _ _ <| ZQ rfl (fun hc3 => ?_) fun hc3 => ?_
 refine WC_region <| Zf rfl tb_fo44_1 <| ZL ov rfl tb_sc42 hm5_2 rfl <| Zi rfl <| Zv (r_subN32 (n := 48) rfl rfl rfl Om Om) <| Zv (r_convN rfl Tryz.underlying21 Tryz.underlying3 (by simp only [topN]; omega)) <| Zy (Y_lit1 (u := .int .i64 _) rfl tb_el42 tb_zs3 rfl Dc Dc fun b13_5 W84 hb85 hE86 hm13_5 => ?_)
 have lo_b13_5 := ZO hb85 hB
 have no_ov_b13_5 := OwT.neB (b := b13_5) hov (Nat.le_of_eq hb85.symm)
 clear hb85
 replace hB := Ze hB hE86
 replace hm2_5 := hE86.at hm2_5
 replace hit := hE86.itW hit
 replace hm5_2 := hE86.at hm5_2
 replace hov := hE86.ow hov
 refine Zy (Y_append (v := ov) (v2 := .slice (some ⟨b13_5, 0, none⟩) 1 1) rfl rfl tb_el42 tb_zs3 Dc hov (sl_lit1 hm13_5 rfl) rfl (by have := Below.size hB; omega) (by rw [outsR_len, List.length_take]; omega) (by rw [outsR_len, List.length_take]; omega) fun v13_6 W87 hG88 ho13_6 => ?_)
 replace ho13_6 := OwT.snoc (enc := encI) (x := _) rfl rfl rfl rfl ho13_6
 replace hB := ZG hB hG88 hov
 replace hm2_5 := At.grownOw hm2_5 hov hG88 Dc
 replace hit := ItW.grownOw hit hov hG88
 replace hm5_2 := At.grownOw hm5_2 hov hG88 Dc
 clear hov
 refine Zf rfl tb_fo44_1 <| Zy (Y_store1 (v := v13_6) rfl rfl tb_sc42 (SlT.one ho13_6.sl) hm5_2 (by simp) fun W90 hG91 hm92 => ?_)
 replace hB := Zg hB hG91 lo_b5_2
 replace hm2_5 := At.grownAt hm2_5 hm5_2 hG91 Dc
 replace hit := ItW.grownAt hit hm5_2 hG91
 replace ho13_6 := OwT.grownAt ho13_6 hm5_2 hG91 Dc
 replace hm5_2 := hm92
 replace hm5_2 : At _ _ #[_, _, _] _ := hm5_2
 refine WL_nil ?_
 have hbn : (byN (Lib.cut line [32]).2.1 i = 49 ∨ byN (Lib.cut line [32]).2.1 i = 48 ∨ byN (Lib.cut line [32]).2.1 i = 45) ∧ nn7_0 = i + 1 := by omega
 obtain ⟨hb0, hn⟩ := hbn
 subst hn
 refine hJ49 _ _ ((i + 1, v13_6)) ?_ ?_ ?_ ?_
 · repeat (first | exact agree.mask _ _ _ | refine agree.updo ?_ rfl _ | refine agree.updL ?_ _ rfl | refine agree.maskS rfl ?_)
 · exact trivial
 · exact ⟨hB, hm2_5, hit, (by exact hm5_2), (by first | (rw [outsR_snoc (by omega) (outR_a (r := rr7_0) (by omega) (by omega))]; exact ho13_6) | (rw [outsR_snoc (by omega) (outR_b (by omega))]; exact ho13_6)), (by omega), (upTo_succ hq (ch_of hb0)), trivial⟩
 · show (Lib.cut line [32]).2.1.length - (i + 1) < (Lib.cut line [32]).2.1.length - i; omega
 exact absurd hc2 hc3
 refine WC_region <| Zv (r_eql rfl rfl) <| Zb rfl <| WL_nil <| hK81 _ _ <| ZQ rfl (fun hc3 => ?_) fun hc3 => ?_
 refine WC_region <| Zf rfl tb_fo44_1 <| ZL ov rfl tb_sc42 hm5_2 rfl <| Zi rfl <| Zv (r_subN32 (n := 48) rfl rfl rfl Om Om) <| Zv (r_convN rfl Tryz.underlying21 Tryz.underlying3 (by simp only [topN]; omega)) <| Zy (Y_lit1 (u := .int .i64 _) rfl tb_el42 tb_zs3 rfl Dc Dc fun b13_5 W93 hb94 hE95 hm13_5 => ?_)
 have lo_b13_5 := ZO hb94 hB
 have no_ov_b13_5 := OwT.neB (b := b13_5) hov (Nat.le_of_eq hb94.symm)
 clear hb94
 replace hB := Ze hB hE95
 replace hm2_5 := hE95.at hm2_5
 replace hit := hE95.itW hit
 replace hm5_2 := hE95.at hm5_2
 replace hov := hE95.ow hov
 refine Zy (Y_append (v := ov) (v2 := .slice (some ⟨b13_5, 0, none⟩) 1 1) rfl rfl tb_el42 tb_zs3 Dc hov (sl_lit1 hm13_5 rfl) rfl (by have := Below.size hB; omega) (by rw [outsR_len, List.length_take]; omega) (by rw [outsR_len, List.length_take]; omega) fun v13_6 W96 hG97 ho13_6 => ?_)
 replace ho13_6 := OwT.snoc (enc := encI) (x := _) rfl rfl rfl rfl ho13_6
 replace hB := ZG hB hG97 hov
 replace hm2_5 := At.grownOw hm2_5 hov hG97 Dc
 replace hit := ItW.grownOw hit hov hG97
 replace hm5_2 := At.grownOw hm5_2 hov hG97 Dc
 clear hov
 refine Zf rfl tb_fo44_1 <| Zy (Y_store1 (v := v13_6) rfl rfl tb_sc42 (SlT.one ho13_6.sl) hm5_2 (by simp) fun W99 hG100 hm101 => ?_)
 replace hB := Zg hB hG100 lo_b5_2
 replace hm2_5 := At.grownAt hm2_5 hm5_2 hG100 Dc
 replace hit := ItW.grownAt hit hm5_2 hG100
 replace ho13_6 := OwT.grownAt ho13_6 hm5_2 hG100 Dc
 replace hm5_2 := hm101
 replace hm5_2 : At _ _ #[_, _, _] _ := hm5_2
 refine WL_nil ?_
 have hbn : (byN (Lib.cut line [32]).2.1 i = 49 ∨ byN (Lib.cut line [32]).2.1 i = 48 ∨ byN (Lib.cut line [32]).2.1 i = 45) ∧ nn7_0 = i + 1 := by omega
 obtain ⟨hb0, hn⟩ := hbn
 subst hn
 refine hJ49 _ _ ((i + 1, v13_6)) ?_ ?_ ?_ ?_
 · repeat (first | exact agree.mask _ _ _ | refine agree.updo ?_ rfl _ | refine agree.updL ?_ _ rfl | refine agree.maskS rfl ?_)
 · exact trivial
 · exact ⟨hB, hm2_5, hit, (by exact hm5_2), (by first | (rw [outsR_snoc (by omega) (outR_a (r := rr7_0) (by omega) (by omega))]; exact ho13_6) | (rw [outsR_snoc (by omega) (outR_b (by omega))]; exact ho13_6)), (by omega), (upTo_succ hq (ch_of hb0)), trivial⟩
 · show (Lib.cut line [32]).2.1.length - (i + 1) < (Lib.cut line [32]).2.1.length - i; omega
 refine Zr <| Zv (r_eql rfl rfl) <| Zb rfl <| WL_nil <| ZQ rfl (fun hc4 => ?_) fun hc4 => ?_
 refine WC_region <| Zf rfl tb_fo44_1 <| ZL ov rfl tb_sc42 hm5_2 rfl <| Zy (Y_lit1 (u := .int .i64 2) rfl tb_el42 tb_zs3 rfl Dc Dc fun b15_2 W104 hb105 hE106 hm15_2 => ?_)
 have lo_b15_2 := ZO hb105 hB
 have no_ov_b15_2 := OwT.neB (b := b15_2) hov (Nat.le_of_eq hb105.symm)
 clear hb105
 replace hB := Ze hB hE106
 replace hm2_5 := hE106.at hm2_5
 replace hit := hE106.itW hit
 replace hm5_2 := hE106.at hm5_2
 replace hov := hE106.ow hov
 refine Zy (Y_append (v := ov) (v2 := .slice (some ⟨b15_2, 0, none⟩) 1 1) rfl rfl tb_el42 tb_zs3 Dc hov (sl_lit1 hm15_2 rfl) rfl (by have := Below.size hB; omega) (by rw [outsR_len, List.length_take]; omega) (by rw [outsR_len, List.length_take]; omega) fun v15_3 W107 hG108 ho15_3 => ?_)
 replace ho15_3 := OwT.snoc (enc := encI) (x := _) rfl rfl rfl rfl ho15_3
 replace hB := ZG hB hG108 hov
 replace hm2_5 := At.grownOw hm2_5 hov hG108 Dc
 replace hit := ItW.grownOw hit hov hG108
 replace hm5_2 := At.grownOw hm5_2 hov hG108 Dc
 clear hov
 refine Zf rfl tb_fo44_1 <| Zy (Y_store1 (v := v15_3) rfl rfl tb_sc42 (SlT.one ho15_3.sl) hm5_2 (by simp) fun W110 hG111 hm112 => ?_)
 replace hB := Zg hB hG111 lo_b5_2
 replace hm2_5 := At.grownAt hm2_5 hm5_2 hG111 Dc
 replace hit := ItW.grownAt hit hm5_2 hG111
 replace ho15_3 := OwT.grownAt ho15_3 hm5_2 hG111 Dc
 replace hm5_2 := hm112
 replace hm5_2 : At _ _ #[_, _, _] _ := hm5_2
 refine WL_nil ?_
 have hbn : (byN (Lib.cut line [32]).2.1 i = 49 ∨ byN (Lib.cut line [32]).2.1 i = 48 ∨ byN (Lib.cut line [32]).2.1 i = 45) ∧ nn7_0 = i + 1 := by omega
 obtain ⟨hb0, hn⟩ := hbn
 subst hn
 refine hJ49 _ _ ((i + 1, v15_3)) ?_ ?_ ?_ ?_
 · repeat (first | exact agree.mask _ _ _ | refine agree.updo ?_ rfl _ | refine agree.updL ?_ _ rfl | refine agree.maskS rfl ?_)
 · exact trivial
 · exact ⟨hB, hm2_5, hit, (by exact hm5_2), (by first | (rw [outsR_snoc (by omega) (outR_a (r := rr7_0) (by omega) (by omega))]; exact ho15_3) | (rw [outsR_snoc (by omega) (outR_b (by omega))]; exact ho15_3)), (by omega), (upTo_succ hq (ch_of hb0)), trivial⟩
 · show (Lib.cut line [32]).2.1.length - (i + 1) < (Lib.cut line [32]).2.1.length - i; omega
 refine Zr <| Zb rfl <| WL_nil ?_
 refine WC_ret ?_
 replace hrd := Below.atI hB hrd
 replace hlv := Below.ow hB hlv
 replace hls := LsO.below hB hls
 replace hX := Dx.trans hX (Dx.below hB)
 have hzs := Nat.le_trans hN0 (Below.size hBo10)
 replace lo_b5_2 := Nat.le_trans hzs lo_b5_2
 replace hov := OwT.mono hov hzs
 replace hB := Below.trans hBo10 (Below.mono hB hzs)
 clear hBo10 hzs
 repeat (first | refine thenQ_ret ?_ | refine blockQ_ret ?_)
 refine ret_t (v := .bool false) rfl ?_
 refine ⟨hX, .inr ⟨?_, rfl, ⟨lv, vs, hrd, hlv, hls⟩⟩⟩
 first | exact row_n1 hs3_2 | exact row_n2 hcub2_1 | exact row_n3 hs3_16 | exact row_n4 hc0 | exact row_n5 hlt7_0 (rune_no hrr7_0 hc3 hc2 hc4)
 rw [if_neg hcub2_1] at hP2_1
 obtain rfl := hP2_1
 refine Zw (.tuple #[.agg #[_, _], .int .i64 2]) rfl <| Zv (r_ext2_0 rfl) <| Zv (r_ext2_1 rfl) <| Zy (Y_alloc tb_z41 rfl fun b2_5 W115 hb116 hE117 hm2_5 => ?_)
 have lo_b2_5 := ZO hb116 hB
 clear hb116
 replace hB := Ze hB hE117
 refine Zy (Y_storeW rfl rfl tb_ag41 rfl hm2_5 rfl rfl fun W118 hG119 hm120 => ?_)
 replace hB := Zg hB hG119 lo_b2_5
 replace hm2_5 := hm120
 refine Zi rfl <| WL_nil <| WC_seq fun K121 hK122 => Zr <| Zb rfl <| Zv (r_not rfl) <| ZX rfl (fun hs3_2 => ?_) fun hs3_2 => ?_
 refine Zs <| Zs <| Zb rfl <| Zb rfl <| Zs <| Zs <| Zs <| Zs <| Zs <| Zs <| Zs <| Zs <| Zb rfl <| Zb rfl ?_
 refine Zs <| Zs <| Zs <| Zs <| Zs <| Zs <| Zs <| Zs <| Zb rfl <| WL_nil <| WC_cond_true rfl <| Zr <| Zb rfl <| WL_nil ?_
 refine WC_ret ?_
 replace hrd := Below.atI hB hrd
 replace hlv := Below.ow hB hlv
 replace hls := LsO.below hB hls
 replace hX := Dx.trans hX (Dx.below hB)
 have hzs := Nat.le_trans hN0 (Below.size hBo10)
 replace hB := Below.trans hBo10 (Below.mono hB hzs)
 clear hBo10 hzs
 repeat (first | refine thenQ_ret ?_ | refine blockQ_ret ?_)
 refine ret_t (v := .bool false) rfl ?_
 refine ⟨hX, .inr ⟨?_, rfl, ⟨lv, vs, hrd, hlv, hls⟩⟩⟩
 first | exact row_n1 hs3_2 | exact row_n2 hcub2_1 | exact row_n3 hs3_16 | exact row_n4 hc0 | exact row_n5 hlt7_0 (rune_no hrr7_0 hc3 hc2 hc4)
 refine Zi rfl <| Zv (r_neq rfl rfl) <| Zb rfl <| ZX rfl (fun hs3_6 => ?_) fun hs3_6 => ?_
 refine Zs <| Zs <| Zs <| Zs <| Zs <| Zs <| Zs <| Zs <| Zb rfl <| Zb rfl <| Zs <| Zs <| Zs <| Zs ?_
 refine Zs <| Zs <| Zs <| Zs <| Zb rfl <| WL_nil <| WC_cond_true rfl <| Zr <| Zb rfl <| WL_nil ?_
 refine WC_ret ?_
 replace hrd := Below.atI hB hrd
 replace hlv := Below.ow hB hlv
 replace hls := LsO.below hB hls
 replace hX := Dx.trans hX (Dx.below hB)
 have hzs := Nat.le_trans hN0 (Below.size hBo10)
 replace hB := Below.trans hBo10 (Below.mono hB hzs)
 clear hBo10 hzs
 repeat (first | refine thenQ_ret ?_ | refine blockQ_ret ?_)
 refine ret_t (v := .bool false) rfl ?_
 refine ⟨hX, .inr ⟨?_, rfl, ⟨lv, vs, hrd, hlv, hls⟩⟩⟩
 first | exact row_n1 hs3_2 | exact row_n2 hcub2_1 | exact row_n3 hs3_16 | exact row_n4 hc0 | exact row_n5 hlt7_0 (rune_no hrr7_0 hc3 hc2 hc4)
 exact absurd hs3_6 Dc

theorem C___pla_reader__take (N br : Nat) (r : Rd) (line : List UInt8) (w : World) (hN0 : N ≤ w.heap.size) (hgl : ∀ W, Below N w W → Gl W) (hl : line.length ≤ 10000) (lob : N ≤ br) (h64 : r.T.ls.length ≤ 64) (hR : RdAt 74 44 3 N w br (r)) :
    FnG Tryz.prog 36 #[.pointer (some ⟨br, 0, none⟩), keyW line] w fun v w' => Dx 44 N [br] w w' ∧ v = .int .i64 (takeT r line).2 ∧ RdAt 74 44 3 N w' br ((takeT r line).1) := by
 refine FnG_intro (n := 154) Tryz.func36 rfl rfl (Nat.le_of_ble_eq_true rfl) ?_
 have hB : Below N w w := Below.refl _ _
 have hX : Dx 44 N [br] w w := Dx.refl
 obtain ⟨lv, vs, hrd, hlv, hls⟩ := hR
 have hlen := hls.len
 refine Zr <| Zi rfl <| WL_nil <| Zr <| Zw (.func (.func 53) #[] #[]) rfl <| WL_nil <| WC_seq fun K5 hK6 => Zr <| Zp rfl <| Zc rfl <| Zf rfl tb_fo74_1 <| Zl rfl tb_sc3 hrd rfl <| WL_nil <| WC_block ?_
 refine Zr <| Zv (r_eql rfl rfl) <| Zb rfl <| WL_nil <| ZQ rfl (fun hc0 => ?_) fun hc0 => ?_
 refine Zr <| Zp rfl <| Zw (.string _) rfl <| ZC tb_c54 (C_pla_number _ _ _ _ _ (hgl _ hB) (by first | assumption | omega | (simp; omega) | simp) (by first | assumption | omega | (simp; omega) | simp) (by first | assumption | omega)) rfl fun v4_2 W13 hE14 hP4_2 => ?_
 replace hrd := hE14.at hrd
 replace hlv := hE14.ow hlv
 replace hls := LsO.ext hE14 hls
 replace hX := Dx.trans hX (Dx.ext hE14)
 replace hB := below_ext hB hE14 hN0
 obtain rfl := hP4_2
 refine Zc rfl <| Zf rfl tb_fo74_0 <| Zf rfl tb_fo24_1 <| Zy (Y_store1 (v := .int .i64 _) rfl rfl tb_sc3 rfl hrd (by simp) fun W16 hG17 hm18 => ?_)
 replace hlv := OwT.grownAt hlv hrd hG17 Dc
 replace hls := LsO.grownAt hls hrd hG17 Dc
 replace hX := Dx.trans hX (Dx.grown hG17 (by simp) lob)
 replace hB := below_grown hB hG17 hN0 (fun j hj => by cases hj; exact lob)
 clear hG17 hrd
 replace hrd := hm18
 replace hrd : At _ _ #[_, _, _, _, _, _] _ := hrd
 refine WL_nil <| Zr <| Zp rfl <| Zc rfl <| Zf rfl tb_fo74_1 <| Zl rfl tb_sc3 hrd rfl <| Zv (r_addI rfl rfl Om Om) <| Zc rfl <| Zf rfl tb_fo74_1 <| Zy (Y_store1 (v := .int .i64 _) rfl rfl tb_sc3 rfl hrd (by simp) fun W21 hG22 hm23 => ?_)
 replace hlv := OwT.grownAt hlv hrd hG22 Dc
 replace hls := LsO.grownAt hls hrd hG22 Dc
 replace hX := Dx.trans hX (Dx.grown hG22 (by simp) lob)
 replace hB := below_grown hB hG22 hN0 (fun j hj => by cases hj; exact lob)
 clear hG22 hrd
 replace hrd := hm23
 replace hrd : At _ _ #[_, _, _, _, _, _] _ := hrd
 refine WL_nil <| Zr <| Zw (.func (.func 53) #[] #[]) rfl <| Zp rfl <| Zc rfl <| Zf rfl tb_fo74_0 <| Zf rfl tb_fo24_1 <| Zl rfl tb_sc3 hrd rfl <| Zv (r_geq rfl rfl) ?_
 refine WL_call (dd := some 38) rfl rfl rfl (r_call (q := 53) (first := #[]) (cap := #[]) (vs := #[.bool _]) rfl tb_c53 (by simp only [List.map_toArray, List.map_cons, List.map_nil, List.append_toArray, List.nil_append, List.cons_append]; rfl)) (C___pla_reader__take_1 _ _) (fun v6_7 W26 hE27 hP6_7 => ?_)
 replace hrd := hE27.at hrd
 replace hlv := hE27.ow hlv
 replace hls := LsO.ext hE27 hls
 replace hX := Dx.trans hX (Dx.ext hE27)
 replace hB := below_ext hB hE27 hN0
 obtain rfl := hP6_7
 refine Zi rfl <| WL_nil <| Zt <| ret_t (v := .int .i64 _) rfl ?_
 rw [tk_0 hc0]
 exact ⟨hX, rfl, ⟨lv, vs, hrd, hlv, hls⟩⟩
 refine Zr <| Zv (r_eql rfl rfl) <| Zb rfl <| WL_nil <| ZQ rfl (fun hc1 => ?_) fun hc1 => ?_
 refine Zr <| Zp rfl <| Zw (.string _) rfl <| ZC tb_c54 (C_pla_number _ _ _ _ _ (hgl _ hB) (by first | assumption | omega | (simp; omega) | simp) (by first | assumption | omega | (simp; omega) | simp) (by first | assumption | omega)) rfl fun v8_2 W33 hE34 hP8_2 => ?_
 replace hrd := hE34.at hrd
 replace hlv := hE34.ow hlv
 replace hls := LsO.ext hE34 hls
 replace hX := Dx.trans hX (Dx.ext hE34)
 replace hB := below_ext hB hE34 hN0
 obtain rfl := hP8_2
 refine Zc rfl <| Zf rfl tb_fo74_0 <| Zf rfl tb_fo24_2 <| Zy (Y_store1 (v := .int .i64 _) rfl rfl tb_sc3 rfl hrd (by simp) fun W36 hG37 hm38 => ?_)
 replace hlv := OwT.grownAt hlv hrd hG37 Dc
 replace hls := LsO.grownAt hls hrd hG37 Dc
 replace hX := Dx.trans hX (Dx.grown hG37 (by simp) lob)
 replace hB := below_grown hB hG37 hN0 (fun j hj => by cases hj; exact lob)
 clear hG37 hrd
 replace hrd := hm38
 replace hrd : At _ _ #[_, _, _, _, _, _] _ := hrd
 refine WL_nil <| Zr <| Zp rfl <| Zc rfl <| Zf rfl tb_fo74_1 <| Zl rfl tb_sc3 hrd rfl <| Zv (r_addI rfl rfl Om Om) <| Zc rfl <| Zf rfl tb_fo74_1 <| Zy (Y_store1 (v := .int .i64 _) rfl rfl tb_sc3 rfl hrd (by simp) fun W41 hG42 hm43 => ?_)
 replace hlv := OwT.grownAt hlv hrd hG42 Dc
 replace hls := LsO.grownAt hls hrd hG42 Dc
 replace hX := Dx.trans hX (Dx.grown hG42 (by simp) lob)
 replace hB := below_grown hB hG42 hN0 (fun j hj => by cases hj; exact lob)
 clear hG42 hrd
 replace hrd := hm43
 replace hrd : At _ _ #[_, _, _, _, _, _] _ := hrd
 refine WL_nil <| Zr <| Zw (.func (.func 53) #[] #[]) rfl <| Zp rfl <| Zc rfl <| Zf rfl tb_fo74_0 <| Zf rfl tb_fo24_2 <| Zl rfl tb_sc3 hrd rfl <| Zv (r_geq rfl rfl) ?_
 refine WL_call (dd := some 61) rfl rfl rfl (r_call (q := 53) (first := #[]) (cap := #[]) (vs := #[.bool _]) rfl tb_c53 (by simp only [List.map_toArray, List.map_cons, List.map_nil, List.append_toArray, List.nil_append, List.cons_append]; rfl)) (C___pla_reader__take_1 _ _) (fun v10_7 W46 hE47 hP10_7 => ?_)
 replace hrd := hE47.at hrd
 replace hlv := hE47.ow hlv
 replace hls := LsO.ext hE47 hls
 replace hX := Dx.trans hX (Dx.ext hE47)
 replace hB := below_ext hB hE47 hN0
 obtain rfl := hP10_7
 refine Zi rfl <| WL_nil <| Zt <| ret_t (v := .int .i64 _) rfl ?_
 rw [tk_1 hc0 hc1]
 exact ⟨hX, rfl, ⟨lv, vs, hrd, hlv, hls⟩⟩
 refine Zr <| Zv (r_eql rfl rfl) <| Zb rfl <| WL_nil <| ZQ rfl (fun hc2 => ?_) fun hc2 => ?_
 refine Zr <| Zi rfl <| WL_nil <| Zt <| ret_t (v := .int .i64 2) rfl ?_
 rw [tk_5 hc0 hc1 hc2]
 exact ⟨hX, rfl, ⟨lv, vs, hrd, hlv, hls⟩⟩
 refine WC_skip <| hK6 _ _ <| WC_seq fun K53 hK54 => Zr <| Zw (.string _) rfl <| ZC tb_c55 (C_strings_CutPrefix _ _ _) rfl fun v13_1 W57 hE58 hP13_1 => ?_
 replace hrd := hE58.at hrd
 replace hlv := hE58.ow hlv
 replace hls := LsO.ext hE58 hls
 replace hX := Dx.trans hX (Dx.ext hE58)
 replace hB := below_ext hB hE58 hN0
 obtain rfl := hP13_1
 refine Zw (.tuple #[.string _, .bool _]) rfl <| Zv (r_ext2_0 rfl) <| Zv (r_ext2_1 rfl) <| Zw (.string _) rfl <| Zb rfl <| WL_nil <| Zr <| Zb rfl <| ZX rfl (fun hs14_1 => ?_) fun hs14_1 => ?_
 refine Zp rfl <| Zc rfl <| Zf rfl tb_fo74_1 <| Zl rfl tb_sc3 hrd rfl <| Zv (r_eql rfl rfl) <| Zb rfl <| WL_nil <| ZQ rfl (fun hc3 => ?_) fun hc3 => ?_
 refine Zr <| Zp rfl <| Zc rfl <| Zf rfl tb_fo74_1 <| Zy (Y_store1 (v := .int .i64 3) rfl rfl tb_sc3 rfl hrd (by simp) fun W64 hG65 hm66 => ?_)
 replace hlv := OwT.grownAt hlv hrd hG65 Dc
 replace hls := LsO.grownAt hls hrd hG65 Dc
 replace hX := Dx.trans hX (Dx.grown hG65 (by simp) lob)
 replace hB := below_grown hB hG65 hN0 (fun j hj => by cases hj; exact lob)
 clear hG65 hrd
 replace hrd := hm66
 replace hrd : At _ _ #[_, _, _, _, _, _] _ := hrd
 refine WL_nil <| WC_seq fun K67 hK68 => Zr <| ZC tb_c56 (C_pla_kinds _) rfl fun v16_0 W71 hE72 hP16_0 => ?_
 have hsz73 := (Nat.le_trans hN0 (Below.size hB))
 replace hrd := hE72.at hrd
 replace hlv := hE72.ow hlv
 replace hls := LsO.ext hE72 hls
 replace hX := Dx.trans hX (Dx.ext hE72)
 replace hB := below_ext hB hE72 hN0
 replace hP16_0 := OwT.mono hP16_0 hsz73
 refine Zv (r_lenS (v := v16_0) rfl hP16_0.sl tb_el75) <| Zi rfl <| WL_nil <| WC_block ?_
 refine WC_loop (σ := (Nat)) [4, 8, 9, 82, 83, 84, 85, 86, 87, 88, 89, 90, 91, 92, 93, 94, 95] (fun i => [(82, .int .i64 (i : Int))]) (fun i W => (At W br _ 74) ∧ (OwT encLn 3 44 W N lv _) ∧ (LsO 3 N W vs (r.T.ls)) ∧ (Dx 44 N [br] w W) ∧ (Below N w W) ∧ (OwT encW 1 9 W N v16_0 _) ∧ (i ≤ 4) ∧ (∀ q, q < i → ¬ kindsL.getD q [] = Lib.trimPrefix line typeW) ∧ (True)) (fun i => 4 - i) (0) ⟨rfl, trivial⟩ ⟨hrd, hlv, hls, hX, hB, hP16_0, (Nat.zero_le _), upTo_zero, trivial⟩ ?_
 clear hrd hlv hls hX hB hP16_0
 rintro i g75 W74 ⟨hrd, hlv, hls, hX, hB, hP16_0, hi, hq, _⟩ J76 hJ77
 refine Zr <| Zv (r_lss rfl rfl) <| WL_nil <| WC_seq fun K80 hK81 => ZQ rfl (fun hc4 => ?_) fun hc4 => ?_
 refine WC_skip <| hK81 _ _ <| WC_seq fun K82 hK83 => WC_block ?_
 rw [kindsL_len] at hc4
 refine Zr <| Zi rfl <| Zv (r_idxS (v := v16_0) rfl hP16_0.sl rfl tb_el75 Om (by first | omega | (simp only [kindsL_len]; omega))) <| Zv (r_load1 (v := .string _) rfl tb_sc9 (SlT.cell hP16_0.sl encW_len [] Om (by first | omega | (simp only [kindsL_len]; omega)) 0 rfl)) <| Zi rfl <| Zw (.string _) rfl <| WL_nil <| Zr <| Zw (.string _) rfl <| Zw (.string _) rfl <| Zv (r_eqlW rfl rfl) <| WL_nil <| ZQ rfl (fun hc5 => ?_) fun hc5 => ?_
 refine Zr <| Zp rfl <| Zi rfl <| Zc rfl <| Zf rfl tb_fo74_0 <| Zf rfl tb_fo24_0 <| Zy (Y_store1 (v := .int .i64 _) rfl rfl tb_sc3 rfl hrd (by simp) fun W90 hG91 hm92 => ?_)
 replace hlv := OwT.grownAt hlv hrd hG91 Dc
 replace hls := LsO.grownAt hls hrd hG91 Dc
 replace hX := Dx.trans hX (Dx.grown hG91 (by simp) lob)
 replace hB := below_grown hB hG91 hN0 (fun j hj => by cases hj; exact lob)
 replace hP16_0 := OwT.grownAt hP16_0 hrd hG91 Dc
 clear hG91 hrd
 replace hrd := hm92
 replace hrd : At _ _ #[_, _, _, _, _, _] _ := hrd
 refine WL_nil <| Zr <| Zi rfl <| WL_nil <| Zt <| ret_t (v := .int .i64 0) rfl ?_
 rw [tk_k (i := i) hc0 hc1 hc2 hs14_1 hc3 (by omega) hc5]
 exact ⟨hX, rfl, ⟨lv, vs, hrd, hlv, hls⟩⟩
 refine WC_skip <| hK83 _ _ <| WC_region <| Zv (r_addI rfl rfl Om Om) <| Zi rfl <| WL_nil ?_
 exact hJ77 _ _ (i + 1) Za ⟨rfl, trivial⟩ ⟨hrd, hlv, hls, hX, hB, hP16_0, Om, (upTo_succ hq hc5), trivial⟩ Zo
 refine WC_exit <| hK68 _ _ ?_
 rw [kindsL_len] at hc4
 refine Zr <| Zi rfl <| WL_nil <| Zt <| ret_t (v := .int .i64 2) rfl ?_
 rw [tk_kn hc0 hc1 hc2 hs14_1 hc3 (fun q hq' => hq q (by omega))]
 exact ⟨hX, rfl, ⟨lv, vs, hrd, hlv, hls⟩⟩
 refine WC_skip <| hK54 _ _ <| WC_seq fun K97 hK98 => Zr <| Zw (.string _) rfl <| ZC tb_c54 (C_pla_number _ _ _ _ _ (hgl _ hB) (by first | assumption | omega | (simp; omega) | simp) (by first | assumption | omega | (simp; omega) | simp) (by first | assumption | omega)) rfl fun v24_1 W101 hE102 hP24_1 => ?_
 replace hrd := hE102.at hrd
 replace hlv := hE102.ow hlv
 replace hls := LsO.ext hE102 hls
 replace hX := Dx.trans hX (Dx.ext hE102)
 replace hB := below_ext hB hE102 hN0
 obtain rfl := hP24_1
 refine Zi rfl <| WL_nil <| Zr <| Zi rfl <| Zv (r_geq rfl rfl) <| ZX rfl (fun hs25_2 => ?_) fun hs25_2 => ?_
 refine Zp rfl <| Zc rfl <| Zf rfl tb_fo74_1 <| Zl rfl tb_sc3 hrd rfl <| Zv (r_leq rfl rfl) <| Zb rfl <| WL_nil <| ZQ rfl (fun hc6 => ?_) fun hc6 => ?_
 refine Zr <| Zp rfl <| Zp rfl <| Zi rfl <| Zc rfl <| Zf rfl tb_fo74_2 <| Zy (Y_store1 (v := .int .i64 _) rfl rfl tb_sc3 rfl hrd (by simp) fun W108 hG109 hm110 => ?_)
 replace hlv := OwT.grownAt hlv hrd hG109 Dc
 replace hls := LsO.grownAt hls hrd hG109 Dc
 replace hX := Dx.trans hX (Dx.grown hG109 (by simp) lob)
 replace hB := below_grown hB hG109 hN0 (fun j hj => by cases hj; exact lob)
 clear hG109 hrd
 replace hrd := hm110
 replace hrd : At _ _ #[_, _, _, _, _, _] _ := hrd
 refine Zc rfl <| Zf rfl tb_fo74_1 <| Zy (Y_store1 (v := .int .i64 4) rfl rfl tb_sc3 rfl hrd (by simp) fun W111 hG112 hm113 => ?_)
 replace hlv := OwT.grownAt hlv hrd hG112 Dc
 replace hls := LsO.grownAt hls hrd hG112 Dc
 replace hX := Dx.trans hX (Dx.grown hG112 (by simp) lob)
 replace hB := below_grown hB hG112 hN0 (fun j hj => by cases hj; exact lob)
 clear hG112 hrd
 replace hrd := hm113
 replace hrd : At _ _ #[_, _, _, _, _, _] _ := hrd
 refine WL_nil <| Zr <| Zi rfl <| WL_nil <| Zt <| ret_t (v := .int .i64 0) rfl ?_
 have hpn : ¬ (Lib.hasPrefix line typeW = true ∧ r.st = 2) := by first | exact fun e => hc3 e.2 | exact fun e => Bool.noConfusion (hs14_1.symm.trans e.1)
 first | (rw [tk_p hc0 hc1 hc2 hpn hs25_2 hc6]; exact ⟨hX, rfl, ⟨lv, vs, hrd, hlv, hls⟩⟩) | (have hpp : ¬ (numP line [46, 112] 0 64 ≥ 0 ∧ r.st ≤ 3) := (by first | exact fun e => hc6 e.2 | exact fun e => hs25_2 e.1); first | (rw [tk_e hc0 hc1 hc2 hpn hpp hc7]; refine ⟨hX, congrArg (Value.int .i64) ?_, ⟨lv, vs, hrd, hlv, hls⟩⟩; first | (rw [decide_eq_true hs31_6]; rfl) | (rw [decide_eq_false hs31_6, Bool.false_or, ← hlen]; rfl)) | (rw [tk_r hc0 hc1 hc2 hpn hpp hc7 hrk33_2]; refine ⟨hX, congrArg (Value.int .i64) ?_, hR33_2⟩; first | exact (if_pos (by omega)).symm | exact (if_neg (by omega)).symm) | (rw [tk_rn hc0 hc1 hc2 hpn hpp hc7 hrk33_2]; exact ⟨hX, rfl, hR33_2⟩))
 refine WC_skip <| hK98 _ _ <| Zr <| Zp rfl <| Zc rfl <| Zf rfl tb_fo74_1 <| Zy (Y_store1 (v := .int .i64 4) rfl rfl tb_sc3 rfl hrd (by simp) fun W118 hG119 hm120 => ?_)
 replace hlv := OwT.grownAt hlv hrd hG119 Dc
 replace hls := LsO.grownAt hls hrd hG119 Dc
 replace hX := Dx.trans hX (Dx.grown hG119 (by simp) lob)
 replace hB := below_grown hB hG119 hN0 (fun j hj => by cases hj; exact lob)
 clear hG119 hrd
 replace hrd := hm120
 replace hrd : At _ _ #[_, _, _, _, _, _] _ := hrd
 refine WL_nil <| WC_seq fun K121 hK122 => Zr <| Zw (.string _) rfl <| Zv (r_eqlW rfl rfl) <| WL_nil <| ZQ rfl (fun hc7 => ?_) fun hc7 => ?_
 refine Zr <| Zp rfl <| Zc rfl <| Zf rfl tb_fo74_1 <| Zy (Y_store1 (v := .int .i64 5) rfl rfl tb_sc3 rfl hrd (by simp) fun W127 hG128 hm129 => ?_)
 replace hlv := OwT.grownAt hlv hrd hG128 Dc
 replace hls := LsO.grownAt hls hrd hG128 Dc
 replace hX := Dx.trans hX (Dx.grown hG128 (by simp) lob)
 replace hB := below_grown hB hG128 hN0 (fun j hj => by cases hj; exact lob)
 clear hG128 hrd
 replace hrd := hm129
 replace hrd : At _ _ #[_, _, _, _, _, _] _ := hrd
 refine WL_nil <| Zd Ext fun W132 hE133 => ?_
 replace hrd := hE133.at hrd
 replace hlv := hE133.ow hlv
 replace hls := LsO.ext hE133 hls
 replace hX := Dx.trans hX (Dx.ext hE133)
 replace hB := below_ext hB hE133 hN0
 have hS := Ext.refl W132
 refine Tw 0 (.func (.func 53) #[] #[]) rfl rfl hS <| Tq 1 rfl rfl hS <| Tc 2 rfl rfl hS <| Tf 3 rfl rfl tb_fo74_2 hS <| Tk 4 rfl (fun _ hq => r_load1 (v := .int .i64 _) rfl tb_sc3 (At.cell (hq.at hrd) rfl)) hS <| Tk 5 rfl (fun _ _ => r_lss rfl rfl) hS <| Tx 6 rfl (fun _ _ => r_move (v := .bool _) rfl) hS (fun hs31_6 => ?_) fun hs31_6 => ?_
 refine Tp 7 rfl hS <| Tp 8 rfl hS <| Tp 9 rfl hS <| Tp 10 rfl hS <| Tp 11 rfl hS <| Tp 12 rfl hS <| Tp 13 rfl hS <| Tp 14 rfl hS <| Tp 15 rfl hS <| Tp 16 rfl hS <| Tp 17 rfl hS <| Ty 18 rfl rfl hS <| To 19 rfl (Yd.call (r_call (q := 53) (first := #[]) (cap := #[]) (vs := #[.bool true]) rfl tb_c53 (by simp only [List.map_toArray, List.map_cons, List.map_nil, List.append_toArray, List.nil_append, List.cons_append]; rfl)) (C___pla_reader__take_1 _ _) fun v31_19 W134 hE135 hP31_19 => ⟨.inl (hS.trans hE135), ?_⟩)
 replace hrd := hE135.at hrd
 replace hlv := hE135.ow hlv
 replace hls := LsO.ext hE135 hls
 replace hX := Dx.trans hX (Dx.ext hE135)
 replace hB := below_ext hB hE135 hN0
 replace hS := hS.trans hE135
 obtain rfl := hP31_19
 refine Ti 20 rfl rfl hS <| Td <| Zt <| ret_t (v := .int .i64 _) rfl ?_
 have hpn : ¬ (Lib.hasPrefix line typeW = true ∧ r.st = 2) := by first | exact fun e => hc3 e.2 | exact fun e => Bool.noConfusion (hs14_1.symm.trans e.1)
 first | (rw [tk_p hc0 hc1 hc2 hpn hs25_2 hc6]; exact ⟨hX, rfl, ⟨lv, vs, hrd, hlv, hls⟩⟩) | (have hpp : ¬ (numP line [46, 112] 0 64 ≥ 0 ∧ r.st ≤ 3) := (by first | exact fun e => hc6 e.2 | exact fun e => hs25_2 e.1); first | (rw [tk_e hc0 hc1 hc2 hpn hpp hc7]; refine ⟨hX, congrArg (Value.int .i64) ?_, ⟨lv, vs, hrd, hlv, hls⟩⟩; first | (rw [decide_eq_true hs31_6]; rfl) | (rw [decide_eq_false hs31_6, Bool.false_or, ← hlen]; rfl)) | (rw [tk_r hc0 hc1 hc2 hpn hpp hc7 hrk33_2]; refine ⟨hX, congrArg (Value.int .i64) ?_, hR33_2⟩; first | exact (if_pos (by omega)).symm | exact (if_neg (by omega)).symm) | (rw [tk_rn hc0 hc1 hc2 hpn hpp hc7 hrk33_2]; exact ⟨hX, rfl, hR33_2⟩))
 refine Tq 7 rfl rfl hS <| Tc 8 rfl rfl hS <| Tf 9 rfl rfl tb_fo74_2 hS <| Tk 10 rfl (fun _ hq => r_load1 (v := .int .i64 _) rfl tb_sc3 (At.cell (hq.at hrd) rfl)) hS <| Tq 11 rfl rfl hS <| Tc 12 rfl rfl hS <| Tf 13 rfl rfl tb_fo74_0 hS <| Tf 14 rfl rfl tb_fo24_3 hS <| Tk 15 rfl (fun _ hq => r_load1 (v := lv) rfl tb_sc22 (At.cell (hq.at hrd) rfl)) hS <| Tk 16 rfl (fun _ hq => r_lenS (v := lv) rfl ((hq.ow hlv)).sl tb_el22) hS <| Tk 17 rfl (fun _ _ => r_eql rfl rfl) hS <| Ty 18 rfl rfl hS <| To 19 rfl (Yd.call (r_call (q := 53) (first := #[]) (cap := #[]) (vs := #[.bool _]) rfl tb_c53 (by simp only [List.map_toArray, List.map_cons, List.map_nil, List.append_toArray, List.nil_append, List.cons_append]; rfl)) (C___pla_reader__take_1 _ _) fun v31_19 W138 hE139 hP31_19 => ⟨.inl (hS.trans hE139), ?_⟩)
 replace hrd := hE139.at hrd
 replace hlv := hE139.ow hlv
 replace hls := LsO.ext hE139 hls
 replace hX := Dx.trans hX (Dx.ext hE139)
 replace hB := below_ext hB hE139 hN0
 replace hS := hS.trans hE139
 obtain rfl := hP31_19
 refine Ti 20 rfl rfl hS <| Td <| Zt <| ret_t (v := .int .i64 _) rfl ?_
 have hpn : ¬ (Lib.hasPrefix line typeW = true ∧ r.st = 2) := by first | exact fun e => hc3 e.2 | exact fun e => Bool.noConfusion (hs14_1.symm.trans e.1)
 first | (rw [tk_p hc0 hc1 hc2 hpn hs25_2 hc6]; exact ⟨hX, rfl, ⟨lv, vs, hrd, hlv, hls⟩⟩) | (have hpp : ¬ (numP line [46, 112] 0 64 ≥ 0 ∧ r.st ≤ 3) := (by first | exact fun e => hc6 e.2 | exact fun e => hs25_2 e.1); first | (rw [tk_e hc0 hc1 hc2 hpn hpp hc7]; refine ⟨hX, congrArg (Value.int .i64) ?_, ⟨lv, vs, hrd, hlv, hls⟩⟩; first | (rw [decide_eq_true hs31_6]; rfl) | (rw [decide_eq_false hs31_6, Bool.false_or, ← hlen]; rfl)) | (rw [tk_r hc0 hc1 hc2 hpn hpp hc7 hrk33_2]; refine ⟨hX, congrArg (Value.int .i64) ?_, hR33_2⟩; first | exact (if_pos (by omega)).symm | exact (if_neg (by omega)).symm) | (rw [tk_rn hc0 hc1 hc2 hpn hpp hc7 hrk33_2]; exact ⟨hX, rfl, hR33_2⟩))
 refine WC_skip <| hK122 _ _ <| Zr <| Zp rfl <| Zc rfl <| Zf rfl tb_fo74_0 <| Zf rfl tb_fo24_3 <| ZL lv rfl tb_sc22 hrd rfl <| Zv (r_lenS (v := lv) rfl hlv.sl tb_el22) <| Zv (r_eql rfl rfl) <| Zb rfl <| WL_nil <| WC_seq fun K144 hK145 => Zr ?_
 refine Zp rfl <| Zw (.string _) rfl <| ZH tb_c57 (C___pla_reader__row N br ⟨r.T, 4, r.told⟩ line _ (Nat.le_trans hN0 (Below.size hB)) (fun _ h => hgl _ (Below.trans hB h)) hl lob h64 ⟨lv, vs, hrd, hlv, hls⟩) rfl fun v33_2 W148 hP33_2 => ?_
 obtain ⟨hX33_2, hP33_2⟩ := hP33_2
 replace hB := Below.dx hB (Nat.le_refl _) hN0 hX33_2
 replace hX := hX.trans hX33_2
 clear hrd hlv hls
 rcases hP33_2 with hP33_2 | hP33_2
 obtain ⟨hrk33_2, rfl, hR33_2⟩ := hP33_2
 refine Zv (r_not rfl) <| WL_nil <| WC_cond_false rfl <| WC_skip <| hK145 _ _ <| WC_seq fun K150 hK151 => Zr <| Zb rfl <| WL_nil <| ZQ rfl (fun hc9 => ?_) fun hc9 => ?_
 refine Zr <| Zi rfl <| WL_nil <| Zt <| ret_t (v := .int .i64 3) rfl ?_
 have hpn : ¬ (Lib.hasPrefix line typeW = true ∧ r.st = 2) := by first | exact fun e => hc3 e.2 | exact fun e => Bool.noConfusion (hs14_1.symm.trans e.1)
 first | (rw [tk_p hc0 hc1 hc2 hpn hs25_2 hc6]; exact ⟨hX, rfl, ⟨lv, vs, hrd, hlv, hls⟩⟩) | (have hpp : ¬ (numP line [46, 112] 0 64 ≥ 0 ∧ r.st ≤ 3) := (by first | exact fun e => hc6 e.2 | exact fun e => hs25_2 e.1); first | (rw [tk_e hc0 hc1 hc2 hpn hpp hc7]; refine ⟨hX, congrArg (Value.int .i64) ?_, ⟨lv, vs, hrd, hlv, hls⟩⟩; first | (rw [decide_eq_true hs31_6]; rfl) | (rw [decide_eq_false hs31_6, Bool.false_or, ← hlen]; rfl)) | (rw [tk_r hc0 hc1 hc2 hpn hpp hc7 hrk33_2]; refine ⟨hX, congrArg (Value.int .i64) ?_, hR33_2⟩; first | exact (if_pos (by omega)).symm | exact (if_neg (by omega)).symm) | (rw [tk_rn hc0 hc1 hc2 hpn hpp hc7 hrk33_2]; exact ⟨hX, rfl, hR33_2⟩))
 refine WC_skip <| hK151 _ _ <| Zr <| Zi rfl <| WL_nil <| Zt <| ret_t (v := .int .i64 0) rfl ?_
 have hpn : ¬ (Lib.hasPrefix line typeW = true ∧ r.st = 2) := by first | exact fun e => hc3 e.2 | exact fun e => Bool.noConfusion (hs14_1.symm.trans e.1)
 first | (rw [tk_p hc0 hc1 hc2 hpn hs25_2 hc6]; exact ⟨hX, rfl, ⟨lv, vs, hrd, hlv, hls⟩⟩) | (have hpp : ¬ (numP line [46, 112] 0 64 ≥ 0 ∧ r.st ≤ 3) := (by first | exact fun e => hc6 e.2 | exact fun e => hs25_2 e.1); first | (rw [tk_e hc0 hc1 hc2 hpn hpp hc7]; refine ⟨hX, congrArg (Value.int .i64) ?_, ⟨lv, vs, hrd, hlv, hls⟩⟩; first | (rw [decide_eq_true hs31_6]; rfl) | (rw [decide_eq_false hs31_6, Bool.false_or, ← hlen]; rfl)) | (rw [tk_r hc0 hc1 hc2 hpn hpp hc7 hrk33_2]; refine ⟨hX, congrArg (Value.int .i64) ?_, hR33_2⟩; first | exact (if_pos (by omega)).symm | exact (if_neg (by omega)).symm) | (rw [tk_rn hc0 hc1 hc2 hpn hpp hc7 hrk33_2]; exact ⟨hX, rfl, hR33_2⟩))
 obtain ⟨hrk33_2, rfl, hR33_2⟩ := hP33_2
 refine Zv (r_not rfl) <| WL_nil <| WC_cond_true rfl <| Zr <| Zi rfl <| WL_nil <| Zt <| ret_t (v := .int .i64 2) rfl ?_
 have hpn : ¬ (Lib.hasPrefix line typeW = true ∧ r.st = 2) := by first | exact fun e => hc3 e.2 | exact fun e => Bool.noConfusion (hs14_1.symm.trans e.1)
 first | (rw [tk_p hc0 hc1 hc2 hpn hs25_2 hc6]; exact ⟨hX, rfl, ⟨lv, vs, hrd, hlv, hls⟩⟩) | (have hpp : ¬ (numP line [46, 112] 0 64 ≥ 0 ∧ r.st ≤ 3) := (by first | exact fun e => hc6 e.2 | exact fun e => hs25_2 e.1); first | (rw [tk_e hc0 hc1 hc2 hpn hpp hc7]; refine ⟨hX, congrArg (Value.int .i64) ?_, ⟨lv, vs, hrd, hlv, hls⟩⟩; first | (rw [decide_eq_true hs31_6]; rfl) | (rw [decide_eq_false hs31_6, Bool.false_or, ← hlen]; rfl)) | (rw [tk_r hc0 hc1 hc2 hpn hpp hc7 hrk33_2]; refine ⟨hX, congrArg (Value.int .i64) ?_, hR33_2⟩; first | exact (if_pos (by omega)).symm | exact (if_neg (by omega)).symm) | (rw [tk_rn hc0 hc1 hc2 hpn hpp hc7 hrk33_2]; exact ⟨hX, rfl, hR33_2⟩))
 refine Zs <| Zs <| Zs <| Zs <| Zs <| Zb rfl <| WL_nil <| WC_cond_false rfl <| WC_skip <| hK98 _ _ <| Zr <| Zp rfl <| Zc rfl <| Zf rfl tb_fo74_1 ?_
 refine Zy (Y_store1 (v := .int .i64 4) rfl rfl tb_sc3 rfl hrd (by simp) fun W162 hG163 hm164 => ?_)
 replace hlv := OwT.grownAt hlv hrd hG163 Dc
 replace hls := LsO.grownAt hls hrd hG163 Dc
 replace hX := Dx.trans hX (Dx.grown hG163 (by simp) lob)
 replace hB := below_grown hB hG163 hN0 (fun j hj => by cases hj; exact lob)
 clear hG163 hrd
 replace hrd := hm164
 replace hrd : At _ _ #[_, _, _, _, _, _] _ := hrd
 refine WL_nil <| WC_seq fun K165 hK166 => Zr <| Zw (.string _) rfl <| Zv (r_eqlW rfl rfl) <| WL_nil <| ZQ rfl (fun hc7 => ?_) fun hc7 => ?_
 refine Zr <| Zp rfl <| Zc rfl <| Zf rfl tb_fo74_1 <| Zy (Y_store1 (v := .int .i64 5) rfl rfl tb_sc3 rfl hrd (by simp) fun W171 hG172 hm173 => ?_)
 replace hlv := OwT.grownAt hlv hrd hG172 Dc
 replace hls := LsO.grownAt hls hrd hG172 Dc
 replace hX := Dx.trans hX (Dx.grown hG172 (by simp) lob)
 replace hB := below_grown hB hG172 hN0 (fun j hj => by cases hj; exact lob)
 clear hG172 hrd
 replace hrd := hm173
 replace hrd : At _ _ #[_, _, _, _, _, _] _ := hrd
 refine WL_nil <| Zd Ext fun W176 hE177 => ?_
 replace hrd := hE177.at hrd
 replace hlv := hE177.ow hlv
 replace hls := LsO.ext hE177 hls
 replace hX := Dx.trans hX (Dx.ext hE177)
 replace hB := below_ext hB hE177 hN0
 have hS := Ext.refl W176
 refine Tw 0 (.func (.func 53) #[] #[]) rfl rfl hS <| Tq 1 rfl rfl hS <| Tc 2 rfl rfl hS <| Tf 3 rfl rfl tb_fo74_2 hS <| Tk 4 rfl (fun _ hq => r_load1 (v := .int .i64 _) rfl tb_sc3 (At.cell (hq.at hrd) rfl)) hS <| Tk 5 rfl (fun _ _ => r_lss rfl rfl) hS <| Tx 6 rfl (fun _ _ => r_move (v := .bool _) rfl) hS (fun hs31_6 => ?_) fun hs31_6 => ?_
 refine Tp 7 rfl hS <| Tp 8 rfl hS <| Tp 9 rfl hS <| Tp 10 rfl hS <| Tp 11 rfl hS <| Tp 12 rfl hS <| Tp 13 rfl hS <| Tp 14 rfl hS <| Tp 15 rfl hS <| Tp 16 rfl hS <| Tp 17 rfl hS <| Ty 18 rfl rfl hS <| To 19 rfl (Yd.call (r_call (q := 53) (first := #[]) (cap := #[]) (vs := #[.bool true]) rfl tb_c53 (by simp only [List.map_toArray, List.map_cons, List.map_nil, List.append_toArray, List.nil_append, List.cons_append]; rfl)) (C___pla_reader__take_1 _ _) fun v31_19 W178 hE179 hP31_19 => ⟨.inl (hS.trans hE179), ?_⟩)
 replace hrd := hE179.at hrd
 replace hlv := hE179.ow hlv
 replace hls := LsO.ext hE179 hls
 replace hX := Dx.trans hX (Dx.ext hE179)
 replace hB := below_ext hB hE179 hN0
 replace hS := hS.trans hE179
 obtain rfl := hP31_19
 refine Ti 20 rfl rfl hS <| Td <| Zt <| ret_t (v := .int .i64 _) rfl ?_
 have hpn : ¬ (Lib.hasPrefix line typeW = true ∧ r.st = 2) := by first | exact fun e => hc3 e.2 | exact fun e => Bool.noConfusion (hs14_1.symm.trans e.1)
 first | (rw [tk_p hc0 hc1 hc2 hpn hs25_2 hc6]; exact ⟨hX, rfl, ⟨lv, vs, hrd, hlv, hls⟩⟩) | (have hpp : ¬ (numP line [46, 112] 0 64 ≥ 0 ∧ r.st ≤ 3) := (by first | exact fun e => hc6 e.2 | exact fun e => hs25_2 e.1); first | (rw [tk_e hc0 hc1 hc2 hpn hpp hc7]; refine ⟨hX, congrArg (Value.int .i64) ?_, ⟨lv, vs, hrd, hlv, hls⟩⟩; first | (rw [decide_eq_true hs31_6]; rfl) | (rw [decide_eq_false hs31_6, Bool.false_or, ← hlen]; rfl)) | (rw [tk_r hc0 hc1 hc2 hpn hpp hc7 hrk33_2]; refine ⟨hX, congrArg (Value.int .i64) ?_, hR33_2⟩; first | exact (if_pos (by omega)).symm | exact (if_neg (by omega)).symm) | (rw [tk_rn hc0 hc1 hc2 hpn hpp hc7 hrk33_2]; exact ⟨hX, rfl, hR33_2⟩))
 refine Tq 7 rfl rfl hS <| Tc 8 rfl rfl hS <| Tf 9 rfl rfl tb_fo74_2 hS <| Tk 10 rfl (fun _ hq => r_load1 (v := .int .i64 _) rfl tb_sc3 (At.cell (hq.at hrd) rfl)) hS <| Tq 11 rfl rfl hS <| Tc 12 rfl rfl hS <| Tf 13 rfl rfl tb_fo74_0 hS <| Tf 14 rfl rfl tb_fo24_3 hS <| Tk 15 rfl (fun _ hq => r_load1 (v := lv) rfl tb_sc22 (At.cell (hq.at hrd) rfl)) hS <| Tk 16 rfl (fun _ hq => r_lenS (v := lv) rfl ((hq.ow hlv)).sl tb_el22) hS <| Tk 17 rfl (fun _ _ => r_eql rfl rfl) hS <| Ty 18 rfl rfl hS <| To 19 rfl (Yd.call (r_call (q := 53) (first := #[]) (cap := #[]) (vs := #[.bool _]) rfl tb_c53 (by simp only [List.map_toArray, List.map_cons, List.map_nil, List.append_toArray, List.nil_append, List.cons_append]; rfl)) (C___pla_reader__take_1 _ _) fun v31_19 W182 hE183 hP31_19 => ⟨.inl (hS.trans hE183), ?_⟩)
 replace hrd := hE183.at hrd
 replace hlv := hE183.ow hlv
 replace hls := LsO.ext hE183 hls
 replace hX := Dx.trans hX (Dx.ext hE183)
 replace hB := below_ext hB hE183 hN0
 replace hS := hS.trans hE183
 obtain rfl := hP31_19
 refine Ti 20 rfl rfl hS <| Td <| Zt <| ret_t (v := .int .i64 _) rfl ?_
 have hpn : ¬ (Lib.hasPrefix line typeW = true ∧ r.st = 2) := by first | exact fun e => hc3 e.2 | exact fun e => Bool.noConfusion (hs14_1.symm.trans e.1)
 first | (rw [tk_p hc0 hc1 hc2 hpn hs25_2 hc6]; exact ⟨hX, rfl, ⟨lv, vs, hrd, hlv, hls⟩⟩) | (have hpp : ¬ (numP line [46, 112] 0 64 ≥ 0 ∧ r.st ≤ 3) := (by first | exact fun e => hc6 e.2 | exact fun e => hs25_2 e.1); first | (rw [tk_e hc0 hc1 hc2 hpn hpp hc7]; refine ⟨hX, congrArg (Value.int .i64) ?_, ⟨lv, vs, hrd, hlv, hls⟩⟩; first | (rw [decide_eq_true hs31_6]; rfl) | (rw [decide_eq_false hs31_6, Bool.false_or, ← hlen]; rfl)) | (rw [tk_r hc0 hc1 hc2 hpn hpp hc7 hrk33_2]; refine ⟨hX, congrArg (Value.int .i64) ?_, hR33_2⟩; first | exact (if_pos (by omega)).symm | exact (if_neg (by omega)).symm) | (rw [tk_rn hc0 hc1 hc2 hpn hpp hc7 hrk33_2]; exact ⟨hX, rfl, hR33_2⟩))
 refine WC_skip <| hK166 _ _ <| Zr <| Zp rfl <| Zc rfl <| Zf rfl tb_fo74_0 <| Zf rfl tb_fo24_3 <| ZL lv rfl tb_sc22 hrd rfl <| Zv (r_lenS (v := lv) rfl hlv.sl tb_el22) <| Zv (r_eql rfl rfl) <| Zb rfl <| WL_nil <| WC_seq fun K188 hK189 => Zr ?_
 refine Zp rfl <| Zw (.string _) rfl <| ZH tb_c57 (C___pla_reader__row N br ⟨r.T, 4, r.told⟩ line _ (Nat.le_trans hN0 (Below.size hB)) (fun _ h => hgl _ (Below.trans hB h)) hl lob h64 ⟨lv, vs, hrd, hlv, hls⟩) rfl fun v33_2 W192 hP33_2 => ?_
 obtain ⟨hX33_2, hP33_2⟩ := hP33_2
 replace hB := Below.dx hB (Nat.le_refl _) hN0 hX33_2
 replace hX := hX.trans hX33_2
 clear hrd hlv hls
 rcases hP33_2 with hP33_2 | hP33_2
 obtain ⟨hrk33_2, rfl, hR33_2⟩ := hP33_2
 refine Zv (r_not rfl) <| WL_nil <| WC_cond_false rfl <| WC_skip <| hK189 _ _ <| WC_seq fun K194 hK195 => Zr <| Zb rfl <| WL_nil <| ZQ rfl (fun hc9 => ?_) fun hc9 => ?_
 refine Zr <| Zi rfl <| WL_nil <| Zt <| ret_t (v := .int .i64 3) rfl ?_
 have hpn : ¬ (Lib.hasPrefix line typeW = true ∧ r.st = 2) := by first | exact fun e => hc3 e.2 | exact fun e => Bool.noConfusion (hs14_1.symm.trans e.1)
 first | (rw [tk_p hc0 hc1 hc2 hpn hs25_2 hc6]; exact ⟨hX, rfl, ⟨lv, vs, hrd, hlv, hls⟩⟩) | (have hpp : ¬ (numP line [46, 112] 0 64 ≥ 0 ∧ r.st ≤ 3) := (by first | exact fun e => hc6 e.2 | exact fun e => hs25_2 e.1); first | (rw [tk_e hc0 hc1 hc2 hpn hpp hc7]; refine ⟨hX, congrArg (Value.int .i64) ?_, ⟨lv, vs, hrd, hlv, hls⟩⟩; first | (rw [decide_eq_true hs31_6]; rfl) | (rw [decide_eq_false hs31_6, Bool.false_or, ← hlen]; rfl)) | (rw [tk_r hc0 hc1 hc2 hpn hpp hc7 hrk33_2]; refine ⟨hX, congrArg (Value.int .i64) ?_, hR33_2⟩; first | exact (if_pos (by omega)).symm | exact (if_neg (by omega)).symm) | (rw [tk_rn hc0 hc1 hc2 hpn hpp hc7 hrk33_2]; exact ⟨hX, rfl, hR33_2⟩))
 refine WC_skip <| hK195 _ _ <| Zr <| Zi rfl <| WL_nil <| Zt <| ret_t (v := .int .i64 0) rfl ?_
 have hpn : ¬ (Lib.hasPrefix line typeW = true ∧ r.st = 2) := by first | exact fun e => hc3 e.2 | exact fun e => Bool.noConfusion (hs14_1.symm.trans e.1)
 first | (rw [tk_p hc0 hc1 hc2 hpn hs25_2 hc6]; exact ⟨hX, rfl, ⟨lv, vs, hrd, hlv, hls⟩⟩) | (have hpp : ¬ (numP line [46, 112] 0 64 ≥ 0 ∧ r.st ≤ 3) := (by first | exact fun e => hc6 e.2 | exact fun e => hs25_2 e.1); first | (rw [tk_e hc0 hc1 hc2 hpn hpp hc7]; refine ⟨hX, congrArg (Value.int .i64) ?_, ⟨lv, vs, hrd, hlv, hls⟩⟩; first | (rw [decide_eq_true hs31_6]; rfl) | (rw [decide_eq_false hs31_6, Bool.false_or, ← hlen]; rfl)) | (rw [tk_r hc0 hc1 hc2 hpn hpp hc7 hrk33_2]; refine ⟨hX, congrArg (Value.int .i64) ?_, hR33_2⟩; first | exact (if_pos (by omega)).symm | exact (if_neg (by omega)).symm) | (rw [tk_rn hc0 hc1 hc2 hpn hpp hc7 hrk33_2]; exact ⟨hX, rfl, hR33_2⟩))
 obtain ⟨hrk33_2, rfl, hR33_2⟩ := hP33_2
 refine Zv (r_not rfl) <| WL_nil <| WC_cond_true rfl <| Zr <| Zi rfl <| WL_nil <| Zt <| ret_t (v := .int .i64 2) rfl ?_
 have hpn : ¬ (Lib.hasPrefix line typeW = true ∧ r.st = 2) := by first | exact fun e => hc3 e.2 | exact fun e => Bool.noConfusion (hs14_1.symm.trans e.1)
 first | (rw [tk_p hc0 hc1 hc2 hpn hs25_2 hc6]; exact ⟨hX, rfl, ⟨lv, vs, hrd, hlv, hls⟩⟩) | (have hpp : ¬ (numP line [46, 112] 0 64 ≥ 0 ∧ r.st ≤ 3) := (by first | exact fun e => hc6 e.2 | exact fun e => hs25_2 e.1); first | (rw [tk_e hc0 hc1 hc2 hpn hpp hc7]; refine ⟨hX, congrArg (Value.int .i64) ?_, ⟨lv, vs, hrd, hlv, hls⟩⟩; first | (rw [decide_eq_true hs31_6]; rfl) | (rw [decide_eq_false hs31_6, Bool.false_or, ← hlen]; rfl)) | (rw [tk_r hc0 hc1 hc2 hpn hpp hc7 hrk33_2]; refine ⟨hX, congrArg (Value.int .i64) ?_, hR33_2⟩; first | exact (if_pos (by omega)).symm | exact (if_neg (by omega)).symm) | (rw [tk_rn hc0 hc1 hc2 hpn hpp hc7 hrk33_2]; exact ⟨hX, rfl, hR33_2⟩))
 refine Zs <| Zs <| Zs <| Zs <| Zs <| Zb rfl <| WL_nil <| WC_cond_false rfl <| WC_skip <| hK54 _ _ <| WC_seq fun K204 hK205 => Zr <| Zw (.string _) rfl <| ZC tb_c54 (C_pla_number _ _ _ _ _ (hgl _ hB) (by first | assumption | omega | (simp; omega) | simp) (by first | assumption | omega | (simp; omega) | simp) (by first | assumption | omega)) rfl fun v24_1 W208 hE209 hP24_1 => ?_
 replace hrd := hE209.at hrd
 replace hlv := hE209.ow hlv
 replace hls := LsO.ext hE209 hls
 replace hX := Dx.trans hX (Dx.ext hE209)
 replace hB := below_ext hB hE209 hN0
 obtain rfl := hP24_1
 refine Zi rfl <| WL_nil <| Zr <| Zi rfl <| Zv (r_geq rfl rfl) <| ZX rfl (fun hs25_2 => ?_) fun hs25_2 => ?_
 refine Zp rfl <| Zc rfl <| Zf rfl tb_fo74_1 <| Zl rfl tb_sc3 hrd rfl <| Zv (r_leq rfl rfl) <| Zb rfl <| WL_nil <| ZQ rfl (fun hc6 => ?_) fun hc6 => ?_
 refine Zr <| Zp rfl <| Zp rfl <| Zi rfl <| Zc rfl <| Zf rfl tb_fo74_2 <| Zy (Y_store1 (v := .int .i64 _) rfl rfl tb_sc3 rfl hrd (by simp) fun W215 hG216 hm217 => ?_)
 replace hlv := OwT.grownAt hlv hrd hG216 Dc
 replace hls := LsO.grownAt hls hrd hG216 Dc
 replace hX := Dx.trans hX (Dx.grown hG216 (by simp) lob)
 replace hB := below_grown hB hG216 hN0 (fun j hj => by cases hj; exact lob)
 clear hG216 hrd
 replace hrd := hm217
 replace hrd : At _ _ #[_, _, _, _, _, _] _ := hrd
 refine Zc rfl <| Zf rfl tb_fo74_1 <| Zy (Y_store1 (v := .int .i64 4) rfl rfl tb_sc3 rfl hrd (by simp) fun W218 hG219 hm220 => ?_)
 replace hlv := OwT.grownAt hlv hrd hG219 Dc
 replace hls := LsO.grownAt hls hrd hG219 Dc
 replace hX := Dx.trans hX (Dx.grown hG219 (by simp) lob)
 replace hB := below_grown hB hG219 hN0 (fun j hj => by cases hj; exact lob)
 clear hG219 hrd
 replace hrd := hm220
 replace hrd : At _ _ #[_, _, _, _, _, _] _ := hrd
 refine WL_nil <| Zr <| Zi rfl <| WL_nil <| Zt <| ret_t (v := .int .i64 0) rfl ?_
 have hpn : ¬ (Lib.hasPrefix line typeW = true ∧ r.st = 2) := by first | exact fun e => hc3 e.2 | exact fun e => Bool.noConfusion (hs14_1.symm.trans e.1)
 first | (rw [tk_p hc0 hc1 hc2 hpn hs25_2 hc6]; exact ⟨hX, rfl, ⟨lv, vs, hrd, hlv, hls⟩⟩) | (have hpp : ¬ (numP line [46, 112] 0 64 ≥ 0 ∧ r.st ≤ 3) := (by first | exact fun e => hc6 e.2 | exact fun e => hs25_2 e.1); first | (rw [tk_e hc0 hc1 hc2 hpn hpp hc7]; refine ⟨hX, congrArg (Value.int .i64) ?_, ⟨lv, vs, hrd, hlv, hls⟩⟩; first | (rw [decide_eq_true hs31_6]; rfl) | (rw [decide_eq_false hs31_6, Bool.false_or, ← hlen]; rfl)) | (rw [tk_r hc0 hc1 hc2 hpn hpp hc7 hrk33_2]; refine ⟨hX, congrArg (Value.int .i64) ?_, hR33_2⟩; first | exact (if_pos (by omega)).symm | exact (if_neg (by omega)).symm) | (rw [tk_rn hc0 hc1 hc2 hpn hpp hc7 hrk33_2]; exact ⟨hX, rfl, hR33_2⟩))
 refine WC_skip <| hK205 _ _ <| Zr <| Zp rfl <| Zc rfl <| Zf rfl tb_fo74_1 <| Zy (Y_store1 (v := .int .i64 4) rfl rfl tb_sc3 rfl hrd (by simp) fun W225 hG226 hm227 => ?_)
 replace hlv := OwT.grownAt hlv hrd hG226 Dc
 replace hls := LsO.grownAt hls hrd hG226 Dc
 replace hX := Dx.trans hX (Dx.grown hG226 (by simp) lob)
 replace hB := below_grown hB hG226 hN0 (fun j hj => by cases hj; exact lob)
 clear hG226 hrd
 replace hrd := hm227
 replace hrd : At _ _ #[_, _, _, _, _, _] _ := hrd
 refine WL_nil <| WC_seq fun K228 hK229 => Zr <| Zw (.string _) rfl <| Zv (r_eqlW rfl rfl) <| WL_nil <| ZQ rfl (fun hc7 => ?_) fun hc7 => ?_
 refine Zr <| Zp rfl <| Zc rfl <| Zf rfl tb_fo74_1 <| Zy (Y_store1 (v := .int .i64 5) rfl rfl tb_sc3 rfl hrd (by simp) fun W234 hG235 hm236 => ?_)
 replace hlv := OwT.grownAt hlv hrd hG235 Dc
 replace hls := LsO.grownAt hls hrd hG235 Dc
 replace hX := Dx.trans hX (Dx.grown hG235 (by simp) lob)
 replace hB := below_grown hB hG235 hN0 (fun j hj => by cases hj; exact lob)
 clear hG235 hrd
 replace hrd := hm236
 replace hrd : At _ _ #[_, _, _, _, _, _] _ := hrd
 refine WL_nil <| Zd Ext fun W239 hE240 => ?_
 replace hrd := hE240.at hrd
 replace hlv := hE240.ow hlv
 replace hls := LsO.ext hE240 hls
 replace hX := Dx.trans hX (Dx.ext hE240)
 replace hB := below_ext hB hE240 hN0
 have hS := Ext.refl W239
 refine Tw 0 (.func (.func 53) #[] #[]) rfl rfl hS <| Tq 1 rfl rfl hS <| Tc 2 rfl rfl hS <| Tf 3 rfl rfl tb_fo74_2 hS <| Tk 4 rfl (fun _ hq => r_load1 (v := .int .i64 _) rfl tb_sc3 (At.cell (hq.at hrd) rfl)) hS <| Tk 5 rfl (fun _ _ => r_lss rfl rfl) hS <| Tx 6 rfl (fun _ _ => r_move (v := .bool _) rfl) hS (fun hs31_6 => ?_) fun hs31_6 => ?_
 refine Tp 7 rfl hS <| Tp 8 rfl hS <| Tp 9 rfl hS <| Tp 10 rfl hS <| Tp 11 rfl hS <| Tp 12 rfl hS <| Tp 13 rfl hS <| Tp 14 rfl hS <| Tp 15 rfl hS <| Tp 16 rfl hS <| Tp 17 rfl hS <| Ty 18 rfl rfl hS <| To 19 rfl (Yd.call (r_call (q := 53) (first := #[]) (cap := #[]) (vs := #[.bool true]) rfl tb_c53 (by simp only [List.map_toArray, List.map_cons, List.map_nil, List.append_toArray, List.nil_append, List.cons_append]; rfl)) (C___pla_reader__take_1 _ _) fun v31_19 W241 hE242 hP31_19 => ⟨.inl (hS.trans hE242), ?_⟩)
 replace hrd := hE242.at hrd
 replace hlv := hE242.ow hlv
 replace hls := LsO.ext hE242 hls
 replace hX := Dx.trans hX (Dx.ext hE242)
 replace hB := below_ext hB hE242 hN0
 replace hS := hS.trans hE242
 obtain rfl := hP31_19
 refine Ti 20 rfl rfl hS <| Td <| Zt <| ret_t (v := .int .i64 _) rfl ?_
 have hpn : ¬ (Lib.hasPrefix line typeW = true ∧ r.st = 2) := by first | exact fun e => hc3 e.2 | exact fun e => Bool.noConfusion (hs14_1.symm.trans e.1)
 first | (rw [tk_p hc0 hc1 hc2 hpn hs25_2 hc6]; exact ⟨hX, rfl, ⟨lv, vs, hrd, hlv, hls⟩⟩) | (have hpp : ¬ (numP line [46, 112] 0 64 ≥ 0 ∧ r.st ≤ 3) := (by first | exact fun e => hc6 e.2 | exact fun e => hs25_2 e.1); first | (rw [tk_e hc0 hc1 hc2 hpn hpp hc7]; refine ⟨hX, congrArg (Value.int .i64) ?_, ⟨lv, vs, hrd, hlv, hls⟩⟩; first | (rw [decide_eq_true hs31_6]; rfl) | (rw [decide_eq_false hs31_6, Bool.false_or, ← hlen]; rfl)) | (rw [tk_r hc0 hc1 hc2 hpn hpp hc7 hrk33_2]; refine ⟨hX, congrArg (Value.int .i64) ?_, hR33_2⟩; first | exact (if_pos (by omega)).symm | exact (if_neg (by omega)).symm) | (rw [tk_rn hc0 hc1 hc2 hpn hpp hc7 hrk33_2]; exact ⟨hX, rfl, hR33_2⟩))
 refine Tq 7 rfl rfl hS <| Tc 8 rfl rfl hS <| Tf 9 rfl rfl tb_fo74_2 hS <| Tk 10 rfl (fun _ hq => r_load1 (v := .int .i64 _) rfl tb_sc3 (At.cell (hq.at hrd) rfl)) hS <| Tq 11 rfl rfl hS <| Tc 12 rfl rfl hS <| Tf 13 rfl rfl tb_fo74_0 hS <| Tf 14 rfl rfl tb_fo24_3 hS <| Tk 15 rfl (fun _ hq => r_load1 (v := lv) rfl tb_sc22 (At.cell (hq.at hrd) rfl)) hS <| Tk 16 rfl (fun _ hq => r_lenS (v := lv) rfl ((hq.ow hlv)).sl tb_el22) hS <| Tk 17 rfl (fun _ _ => r_eql rfl rfl) hS <| Ty 18 rfl rfl hS <| To 19 rfl (Yd.call (r_call (q := 53) (first := #[]) (cap := #[]) (vs := #[.bool _]) rfl tb_c53 (by simp only [List.map_toArray, List.map_cons, List.map_nil, List.append_toArray, List.nil_append, List.cons_append]; rfl)) (C___pla_reader__take_1 _ _) fun v31_19 W245 hE246 hP31_19 => ⟨.inl (hS.trans hE246), ?_⟩)
 replace hrd := hE246.at hrd
 replace hlv := hE246.ow hlv
 replace hls := LsO.ext hE246 hls
 replace hX := Dx.trans hX (Dx.ext hE246)
 replace hB := below_ext hB hE246 hN0
 replace hS := hS.trans hE246
 obtain rfl := hP31_19
 refine Ti 20 rfl rfl hS <| Td <| Zt <| ret_t (v := .int .i64 _) rfl ?_
 have hpn : ¬ (Lib.hasPrefix line typeW = true ∧ r.st = 2) := by first | exact fun e => hc3 e.2 | exact fun e => Bool.noConfusion (hs14_1.symm.trans e.1)
 first | (rw [tk_p hc0 hc1 hc2 hpn hs25_2 hc6]; exact ⟨hX, rfl, ⟨lv, vs, hrd, hlv, hls⟩⟩) | (have hpp : ¬ (numP line [46, 112] 0 64 ≥ 0 ∧ r.st ≤ 3) := (by first | exact fun e => hc6 e.2 | exact fun e => hs25_2 e.1); first | (rw [tk_e hc0 hc1 hc2 hpn hpp hc7]; refine ⟨hX, congrArg (Value.int .i64) ?_, ⟨lv, vs, hrd, hlv, hls⟩⟩; first | (rw [decide_eq_true hs31_6]; rfl) | (rw [decide_eq_false hs31_6, Bool.false_or, ← hlen]; rfl)) | (rw [tk_r hc0 hc1 hc2 hpn hpp hc7 hrk33_2]; refine ⟨hX, congrArg (Value.int .i64) ?_, hR33_2⟩; first | exact (if_pos (by omega)).symm | exact (if_neg (by omega)).symm) | (rw [tk_rn hc0 hc1 hc2 hpn hpp hc7 hrk33_2]; exact ⟨hX, rfl, hR33_2⟩))
 refine WC_skip <| hK229 _ _ <| Zr <| Zp rfl <| Zc rfl <| Zf rfl tb_fo74_0 <| Zf rfl tb_fo24_3 <| ZL lv rfl tb_sc22 hrd rfl <| Zv (r_lenS (v := lv) rfl hlv.sl tb_el22) <| Zv (r_eql rfl rfl) <| Zb rfl <| WL_nil <| WC_seq fun K251 hK252 => Zr ?_
 refine Zp rfl <| Zw (.string _) rfl <| ZH tb_c57 (C___pla_reader__row N br ⟨r.T, 4, r.told⟩ line _ (Nat.le_trans hN0 (Below.size hB)) (fun _ h => hgl _ (Below.trans hB h)) hl lob h64 ⟨lv, vs, hrd, hlv, hls⟩) rfl fun v33_2 W255 hP33_2 => ?_
 obtain ⟨hX33_2, hP33_2⟩ := hP33_2
 replace hB := Below.dx hB (Nat.le_refl _) hN0 hX33_2
 replace hX := hX.trans hX33_2
 clear hrd hlv hls
 rcases hP33_2 with hP33_2 | hP33_2
 obtain ⟨hrk33_2, rfl, hR33_2⟩ := hP33_2
 refine Zv (r_not rfl) <| WL_nil <| WC_cond_false rfl <| WC_skip <| hK252 _ _ <| WC_seq fun K257 hK258 => Zr <| Zb rfl <| WL_nil <| ZQ rfl (fun hc9 => ?_) fun hc9 => ?_
 refine Zr <| Zi rfl <| WL_nil <| Zt <| ret_t (v := .int .i64 3) rfl ?_
 have hpn : ¬ (Lib.hasPrefix line typeW = true ∧ r.st = 2) := by first | exact fun e => hc3 e.2 | exact fun e => Bool.noConfusion (hs14_1.symm.trans e.1)
 first | (rw [tk_p hc0 hc1 hc2 hpn hs25_2 hc6]; exact ⟨hX, rfl, ⟨lv, vs, hrd, hlv, hls⟩⟩) | (have hpp : ¬ (numP line [46, 112] 0 64 ≥ 0 ∧ r.st ≤ 3) := (by first | exact fun e => hc6 e.2 | exact fun e => hs25_2 e.1); first | (rw [tk_e hc0 hc1 hc2 hpn hpp hc7]; refine ⟨hX, congrArg (Value.int .i64) ?_, ⟨lv, vs, hrd, hlv, hls⟩⟩; first | (rw [decide_eq_true hs31_6]; rfl) | (rw [decide_eq_false hs31_6, Bool.false_or, ← hlen]; rfl)) | (rw [tk_r hc0 hc1 hc2 hpn hpp hc7 hrk33_2]; refine ⟨hX, congrArg (Value.int .i64) ?_, hR33_2⟩; first | exact (if_pos (by omega)).symm | exact (if_neg (by omega)).symm) | (rw [tk_rn hc0 hc1 hc2 hpn hpp hc7 hrk33_2]; exact ⟨hX, rfl, hR33_2⟩))
 refine WC_skip <| hK258 _ _ <| Zr <| Zi rfl <| WL_nil <| Zt <| ret_t (v := .int .i64 0) rfl ?_
 have hpn : ¬ (Lib.hasPrefix line typeW = true ∧ r.st = 2) := by first | exact fun e => hc3 e.2 | exact fun e => Bool.noConfusion (hs14_1.symm.trans e.1)
 first | (rw [tk_p hc0 hc1 hc2 hpn hs25_2 hc6]; exact ⟨hX, rfl, ⟨lv, vs, hrd, hlv, hls⟩⟩) | (have hpp : ¬ (numP line [46, 112] 0 64 ≥ 0 ∧ r.st ≤ 3) := (by first | exact fun e => hc6 e.2 | exact fun e => hs25_2 e.1); first | (rw [tk_e hc0 hc1 hc2 hpn hpp hc7]; refine ⟨hX, congrArg (Value.int .i64) ?_, ⟨lv, vs, hrd, hlv, hls⟩⟩; first | (rw [decide_eq_true hs31_6]; rfl) | (rw [decide_eq_false hs31_6, Bool.false_or, ← hlen]; rfl)) | (rw [tk_r hc0 hc1 hc2 hpn hpp hc7 hrk33_2]; refine ⟨hX, congrArg (Value.int .i64) ?_, hR33_2⟩; first | exact (if_pos (by omega)).symm | exact (if_neg (by omega)).symm) | (rw [tk_rn hc0 hc1 hc2 hpn hpp hc7 hrk33_2]; exact ⟨hX, rfl, hR33_2⟩))
 obtain ⟨hrk33_2, rfl, hR33_2⟩ := hP33_2
 refine Zv (r_not rfl) <| WL_nil <| WC_cond_true rfl <| Zr <| Zi rfl <| WL_nil <| Zt <| ret_t (v := .int .i64 2) rfl ?_
 have hpn : ¬ (Lib.hasPrefix line typeW = true ∧ r.st = 2) := by first | exact fun e => hc3 e.2 | exact fun e => Bool.noConfusion (hs14_1.symm.trans e.1)
 first | (rw [tk_p hc0 hc1 hc2 hpn hs25_2 hc6]; exact ⟨hX, rfl, ⟨lv, vs, hrd, hlv, hls⟩⟩) | (have hpp : ¬ (numP line [46, 112] 0 64 ≥ 0 ∧ r.st ≤ 3) := (by first | exact fun e => hc6 e.2 | exact fun e => hs25_2 e.1); first | (rw [tk_e hc0 hc1 hc2 hpn hpp hc7]; refine ⟨hX, congrArg (Value.int .i64) ?_, ⟨lv, vs, hrd, hlv, hls⟩⟩; first | (rw [decide_eq_true hs31_6]; rfl) | (rw [decide_eq_false hs31_6, Bool.false_or, ← hlen]; rfl)) | (rw [tk_r hc0 hc1 hc2 hpn hpp hc7 hrk33_2]; refine ⟨hX, congrArg (Value.int .i64) ?_, hR33_2⟩; first | exact (if_pos (by omega)).symm | exact (if_neg (by omega)).symm) | (rw [tk_rn hc0 hc1 hc2 hpn hpp hc7 hrk33_2]; exact ⟨hX, rfl, hR33_2⟩))
 refine Zs <| Zs <| Zs <| Zs <| Zs <| Zb rfl <| WL_nil <| WC_cond_false rfl <| WC_skip <| hK205 _ _ <| Zr <| Zp rfl <| Zc rfl <| Zf rfl tb_fo74_1 ?_
 refine Zy (Y_store1 (v := .int .i64 4) rfl rfl tb_sc3 rfl hrd (by simp) fun W269 hG270 hm271 => ?_)
 replace hlv := OwT.grownAt hlv hrd hG270 Dc
 replace hls := LsO.grownAt hls hrd hG270 Dc
 replace hX := Dx.trans hX (Dx.grown hG270 (by simp) lob)
 replace hB := below_grown hB hG270 hN0 (fun j hj => by cases hj; exact lob)
 clear hG270 hrd
 replace hrd := hm271
 replace hrd : At _ _ #[_, _, _, _, _, _] _ := hrd
 refine WL_nil <| WC_seq fun K272 hK273 => Zr <| Zw (.string _) rfl <| Zv (r_eqlW rfl rfl) <| WL_nil <| ZQ rfl (fun hc7 => ?_) fun hc7 => ?_
 refine Zr <| Zp rfl <| Zc rfl <| Zf rfl tb_fo74_1 <| Zy (Y_store1 (v := .int .i64 5) rfl rfl tb_sc3 rfl hrd (by simp) fun W278 hG279 hm280 => ?_)
 replace hlv := OwT.grownAt hlv hrd hG279 Dc
 replace hls := LsO.grownAt hls hrd hG279 Dc
 replace hX := Dx.trans hX (Dx.grown hG279 (by simp) lob)
 replace hB := below_grown hB hG279 hN0 (fun j hj => by cases hj; exact lob)
 clear hG279 hrd
 replace hrd := hm280
 replace hrd : At _ _ #[_, _, _, _, _, _] _ := hrd
 refine WL_nil <| Zd Ext fun W283 hE284 => ?_
 replace hrd := hE284.at hrd
 replace hlv := hE284.ow hlv
 replace hls := LsO.ext hE284 hls
 replace hX := Dx.trans hX (Dx.ext hE284)
 replace hB := below_ext hB hE284 hN0
 have hS := Ext.refl W283
 refine Tw 0 (.func (.func 53) #[] #[]) rfl rfl hS <| Tq 1 rfl rfl hS <| Tc 2 rfl rfl hS <| Tf 3 rfl rfl tb_fo74_2 hS <| Tk 4 rfl (fun _ hq => r_load1 (v := .int .i64 _) rfl tb_sc3 (At.cell (hq.at hrd) rfl)) hS <| Tk 5 rfl (fun _ _ => r_lss rfl rfl) hS <| Tx 6 rfl (fun _ _ => r_move (v := .bool _) rfl) hS (fun hs31_6 => ?_) fun hs31_6 => ?_
 refine Tp 7 rfl hS <| Tp 8 rfl hS <| Tp 9 rfl hS <| Tp 10 rfl hS <| Tp 11 rfl hS <| Tp 12 rfl hS <| Tp 13 rfl hS <| Tp 14 rfl hS <| Tp 15 rfl hS <| Tp 16 rfl hS <| Tp 17 rfl hS <| Ty 18 rfl rfl hS <| To 19 rfl (Yd.call (r_call (q := 53) (first := #[]) (cap := #[]) (vs := #[.bool true]) rfl tb_c53 (by simp only [List.map_toArray, List.map_cons, List.map_nil, List.append_toArray, List.nil_append, List.cons_append]; rfl)) (C___pla_reader__take_1 _ _) fun v31_19 W285 hE286 hP31_19 => ⟨.inl (hS.trans hE286), ?_⟩)
 replace hrd := hE286.at hrd
 replace hlv := hE286.ow hlv
 replace hls := LsO.ext hE286 hls
 replace hX := Dx.trans hX (Dx.ext hE286)
 replace hB := below_ext hB hE286 hN0
 replace hS := hS.trans hE286
 obtain rfl := hP31_19
 refine Ti 20 rfl rfl hS <| Td <| Zt <| ret_t (v := .int .i64 _) rfl ?_
 have hpn : ¬ (Lib.hasPrefix line typeW = true ∧ r.st = 2) := by first | exact fun e => hc3 e.2 | exact fun e => Bool.noConfusion (hs14_1.symm.trans e.1)
 first | (rw [tk_p hc0 hc1 hc2 hpn hs25_2 hc6]; exact ⟨hX, rfl, ⟨lv, vs, hrd, hlv, hls⟩⟩) | (have hpp : ¬ (numP line [46, 112] 0 64 ≥ 0 ∧ r.st ≤ 3) := (by first | exact fun e => hc6 e.2 | exact fun e => hs25_2 e.1); first | (rw [tk_e hc0 hc1 hc2 hpn hpp hc7]; refine ⟨hX, congrArg (Value.int .i64) ?_, ⟨lv, vs, hrd, hlv, hls⟩⟩; first | (rw [decide_eq_true hs31_6]; rfl) | (rw [decide_eq_false hs31_6, Bool.false_or, ← hlen]; rfl)) | (rw [tk_r hc0 hc1 hc2 hpn hpp hc7 hrk33_2]; refine ⟨hX, congrArg (Value.int .i64) ?_, hR33_2⟩; first | exact (if_pos (by omega)).symm | exact (if_neg (by omega)).symm) | (rw [tk_rn hc0 hc1 hc2 hpn hpp hc7 hrk33_2]; exact ⟨hX, rfl, hR33_2⟩))
 refine Tq 7 rfl rfl hS <| Tc 8 rfl rfl hS <| Tf 9 rfl rfl tb_fo74_2 hS <| Tk 10 rfl (fun _ hq => r_load1 (v := .int .i64 _) rfl tb_sc3 (At.cell (hq.at hrd) rfl)) hS <| Tq 11 rfl rfl hS <| Tc 12 rfl rfl hS <| Tf 13 rfl rfl tb_fo74_0 hS <| Tf 14 rfl rfl tb_fo24_3 hS <| Tk 15 rfl (fun _ hq => r_load1 (v := lv) rfl tb_sc22 (At.cell (hq.at hrd) rfl)) hS <| Tk 16 rfl (fun _ hq => r_lenS (v := lv) rfl ((hq.ow hlv)).sl tb_el22) hS <| Tk 17 rfl (fun _ _ => r_eql rfl rfl) hS <| Ty 18 rfl rfl hS <| To 19 rfl (Yd.call (r_call (q := 53) (first := #[]) (cap := #[]) (vs := #[.bool _]) rfl tb_c53 (by simp only [List.map_toArray, List.map_cons, List.map_nil, List.append_toArray, List.nil_append, List.cons_append]; rfl)) (C___pla_reader__take_1 _ _) fun v31_19 W289 hE290 hP31_19 => ⟨.inl (hS.trans hE290), ?_⟩)
 replace hrd := hE290.at hrd
 replace hlv := hE290.ow hlv
 replace hls := LsO.ext hE290 hls
 replace hX := Dx.trans hX (Dx.ext hE290)
 replace hB := below_ext hB hE290 hN0
 replace hS := hS.trans hE290
 obtain rfl := hP31_19
 refine Ti 20 rfl rfl hS <| Td <| Zt <| ret_t (v := .int .i64 _) rfl ?_
 have hpn : ¬ (Lib.hasPrefix line typeW = true ∧ r.st = 2) := by first | exact fun e => hc3 e.2 | exact fun e => Bool.noConfusion (hs14_1.symm.trans e.1)
 first | (rw [tk_p hc0 hc1 hc2 hpn hs25_2 hc6]; exact ⟨hX, rfl, ⟨lv, vs, hrd, hlv, hls⟩⟩) | (have hpp : ¬ (numP line [46, 112] 0 64 ≥ 0 ∧ r.st ≤ 3) := (by first | exact fun e => hc6 e.2 | exact fun e => hs25_2 e.1); first | (rw [tk_e hc0 hc1 hc2 hpn hpp hc7]; refine ⟨hX, congrArg (Value.int .i64) ?_, ⟨lv, vs, hrd, hlv, hls⟩⟩; first | (rw [decide_eq_true hs31_6]; rfl) | (rw [decide_eq_false hs31_6, Bool.false_or, ← hlen]; rfl)) | (rw [tk_r hc0 hc1 hc2 hpn hpp hc7 hrk33_2]; refine ⟨hX, congrArg (Value.int .i64) ?_, hR33_2⟩; first | exact (if_pos (by omega)).symm | exact (if_neg (by omega)).symm) | (rw [tk_rn hc0 hc1 hc2 hpn hpp hc7 hrk33_2]; exact ⟨hX, rfl, hR33_2⟩))
 refine WC_skip <| hK273 _ _ <| Zr <| Zp rfl <| Zc rfl <| Zf rfl tb_fo74_0 <| Zf rfl tb_fo24_3 <| ZL lv rfl tb_sc22 hrd rfl <| Zv (r_lenS (v := lv) rfl hlv.sl tb_el22) <| Zv (r_eql rfl rfl) <| Zb rfl <| WL_nil <| WC_seq fun K295 hK296 => Zr ?_
 refine Zp rfl <| Zw (.string _) rfl <| ZH tb_c57 (C___pla_reader__row N br ⟨r.T, 4, r.told⟩ line _ (Nat.le_trans hN0 (Below.size hB)) (fun _ h => hgl _ (Below.trans hB h)) hl lob h64 ⟨lv, vs, hrd, hlv, hls⟩) rfl fun v33_2 W299 hP33_2 => ?_
 obtain ⟨hX33_2, hP33_2⟩ := hP33_2
 replace hB := Below.dx hB (Nat.le_refl _) hN0 hX33_2
 replace hX := hX.trans hX33_2
 clear hrd hlv hls
 rcases hP33_2 with hP33_2 | hP33_2
 obtain ⟨hrk33_2, rfl, hR33_2⟩ := hP33_2
 refine Zv (r_not rfl) <| WL_nil <| WC_cond_false rfl <| WC_skip <| hK296 _ _ <| WC_seq fun K301 hK302 => Zr <| Zb rfl <| WL_nil <| ZQ rfl (fun hc9 => ?_) fun hc9 => ?_
 refine Zr <| Zi rfl <| WL_nil <| Zt <| ret_t (v := .int .i64 3) rfl ?_
 have hpn : ¬ (Lib.hasPrefix line typeW = true ∧ r.st = 2) := by first | exact fun e => hc3 e.2 | exact fun e => Bool.noConfusion (hs14_1.symm.trans e.1)
 first | (rw [tk_p hc0 hc1 hc2 hpn hs25_2 hc6]; exact ⟨hX, rfl, ⟨lv, vs, hrd, hlv, hls⟩⟩) | (have hpp : ¬ (numP line [46, 112] 0 64 ≥ 0 ∧ r.st ≤ 3) := (by first | exact fun e => hc6 e.2 | exact fun e => hs25_2 e.1); first | (rw [tk_e hc0 hc1 hc2 hpn hpp hc7]; refine ⟨hX, congrArg (Value.int .i64) ?_, ⟨lv, vs, hrd, hlv, hls⟩⟩; first | (rw [decide_eq_true hs31_6]; rfl) | (rw [decide_eq_false hs31_6, Bool.false_or, ← hlen]; rfl)) | (rw [tk_r hc0 hc1 hc2 hpn hpp hc7 hrk33_2]; refine ⟨hX, congrArg (Value.int .i64) ?_, hR33_2⟩; first | exact (if_pos (by omega)).symm | exact (if_neg (by omega)).symm) | (rw [tk_rn hc0 hc1 hc2 hpn hpp hc7 hrk33_2]; exact ⟨hX, rfl, hR33_2⟩))
 refine WC_skip <| hK302 _ _ <| Zr <| Zi rfl <| WL_nil <| Zt <| ret_t (v := .int .i64 0) rfl ?_
 have hpn : ¬ (Lib.hasPrefix line typeW = true ∧ r.st = 2) := by first | exact fun e => hc3 e.2 | exact fun e => Bool.noConfusion (hs14_1.symm.trans e.1)
 first | (rw [tk_p hc0 hc1 hc2 hpn hs25_2 hc6]; exact ⟨hX, rfl, ⟨lv, vs, hrd, hlv, hls⟩⟩) | (have hpp : ¬ (numP line [46, 112] 0 64 ≥ 0 ∧ r.st ≤ 3) := (by first | exact fun e => hc6 e.2 | exact fun e => hs25_2 e.1); first | (rw [tk_e hc0 hc1 hc2 hpn hpp hc7]; refine ⟨hX, congrArg (Value.int .i64) ?_, ⟨lv, vs, hrd, hlv, hls⟩⟩; first | (rw [decide_eq_true hs31_6]; rfl) | (rw [decide_eq_false hs31_6, Bool.false_or, ← hlen]; rfl)) | (rw [tk_r hc0 hc1 hc2 hpn hpp hc7 hrk33_2]; refine ⟨hX, congrArg (Value.int .i64) ?_, hR33_2⟩; first | exact (if_pos (by omega)).symm | exact (if_neg (by omega)).symm) | (rw [tk_rn hc0 hc1 hc2 hpn hpp hc7 hrk33_2]; exact ⟨hX, rfl, hR33_2⟩))
 obtain ⟨hrk33_2, rfl, hR33_2⟩ := hP33_2
 refine Zv (r_not rfl) <| WL_nil <| WC_cond_true rfl <| Zr <| Zi rfl <| WL_nil <| Zt <| ret_t (v := .int .i64 2) rfl ?_
 have hpn : ¬ (Lib.hasPrefix line typeW = true ∧ r.st = 2) := by first | exact fun e => hc3 e.2 | exact fun e => Bool.noConfusion (hs14_1.symm.trans e.1)
 first | (rw [tk_p hc0 hc1 hc2 hpn hs25_2 hc6]; exact ⟨hX, rfl, ⟨lv, vs, hrd, hlv, hls⟩⟩) | (have hpp : ¬ (numP line [46, 112] 0 64 ≥ 0 ∧ r.st ≤ 3) := (by first | exact fun e => hc6 e.2 | exact fun e => hs25_2 e.1); first | (rw [tk_e hc0 hc1 hc2 hpn hpp hc7]; refine ⟨hX, congrArg (Value.int .i64) ?_, ⟨lv, vs, hrd, hlv, hls⟩⟩; first | (rw [decide_eq_true hs31_6]; rfl) | (rw [decide_eq_false hs31_6, Bool.false_or, ← hlen]; rfl)) | (rw [tk_r hc0 hc1 hc2 hpn hpp hc7 hrk33_2]; refine ⟨hX, congrArg (Value.int .i64) ?_, hR33_2⟩; first | exact (if_pos (by omega)).symm | exact (if_neg (by omega)).symm) | (rw [tk_rn hc0 hc1 hc2 hpn hpp hc7 hrk33_2]; exact ⟨hX, rfl, hR33_2⟩))

theorem C_pla_Parse (s : List UInt8) (w : World) (hgl : Gl w) (hsl : s.length ≤ 100000) :
    Fn Tryz.prog 16 #[keyW s] w fun v w' => ∃ lv vs, v = .tuple #[.agg #[.int .i64 (parseT s).1.kind, .int .i64 (parseT s).1.ni, .int .i64 (parseT s).1.no, lv], .int .i64 ((parseT s).2.1 : Int), .int .i64 (parseT s).2.2] ∧ SlT encLn 3 w' lv vs ∧ LsAt w' vs (parseT s).1.ls := by
 refine Fn_intro (n := 68) Tryz.func16 rfl rfl (Nat.le_of_ble_eq_true rfl) ?_
 have hB : Below w.heap.size w w := Below.refl _ _
 have hlc := lines_count s
 obtain ⟨n, hn⟩ : ∃ n, (linesL s).length = n + 1 := ⟨(linesL s).length - 1, by have := List.length_pos_iff.2 (linesL_ne s); omega⟩
 refine Zr <| Zy (Y_alloc tb_z24 rfl fun b0_0 W3 hb4 hE5 hm0_0 => ?_)
 have lo_b0_0 := ZO hb4 hB
 clear hb4
 replace hB := Ze hB hE5
 refine Zi rfl <| Zi rfl <| WL_nil <| WC_seq fun K6 hK7 => Zr <| Zw (.string _) rfl <| Zv (r_lenW rfl Tryz.underlying9) <| Zv (r_gtr rfl rfl) <| WL_nil <| ZQ rfl (fun hc0 => ?_) fun hc0 => ?_
 refine Zr <| Zv (tb_build24_ ) <| Zy (Y_storeW rfl rfl tb_ag24 rfl hm0_0 rfl rfl fun W12 hG13 hm14 => ?_)
 replace hB := Zg hB hG13 lo_b0_0
 replace hm0_0 := hm14
 refine Zi rfl <| Zi rfl <| WL_nil <| Zt <| ret_ctt rfl tb_ag24 hm0_0 rfl (v1 := .int .i64 0) rfl (v2 := .int .i64 3) rfl ⟨hB, ?_⟩
 rw [prs_long (by omega)]
 exact ⟨_, [], rfl, SlT.nil, LsAt.nil⟩
 refine WC_skip <| hK7 _ _ <| Zr <| Zv (tb_build24_0 (h0 := rfl) (k0 := rfl) (c0_0 := .int .i64 1)) <| Zv (tb_build74_0_2 (h0 := rfl) (h1 := rfl) (k1 := rfl) (c1_0 := .int .i64 _)) <| Zy (Y_box (c := #[_, _, _, _, _, _]) rfl rfl fun b3_2 W17 hb18 hE19 hm3_2 => ?_)
 have lo_b3_2 := ZO hb18 hB
 clear hb18
 replace hB := Ze hB hE19
 replace hm0_0 := hE19.at hm0_0
 refine Zp rfl <| WL_nil ?_
 have hR : RdAt 74 44 3 w.heap.size W17 b3_2 (rd0) := ⟨_, [], hm3_2, OwT.nil, LsO.nil⟩
 refine Zr <| Zw (.string _) rfl <| ZC tb_c35 (C_strings_Split _ _ (Gl.below hB hgl) (by first | assumption | omega | (simp; omega) | simp)) rfl fun v4_1 W22 hE23 hP4_1 => ?_
 have hsz24 := (Below.size hB)
 replace hB := Ze hB hE23
 replace hm0_0 := hE23.at hm0_0
 replace hR := RdAt.ext hE23 hR
 replace hP4_1 := OwT.mono hP4_1 hsz24
 refine Zw v4_1 rfl <| WL_nil <| Zr <| Zw v4_1 rfl <| Zv (r_lenS (v := v4_1) rfl hP4_1.sl tb_el75) <| Zv (r_pred rfl rfl hn Om) <| Zi rfl <| WL_nil <| WC_seq fun K27 hK28 => ?_
 have hC : (linesL s).length ≤ slC v4_1 := (Sl.eqv (OwT.sl hP4_1)).2.1
 refine Zr <| Zw v4_1 rfl <| Zi rfl <| Zv (r_sliceHi (v := v4_1) rfl hP4_1.sl tb_el75 rfl Om Om) ?_
 have hp6_2 : SlT encW 1 W22 (slOf 1 v4_1 0 n (slC v4_1)) (((linesL s).drop 0).take (n - 0)) := SlT.part encW_len hP4_1.sl (by omega) (by omega) (by omega) (by omega)
 refine Zv (r_lenS (v := slOf 1 v4_1 0 n (slC v4_1)) rfl hp6_2 tb_el75) <| Zi rfl <| WL_nil <| WC_block ?_
 refine WC_loop (σ := (Nat)) [3, 4, 8, 9, 10, 27, 28, 29, 30, 31, 32, 33, 34, 35, 36, 37, 38, 39, 40, 41, 42, 43, 44, 45, 46, 47] (fun k => [(27, .int .i64 (k : Int))]) (fun k W => (Below w.heap.size w W) ∧ (At W b0_0 _ 24) ∧ (OwT encW 1 9 W w.heap.size v4_1 _) ∧ (SlT encW 1 W (slOf 1 v4_1 0 n (slC v4_1)) _) ∧ (RdAt 74 44 3 w.heap.size W b3_2 (rdK (linesL s) k)) ∧ (k ≤ n) ∧ (∀ q, q < k → errT (rdK (linesL s) q) ((linesL s).getD q []) = 0) ∧ (True)) (fun k => n - k) (0) ⟨rfl, trivial⟩ ⟨hB, hm0_0, hP4_1, hp6_2, hR, (Nat.zero_le _), upTo_zero, trivial⟩ ?_
 clear hB hm0_0 hR hP4_1 hp6_2
 rintro k g32 W31 ⟨hB, hm0_0, hP4_1, hp6_2, hR, hk, herr, _⟩ J33 hJ34
 refine Zr <| Zv (r_lss rfl rfl) <| WL_nil <| WC_seq fun K37 hK38 => ZQ rfl (fun hc1 => ?_) fun hc1 => ?_
 refine WC_skip <| hK38 _ _ <| WC_seq fun K39 hK40 => WC_block ?_
 have hpl := part_len (ls := linesL s) hn
 rw [hpl] at hc1
 refine Zr <| Zi rfl <| Zv (r_idxS (v := slOf 1 v4_1 0 n (slC v4_1)) rfl hp6_2 rfl tb_el75 Om (by first | omega | (simp only [kindsL_len]; omega))) <| Zv (r_load1 (v := .string _) rfl tb_sc9 (SlT.cell hp6_2 encW_len [] Om (by first | omega | (simp only [kindsL_len]; omega)) 0 rfl)) <| Zi rfl <| Zw (.string _) rfl <| WL_nil <| WC_seq fun K43 hK44 => ?_
 have hline : (((linesL s).drop 0).take (n - 0)).getD (k : Int).toNat [] = (linesL s).getD k [] := take_part _ (by omega)
 rw [hline]
 refine Zr <| Zw (.string _) rfl <| Zv (r_eqlW rfl rfl) <| ZX rfl (fun hs9_2 => ?_) fun hs9_2 => ?_
 refine Zs <| Zs <| Zs <| Zb rfl <| WL_nil <| WC_cond_true rfl <| WC_exit <| hK40 _ _ <| WC_region <| Zv (r_addI rfl rfl Om Om) <| Zi rfl <| WL_nil ?_
 exact hJ34 _ _ (k + 1) Za ⟨rfl, trivial⟩ ⟨hB, hm0_0, hP4_1, hp6_2, (by rw [rdK_succ Om]; first | (rw [(step_skip (skip_nil hs9_2)).1]; exact hR) | (rw [(step_skip (skip_hash hc2)).1]; exact hR) | (rw [(step_take (skip_not hs9_2 hc2)).1]; exact hR)), Om, (upTo_succ herr (by first | exact (step_skip (skip_nil hs9_2)).2 | exact (step_skip (skip_hash hc2)).2 | exact (step_take (skip_not hs9_2 hc2)).2.trans (Decidable.of_not_not hc3))), trivial⟩ Zo
 refine Zw (.string _) rfl <| Zv (r_indexW (i := 0) rfl rfl Tryz.underlying9 (by exact List.length_pos_iff.2 hs9_2)) <| Zv (r_eql rfl rfl) <| Zb rfl <| WL_nil <| ZQ rfl (fun hc2 => ?_) fun hc2 => ?_
 refine WC_exit <| hK40 _ _ <| WC_region <| Zv (r_addI rfl rfl Om Om) <| Zi rfl <| WL_nil ?_
 exact hJ34 _ _ (k + 1) Za ⟨rfl, trivial⟩ ⟨hB, hm0_0, hP4_1, hp6_2, (by rw [rdK_succ Om]; first | (rw [(step_skip (skip_nil hs9_2)).1]; exact hR) | (rw [(step_skip (skip_hash hc2)).1]; exact hR) | (rw [(step_take (skip_not hs9_2 hc2)).1]; exact hR)), Om, (upTo_succ herr (by first | exact (step_skip (skip_nil hs9_2)).2 | exact (step_skip (skip_hash hc2)).2 | exact (step_take (skip_not hs9_2 hc2)).2.trans (Decidable.of_not_not hc3))), trivial⟩ Zo
 refine WC_skip <| hK44 _ _ <| Zr <| Zp rfl <| Zw (.string _) rfl <| ZH tb_c36 (C___pla_reader__take w.heap.size b3_2 (rdK (linesL s) k) ((linesL s).getD k []) _ (Below.size hB) (fun _ h => Gl.below (Below.trans hB h) hgl) (by have := lines_getD s k; omega) lo_b3_2 (ls_len_k herr Om) hR) rfl fun v10_2 W49 hP10_2 => ?_
 obtain ⟨hX10_2, rfl, hR10_2⟩ := hP10_2
 replace hB := Below.dx hB (Nat.le_refl _) (Nat.le_refl _) hX10_2
 replace hm0_0 := At.rd hR hX10_2 hm0_0 Dc Dc
 replace hP4_1 := OwT.rd hR hX10_2 hP4_1 Dc Dc
 replace hp6_2 := SlT.part (l := 0) (h := n) (m := slC v4_1) encW_len (OwT.sl hP4_1) (Nat.zero_le _) Om Om (Nat.le_refl _)
 replace hR := hR10_2
 refine Zi rfl <| WL_nil <| Zr <| Zi rfl <| Zv (r_neq rfl rfl) <| WL_nil <| ZQ rfl (fun hc3 => ?_) fun hc3 => ?_
 refine Zr <| Zv (tb_build24_ ) <| Zi rfl <| Zi rfl <| Zy (Y_storeW rfl rfl tb_ag24 rfl hm0_0 rfl rfl fun W55 hG56 hm57 => ?_)
 replace hB := Zg hB hG56 lo_b0_0
 replace hP4_1 := OwT.grownAt hP4_1 hm0_0 hG56 Dc
 replace hR := RdAt.grownAt hR hm0_0 hG56 Dc Dc Dc
 clear hp6_2
 replace hm0_0 := hm57
 refine Zi rfl <| Zi rfl <| WL_nil <| Zt <| ret_ctt rfl tb_ag24 hm0_0 rfl (v1 := .int .i64 _) rfl (v2 := .int .i64 _) rfl ⟨hB, ?_⟩
 rw [prs_bad (k := k) (by omega) hn (by omega) herr (by rw [(step_take (skip_not hs9_2 hc2)).2]; exact hc3), (step_take (skip_not hs9_2 hc2)).2]
 exact ⟨_, [], rfl, SlT.nil, LsAt.nil⟩
 refine WC_skip <| hK40 _ _ <| WC_region <| Zv (r_addI rfl rfl Om Om) <| Zi rfl <| WL_nil ?_
 exact hJ34 _ _ (k + 1) Za ⟨rfl, trivial⟩ ⟨hB, hm0_0, hP4_1, hp6_2, (by rw [rdK_succ Om]; first | (rw [(step_skip (skip_nil hs9_2)).1]; exact hR) | (rw [(step_skip (skip_hash hc2)).1]; exact hR) | (rw [(step_take (skip_not hs9_2 hc2)).1]; exact hR)), Om, (upTo_succ herr (by first | exact (step_skip (skip_nil hs9_2)).2 | exact (step_skip (skip_hash hc2)).2 | exact (step_take (skip_not hs9_2 hc2)).2.trans (Decidable.of_not_not hc3))), trivial⟩ Zo
 refine WC_exit <| hK28 _ _ <| WC_seq fun K58 hK59 => WC_block ?_
 obtain ⟨lv, vs, hrd, hlv, hls⟩ := hR
 rw [part_len hn] at hc1
 obtain rfl : k = n := by omega
 refine Zr <| Zw v4_1 rfl <| Zi rfl <| Zv (r_idxS (v := v4_1) rfl hP4_1.sl rfl tb_el75 Om (by first | omega | (simp only [kindsL_len]; omega))) <| Zv (r_load1 (v := .string _) rfl tb_sc9 (SlT.cell hP4_1.sl encW_len [] Om (by first | omega | (simp only [kindsL_len]; omega)) 0 rfl)) <| Zv (r_neqW rfl rfl) <| Zb rfl <| WL_nil <| ZQ rfl (fun hc4 => ?_) fun hc4 => ?_
 refine Zr <| Zv (tb_build24_ ) <| Zi rfl <| Zy (Y_storeW rfl rfl tb_ag24 rfl hm0_0 rfl rfl fun W64 hG65 hm66 => ?_)
 replace hB := Zg hB hG65 lo_b0_0
 replace hP4_1 := OwT.grownAt hP4_1 hm0_0 hG65 Dc
 replace hrd := At.grownAt hrd hm0_0 hG65 Dc
 replace hlv := OwT.grownAt hlv hm0_0 hG65 Dc
 replace hls := LsO.grownAt hls hm0_0 hG65 Dc
 clear hp6_2
 replace hm0_0 := hm66
 refine Zi rfl <| Zi rfl <| WL_nil <| Zt <| ret_ctt rfl tb_ag24 hm0_0 rfl (v1 := .int .i64 _) rfl (v2 := .int .i64 2) rfl ⟨hB, ?_⟩
 rw [prs_tail (by omega) hn herr hc4]
 exact ⟨_, [], rfl, SlT.nil, LsAt.nil⟩
 refine Zr <| Zp rfl <| Zc rfl <| Zf rfl tb_fo74_1 <| Zl rfl tb_sc3 hrd rfl <| Zv (r_neq rfl rfl) <| Zb rfl <| WL_nil <| ZQ rfl (fun hc5 => ?_) fun hc5 => ?_
 refine Zr <| Zv (tb_build24_ ) <| Zi rfl <| Zy (Y_storeW rfl rfl tb_ag24 rfl hm0_0 rfl rfl fun W71 hG72 hm73 => ?_)
 replace hB := Zg hB hG72 lo_b0_0
 replace hP4_1 := OwT.grownAt hP4_1 hm0_0 hG72 Dc
 replace hrd := At.grownAt hrd hm0_0 hG72 Dc
 replace hlv := OwT.grownAt hlv hm0_0 hG72 Dc
 replace hls := LsO.grownAt hls hm0_0 hG72 Dc
 clear hp6_2
 replace hm0_0 := hm73
 refine Zi rfl <| Zi rfl <| WL_nil <| Zt <| ret_ctt rfl tb_ag24 hm0_0 rfl (v1 := .int .i64 _) rfl (v2 := .int .i64 7) rfl ⟨hB, ?_⟩
 rw [prs_none (by omega) hn herr (Decidable.of_not_not hc4) hc5]
 exact ⟨_, [], rfl, SlT.nil, LsAt.nil⟩
 refine WC_skip <| hK59 _ _ <| Zr <| Zp rfl <| Zc rfl <| Zf rfl tb_fo74_0 <| Zv (r_load4 rfl tb_ag24 (At.cell hrd rfl) (At.cell hrd rfl) (At.cell hrd rfl) (At.cell hrd rfl)) <| Zy (Y_storeW rfl rfl tb_ag24 rfl hm0_0 rfl (by exact one_tb (SlT.one (OwT.sl hlv))) fun W76 hG77 hm78 => ?_)
 replace hB := Zg hB hG77 lo_b0_0
 replace hP4_1 := OwT.grownAt hP4_1 hm0_0 hG77 Dc
 replace hrd := At.grownAt hrd hm0_0 hG77 Dc
 replace hlv := OwT.grownAt hlv hm0_0 hG77 Dc
 replace hls := LsO.grownAt hls hm0_0 hG77 Dc
 clear hp6_2
 replace hm0_0 := hm78
 refine Zi rfl <| Zi rfl <| WL_nil <| Zt <| ret_ctt rfl tb_ag24 hm0_0 rfl (v1 := .int .i64 0) rfl (v2 := .int .i64 0) rfl ⟨hB, ?_⟩
 rw [prs_ok (by omega) hn herr (Decidable.of_not_not hc4) (Decidable.of_not_not hc5)]
 exact ⟨lv, vs, rfl, OwT.sl hlv, hls.at⟩

end Go.Proofs.YtnkaebjaeaecmaaGreatDoor
