/-
  The statements of layer 4 that read and cover, walked: each answers true.
-/
import Derived.Test.YtnkaebjaeaecmaaGreatDoorProg
import Derived.Test.YtnkaebjaeaecmaaGreatDoorWSpec5
import Derived.Test.YtnkaebjaeaecmaaGreatDoorWLaw03
import Derived.Test.YtnkaebjaeaecmaaGreatDoorZip
namespace Go.Proofs.YtnkaebjaeaecmaaGreatDoor
set_option linter.unusedVariables false
set_option linter.unusedSimpArgs false
open Go Go.RowKit

theorem tb_c16 : callB Tryz.prog 16 = true := by kernel_rfl
theorem tb_c7 : callB Tryz.prog 7 = true := by kernel_rfl
theorem tb_build41_0_1 {f : Nat → Value} {w : World} {d : Option Nat} {ty : TypeId} {ps : String} {af : Array Edge} {g : Option (Nat × Bool)} {x0 x1 : Operand} {c0_0 c1_0 : Value} (h0 : evF f x0 = c0_0) (k0 : c0_0.cells = #[c0_0]) (h1 : evF f x1 = c1_0) (k1 : c1_0.cells = #[c1_0]) :
    (execOp (evF f) ⟨d, .build 41 #[(0, x0), (1, x1)], ty, ps, af, g⟩).run Tryz.prog w = .ok (.value (.agg #[c0_0, c1_0])) w := by
  obtain ⟨i0, hi0, hz0⟩ := Option.bind_eq_some_iff.1 (show (Tryz.prog.info? 41).bind (·.zero) = _ from tb_z41)
  obtain ⟨j5, hj5, hs5⟩ := Option.map_eq_some_iff.1 tb_size5
  simp [execOp, h0, k0, h1, k1, Instr.build, zeroValue, typeInfo, sizeOf, hi0, hz0, run_underlying Tryz.underlying41, Instr.fill, cells_agg, hj5, hs5]
theorem tb_build48_0_1 {f : Nat → Value} {w : World} {d : Option Nat} {ty : TypeId} {ps : String} {af : Array Edge} {g : Option (Nat × Bool)} {x0 x1 : Operand} {c0_0 c0_1 c1_0 : Value} (h0 : evF f x0 = .agg #[c0_0, c0_1]) (h1 : evF f x1 = c1_0) (k1 : c1_0.cells = #[c1_0]) :
    (execOp (evF f) ⟨d, .build 48 #[(0, x0), (1, x1)], ty, ps, af, g⟩).run Tryz.prog w = .ok (.value (.agg #[c0_0, c0_1, c1_0])) w := by
  obtain ⟨i0, hi0, hz0⟩ := Option.bind_eq_some_iff.1 (show (Tryz.prog.info? 48).bind (·.zero) = _ from tb_z48)
  obtain ⟨j5, hj5, hs5⟩ := Option.map_eq_some_iff.1 tb_size5
  obtain ⟨j41, hj41, hs41⟩ := Option.map_eq_some_iff.1 tb_size41
  simp [execOp, h0, h1, k1, Instr.build, zeroValue, typeInfo, sizeOf, hi0, hz0, run_underlying Tryz.underlying48, Instr.fill, cells_agg, hj5, hs5, hj41, hs41]
theorem tb_zs48 : (zeroI Tryz.prog 48).map (fun z => z.cells.size) = some 3 := by kernel_rfl
theorem tb_build51_0 {f : Nat → Value} {w : World} {d : Option Nat} {ty : TypeId} {ps : String} {af : Array Edge} {g : Option (Nat × Bool)} {x0 : Operand} {c0_0 : Value} (h0 : evF f x0 = c0_0) (k0 : c0_0.cells = #[c0_0]) :
    (execOp (evF f) ⟨d, .build 51 #[(0, x0)], ty, ps, af, g⟩).run Tryz.prog w = .ok (.value (.agg #[c0_0, .int .u64 0, .int .u64 0, .int .u64 0])) w := by
  obtain ⟨i0, hi0, hz0⟩ := Option.bind_eq_some_iff.1 (show (Tryz.prog.info? 51).bind (·.zero) = _ from tb_z51)
  obtain ⟨j49, hj49, hs49⟩ := Option.map_eq_some_iff.1 tb_size49
  simp [execOp, h0, k0, Instr.build, zeroValue, typeInfo, sizeOf, hi0, hz0, run_underlying Tryz.underlying51, Instr.fill, cells_agg, hj49, hs49]
theorem tb_c14 : callB Tryz.prog 14 = true := by kernel_rfl
theorem tb_c5 : callB Tryz.prog 5 = true := by kernel_rfl
theorem tb_c6 : callB Tryz.prog 6 = true := by kernel_rfl
theorem tb_c8 : callB Tryz.prog 8 = true := by kernel_rfl
theorem tb_c9 : callB Tryz.prog 9 = true := by kernel_rfl
theorem tb_c11 : callB Tryz.prog 11 = true := by kernel_rfl
theorem tb_c12 : callB Tryz.prog 12 = true := by kernel_rfl
theorem tb_c13 : callB Tryz.prog 13 = true := by kernel_rfl
theorem tb_c15 : callB Tryz.prog 15 = true := by kernel_rfl

theorem kn4_1 : parseT [46, 105, 32, 50, 10, 46, 111, 32, 49, 10, 49, 45, 32, 49, 10, 48, 45, 32, 45, 10, 46, 101, 10] = ((⟨1, 2, 1, [⟨⟨1, 1⟩, [1]⟩, ⟨⟨1, 0⟩, [2]⟩]⟩ : Tb), 0, 0) := by decide +kernel
theorem kn4_r : rightT (⟨1, 2, 1, [⟨⟨1, 1⟩, [1]⟩, ⟨⟨1, 0⟩, [2]⟩]⟩ : Tb) = true := by decide +kernel
theorem kn4_0 : ofE (⟨1, 2, 1, [⟨⟨1, 1⟩, [1]⟩, ⟨⟨1, 0⟩, [2]⟩]⟩ : Tb) = 0 := by decide +kernel
theorem kn4_mb : ∀ i, i < (⟨1, 2, 1, [⟨⟨1, 1⟩, [1]⟩, ⟨⟨1, 0⟩, [2]⟩]⟩ : Tb).ls.length → ((⟨1, 2, 1, [⟨⟨1, 1⟩, [1]⟩, ⟨⟨1, 0⟩, [2]⟩]⟩ : Tb).ls.getD i ln0).c.m < 256 ∧ ((⟨1, 2, 1, [⟨⟨1, 1⟩, [1]⟩, ⟨⟨1, 0⟩, [2]⟩]⟩ : Tb).ls.getD i ln0).c.v < 256 := right_mb kn4_r
theorem kn4_b : RowB [⟨⟨1, 1⟩, 1⟩] := fun x hx => by
  rw [List.mem_singleton] at hx
  rw [hx]
  decide
theorem kn4_n : covB (specT (⟨1, 2, 1, [⟨⟨1, 1⟩, [1]⟩, ⟨⟨1, 0⟩, [2]⟩]⟩ : Tb)) [] = false := by decide +kernel

theorem C_drawknifelaw04_knows  (w : World) (hgl : Gl w) :
    Fn Tryz.prog 6 #[] w fun v w' => v = .bool true := by
 refine Fn_intro (n := 64) Tryz.func6 rfl rfl (Nat.le_of_ble_eq_true rfl) ?_
 have hB : Below w.heap.size w w := Below.refl _ _
 refine Zr <| Zb rfl <| WL_nil <| Zr <| ZC tb_c16 (C_pla_Parse [46, 105, 32, 50, 10, 46, 111, 32, 49, 10, 49, 45, 32, 49, 10, 48, 45, 32, 45, 10, 46, 101, 10] _ (Gl.below hB hgl) Dc) rfl fun v1_0 W5 hE6 hP1_0 => ?_
 replace hB := Ze hB hE6
 rw [kn4_1] at hP1_0
 obtain ⟨lv1_0, vs1_0, rfl, hsl1_0, hls1_0⟩ := hP1_0
 refine Zw (.tuple #[.agg #[.int .i64 _, .int .i64 _, .int .i64 _, lv1_0], .int .i64 _, .int .i64 _]) rfl <| Zv (r_ext3_0 rfl) <| Zv (r_ext3_1 rfl) <| Zv (r_ext3_2 rfl) ?_
 have hz9 := Gl.below hB hgl
 have hBo8 := hB
 replace hB := Below.refl W5.heap.size W5
 refine Zy (Y_alloc tb_z24 rfl fun b1_5 W10 hb11 hE12 hm1_5 => ?_)
 have lo_b1_5 := ZO hb11 hB
 clear hb11
 replace hB := Ze hB hE12
 refine Zy (Y_storeW rfl rfl tb_ag24 rfl hm1_5 rfl (by exact one_tb (SlT.one hsl1_0)) fun W13 hG14 hm15 => ?_)
 replace hB := Zg hB hG14 lo_b1_5
 replace hm1_5 := hm15
 refine Zi rfl <| Zi rfl <| WL_nil <| Zr <| Zv (r_loadW rfl tb_ag24 rfl hm1_5) <| ZC tb_c7 (C_spec_Of (⟨1, 2, 1, [⟨⟨1, 1⟩, [1]⟩, ⟨⟨1, 0⟩, [2]⟩]⟩ : Tb) _ vs1_0 _ (Below.slT hB hsl1_0) (LsAt.below hB hls1_0) kn4_mb) rfl fun v2_1 W18 hE19 hP2_1 => ?_
 have hsz20 := (Below.size hB)
 replace hB := Ze hB hE19
 replace hm1_5 := hE19.at hm1_5
 have hsz2_1 := hsz20
 replace hP2_1 := hP2_1.resolve_right (fun h => h.1 kn4_0)
 obtain ⟨hof2_1, on2_1, may2_1, rfl, hon2_1, hmay2_1⟩ := hP2_1
 replace hon2_1 := OwT.mono hon2_1 hsz2_1
 replace hmay2_1 := OwT.mono hmay2_1 hsz2_1
 refine Zw (.tuple #[.agg #[.int .i64 _, on2_1, may2_1], .int .i64 0]) rfl <| Zv (r_ext2_0 rfl) <| Zv (r_ext2_1 rfl) <| Zy (Y_alloc tb_z29 rfl fun b2_5 W21 hb22 hE23 hm2_5 => ?_)
 have lo_b2_5 := ZO hb22 hB
 clear hb22
 replace hB := Ze hB hE23
 replace hm1_5 := hE23.at hm1_5
 replace hon2_1 := hE23.ow hon2_1
 replace hmay2_1 := hE23.ow hmay2_1
 refine Zy (Y_storeW rfl rfl tb_ag29 rfl hm2_5 rfl (by exact one_sp (SlT.one (OwT.sl hon2_1)) (SlT.one (OwT.sl hmay2_1))) fun W24 hG25 hm26 => ?_)
 replace hB := Zg hB hG25 lo_b2_5
 replace hm1_5 := At.grownAt hm1_5 hm2_5 hG25 Dc
 replace hon2_1 := OwT.grownAt hon2_1 hm2_5 hG25 Dc
 replace hmay2_1 := OwT.grownAt hmay2_1 hm2_5 hG25 Dc
 replace hm2_5 := hm26
 refine Zi rfl <| WL_nil <| Zr <| Zv (tb_build41_0_1 (h0 := rfl) (k0 := rfl) (h1 := rfl) (k1 := rfl) (c0_0 := .int .u8 1) (c1_0 := .int .u8 1)) <| Zv (tb_build48_0_1 (h0 := rfl) (h1 := rfl) (k1 := rfl) (c1_0 := .int .u8 1)) <| Zy (Y_lit1 (u := .agg #[_, _, _]) rfl tb_el37 tb_zs48 rfl Dc Dc fun b3_2 W29 hb30 hE31 hm3_2 => ?_)
 have lo_b3_2 := ZO hb30 hB
 clear hb30
 replace hB := Ze hB hE31
 replace hm1_5 := hE31.at hm1_5
 replace hon2_1 := hE31.ow hon2_1
 replace hmay2_1 := hE31.ow hmay2_1
 replace hm2_5 := hE31.at hm2_5
 refine Zw (.slice (some ⟨b3_2, 0, none⟩) 1 1) rfl <| WL_nil <| Zr <| Zi rfl <| Zv (r_eql rfl rfl) <| ZX rfl (fun hs4_2 => ?_) fun hs4_2 => ?_
 refine Zf rfl tb_fo29_1 <| ZL on2_1 rfl tb_sc27 hm2_5 rfl <| Zv (r_lenS (v := on2_1) rfl hon2_1.sl tb_el27) <| Zv (r_eql rfl rfl) <| Zb rfl <| ZX rfl (fun hs4_8 => ?_) fun hs4_8 => ?_
 refine Zf rfl tb_fo29_2 <| ZL may2_1 rfl tb_sc27 hm2_5 rfl <| Zv (r_lenS (v := may2_1) rfl hmay2_1.sl tb_el27) <| Zv (r_eql rfl rfl) <| Zb rfl <| ZX rfl (fun hs4_14 => ?_) fun hs4_14 => ?_
 refine Zf rfl tb_fo29_1 <| ZL on2_1 rfl tb_sc27 hm2_5 rfl <| Zv (r_idxS (j := 0) (v := on2_1) rfl hon2_1.sl rfl tb_el27 Om Om) <| Zv (r_load4 rfl tb_ag51 (SlT.cell (j := 0) hon2_1.sl encS_len 0 Om Om 0 rfl) (SlT.cell (j := 0) hon2_1.sl encS_len 0 Om Om 1 rfl) (SlT.cell (j := 0) hon2_1.sl encS_len 0 Om Om 2 rfl) (SlT.cell (j := 0) hon2_1.sl encS_len 0 Om Om 3 rfl)) <| Zv (v := setV 10) (tb_build51_0 (h0 := rfl) (k0 := rfl) (c0_0 := .int .u64 10)) <| Zv (tb_eq51 rfl rfl) <| Zb rfl <| ZX rfl (fun hs4_22 => ?_) fun hs4_22 => ?_
 refine Zf rfl tb_fo29_2 <| ZL may2_1 rfl tb_sc27 hm2_5 rfl <| Zv (r_idxS (j := 0) (v := may2_1) rfl hmay2_1.sl rfl tb_el27 Om Om) <| Zv (r_load4 rfl tb_ag51 (SlT.cell (j := 0) hmay2_1.sl encS_len 0 Om Om 0 rfl) (SlT.cell (j := 0) hmay2_1.sl encS_len 0 Om Om 1 rfl) (SlT.cell (j := 0) hmay2_1.sl encS_len 0 Om Om 2 rfl) (SlT.cell (j := 0) hmay2_1.sl encS_len 0 Om Om 3 rfl)) <| Zv (v := setV 15) (tb_build51_0 (h0 := rfl) (k0 := rfl) (c0_0 := .int .u64 15)) <| Zv (tb_eq51 rfl rfl) <| Zb rfl <| ZX rfl (fun hs4_30 => ?_) fun hs4_30 => ?_
 refine Zv (r_loadW rfl tb_ag29 rfl hm2_5) <| ZC tb_c10 (C_spec_Right (specT (⟨1, 2, 1, [⟨⟨1, 1⟩, [1]⟩, ⟨⟨1, 0⟩, [2]⟩]⟩ : Tb)) _ _ _ hon2_1.sl hmay2_1.sl) rfl fun v4_32 W34 hE35 hP4_32 => ?_
 replace hB := Ze hB hE35
 replace hm1_5 := hE35.at hm1_5
 replace hon2_1 := hE35.ow hon2_1
 replace hmay2_1 := hE35.ow hmay2_1
 replace hm2_5 := hE35.at hm2_5
 replace hm3_2 := hE35.at hm3_2
 obtain rfl := hP4_32
 refine Zb rfl <| ZX rfl (fun hs4_34 => ?_) fun hs4_34 => ?_
 refine Zv (r_loadW rfl tb_ag29 rfl hm2_5) <| Zw (.slice (some ⟨b3_2, 0, none⟩) 1 1) rfl ?_
 have ho37 := own_lit1 (enc := encR) (a := ⟨⟨_, _⟩, _⟩) hm3_2 rfl rfl lo_b3_2
 refine ZC tb_c14 (C_spec_Covers (specT (⟨1, 2, 1, [⟨⟨1, 1⟩, [1]⟩, ⟨⟨1, 0⟩, [2]⟩]⟩ : Tb)) _ _ _ [⟨⟨1, 1⟩, 1⟩] _ hon2_1.sl hmay2_1.sl ho37.sl Dc kn4_b (by decide +kernel)) rfl fun v4_37 W38 hE39 hP4_37 => ?_
 replace hB := Ze hB hE39
 replace hm1_5 := hE39.at hm1_5
 replace hon2_1 := hE39.ow hon2_1
 replace hmay2_1 := hE39.ow hmay2_1
 replace hm2_5 := hE39.at hm2_5
 replace ho37 := hE39.ow ho37
 obtain rfl := hP4_37
 refine Zb rfl <| ZX rfl (fun hs4_39 => ?_) fun hs4_39 => ?_
 refine Zv (r_loadW rfl tb_ag29 rfl hm2_5) <| ZC tb_c14 (C_spec_Covers (specT (⟨1, 2, 1, [⟨⟨1, 1⟩, [1]⟩, ⟨⟨1, 0⟩, [2]⟩]⟩ : Tb)) _ _ _ [] _ hon2_1.sl hmay2_1.sl SlT.nil Dc (fun x hx => by cases hx) (by decide +kernel)) rfl fun v4_41 W41 hE42 hP4_41 => ?_
 replace hB := Ze hB hE42
 replace hm1_5 := hE42.at hm1_5
 replace hon2_1 := hE42.ow hon2_1
 replace hmay2_1 := hE42.ow hmay2_1
 replace hm2_5 := hE42.at hm2_5
 replace ho37 := hE42.ow ho37
 obtain rfl := hP4_41
 refine Zv (r_not rfl) <| Zb rfl <| Zb rfl <| WL_nil ?_
 refine WC_ret ?_
 try clear hz9
 replace hsl1_0 := Below.slT hB hsl1_0
 replace hls1_0 := LsAt.below hB hls1_0
 have hzs := Nat.le_trans (Nat.le_refl _) (Below.size hBo8)
 replace lo_b1_5 := Nat.le_trans hzs lo_b1_5
 replace hon2_1 := OwT.mono hon2_1 hzs
 replace hmay2_1 := OwT.mono hmay2_1 hzs
 replace lo_b2_5 := Nat.le_trans hzs lo_b2_5
 replace ho37 := OwT.mono ho37 hzs
 replace hB := Below.trans hBo8 (Below.mono hB hzs)
 clear hBo8 hzs
 repeat (first | refine thenQ_ret ?_ | refine blockQ_ret ?_)
 refine ret_t (v := .bool _) rfl ⟨hB, ?_⟩
 rw [kn4_n]
 rfl
 exact absurd hs4_39 (by decide +kernel)
 exact absurd hs4_34 (by decide +kernel)
 exact absurd hs4_30 (by decide +kernel)
 exact absurd hs4_22 (by decide +kernel)
 exact absurd hs4_14 (by decide +kernel)
 exact absurd hs4_8 (by decide +kernel)
 exact absurd hs4_2 (by decide +kernel)

theorem great_s {S : Sp} {l : List Rw} (h : greatS S l = false) : S.on.length ≤ 20 ∧ S.may.length ≤ 20 ∧ l.length ≤ 100 := by
  have := of_decide_eq_false h
  omega

theorem C_drawknifelaw04_great (S : Sp) (onV mayV : Value) (xa : Value) (l : List Rw) (w : World) (hon : SlT encS 4 w onV S.on) (hmay : SlT encS 4 w mayV S.may) (hl : SlT encR 3 w xa l) :
    Fn Tryz.prog 11 #[.agg #[.int .i64 S.n, onV, mayV], xa] w fun v w' => v = .bool (greatS S l) := by
 refine Fn_intro (n := 20) Tryz.func11 rfl rfl (Nat.le_of_ble_eq_true rfl) ?_
 have hB : Below w.heap.size w w := Below.refl _ _
 refine Zr <| Zy (Y_box (c := #[_, _, _]) rfl rfl fun b0_0 W3 hb4 hE5 hm0_0 => ?_)
 have lo_b0_0 := ZO hb4 hB
 clear hb4
 replace hB := Ze hB hE5
 refine Zb rfl <| WL_nil <| Zr <| Zf rfl tb_fo29_1 <| ZL onV rfl tb_sc27 hm0_0 rfl <| Zv (r_lenS (v := onV) rfl (Below.slT hB hon) tb_el27) <| Zv (r_gtr rfl rfl) <| ZX rfl (fun hs1_4 => ?_) fun hs1_4 => ?_
 refine Zs <| Zs <| Zs <| Zs <| Zb rfl <| Zb rfl <| Zs <| Zs <| Zs <| Zb rfl <| Zb rfl <| WL_nil <| Zt <| ret_t (v := .bool true) rfl ?_
 refine ⟨hB, ?_⟩
 refine congrArg Value.bool ?_
 first | exact (decide_eq_true (by omega)).symm | (unfold greatS; exact decide_eq_decide.2 (by omega))
 refine Zf rfl tb_fo29_2 <| ZL mayV rfl tb_sc27 hm0_0 rfl <| Zv (r_lenS (v := mayV) rfl (Below.slT hB hmay) tb_el27) <| Zv (r_gtr rfl rfl) <| Zb rfl <| ZX rfl (fun hs1_10 => ?_) fun hs1_10 => ?_
 refine Zs <| Zs <| Zs <| Zb rfl <| Zb rfl <| WL_nil <| Zt <| ret_t (v := .bool true) rfl ⟨hB, ?_⟩
 refine congrArg Value.bool ?_
 first | exact (decide_eq_true (by omega)).symm | (unfold greatS; exact decide_eq_decide.2 (by omega))
 refine Zw xa rfl <| Zv (r_lenS (v := xa) rfl (Below.slT hB hl) tb_el37) <| Zv (r_gtr rfl rfl) <| Zb rfl <| Zb rfl <| WL_nil <| Zt <| ret_t (v := .bool _) rfl ⟨hB, ?_⟩
 refine congrArg Value.bool ?_
 first | exact (decide_eq_true (by omega)).symm | (unfold greatS; exact decide_eq_decide.2 (by omega))

theorem C_drawknifelaw04_SpecReads (T : Tb) (lv : Value) (vs : List LnV) (w : World) (hgl : Gl w) (hlv : SlT encLn 3 w lv vs) (hls : LsAt w vs T.ls) (hmb : ∀ i, i < T.ls.length → (T.ls.getD i ln0).c.m < 256 ∧ (T.ls.getD i ln0).c.v < 256) (hvl : vs.length ≤ 9223372036854775807) :
    Fn Tryz.prog 3 #[.agg #[.int .i64 T.kind, .int .i64 T.ni, .int .i64 T.no, lv]] w fun v w' => v = .bool true := by
 refine Fn_intro (n := 39) Tryz.func3 rfl rfl (Nat.le_of_ble_eq_true rfl) ?_
 have hB : Below w.heap.size w w := Below.refl _ _
 have hle := hls.len
 refine Zr <| Zy (Y_box (c := #[_, _, _, _]) rfl rfl fun b0_0 W3 hb4 hE5 hm0_0 => ?_)
 have lo_b0_0 := ZO hb4 hB
 clear hb4
 replace hB := Ze hB hE5
 refine Zb rfl <| WL_nil <| WC_seq fun K6 hK7 => Zr <| Zv (r_loadW rfl tb_ag24 rfl hm0_0) <| ZC tb_c5 (C_drawknifelaw03_Great _ _ _ _ (Below.slT hB hlv) (LsAt.below hB hls) (by assumption) (by first | assumption | omega)) rfl fun v1_1 W10 hE11 hP1_1 => ?_
 replace hB := Ze hB hE11
 replace hm0_0 := hE11.at hm0_0
 obtain rfl := hP1_1
 refine WL_nil <| ZQ rfl (fun hc0 => ?_) fun hc0 => ?_
 refine Zr <| ZC tb_c6 (C_drawknifelaw04_knows _ (Gl.below hB hgl)) rfl fun v2_0 W15 hE16 hP2_0 => ?_
 replace hB := Ze hB hE16
 replace hm0_0 := hE16.at hm0_0
 obtain rfl := hP2_0
 refine Zb rfl <| WL_nil <| Zt <| ret_t (v := .bool _) rfl ⟨hB, ?_⟩
 rfl
 refine WC_skip <| hK7 _ _ <| Zr <| Zv (r_loadW rfl tb_ag24 rfl hm0_0) <| ZC tb_c7 (C_spec_Of _ _ _ _ (Below.slT hB hlv) (LsAt.below hB hls) (by assumption)) rfl fun v3_1 W20 hE21 hP3_1 => ?_
 have hsz22 := (Below.size hB)
 replace hB := Ze hB hE21
 replace hm0_0 := hE21.at hm0_0
 have hsz3_1 := hsz22
 rcases hP3_1 with hP3_1 | hP3_1
 obtain ⟨hof3_1, on3_1, may3_1, rfl, hon3_1, hmay3_1⟩ := hP3_1
 replace hon3_1 := OwT.mono hon3_1 hsz3_1
 replace hmay3_1 := OwT.mono hmay3_1 hsz3_1
 refine Zw (.tuple #[.agg #[.int .i64 _, on3_1, may3_1], .int .i64 0]) rfl <| Zv (r_ext2_0 rfl) <| Zv (r_ext2_1 rfl) <| Zy (Y_alloc tb_z29 rfl fun b3_5 W23 hb24 hE25 hm3_5 => ?_)
 have lo_b3_5 := ZO hb24 hB
 clear hb24
 replace hB := Ze hB hE25
 replace hm0_0 := hE25.at hm0_0
 replace hon3_1 := hE25.ow hon3_1
 replace hmay3_1 := hE25.ow hmay3_1
 refine Zy (Y_storeW rfl rfl tb_ag29 rfl hm3_5 rfl (by first | exact one_sp (SlT.one (OwT.sl hon3_1)) (SlT.one (OwT.sl hmay3_1)) | exact one_sp rfl rfl) fun W26 hG27 hm28 => ?_)
 replace hB := Zg hB hG27 lo_b3_5
 replace hm0_0 := At.grownAt hm0_0 hm3_5 hG27 Dc
 replace hon3_1 := OwT.grownAt hon3_1 hm3_5 hG27 Dc
 replace hmay3_1 := OwT.grownAt hmay3_1 hm3_5 hG27 Dc
 replace hm3_5 := hm28
 refine Zi rfl <| WL_nil ?_
 have hrs := spec_right hof3_1
 obtain ⟨hr, _⟩ := ofE_0iff.1 hof3_1
 obtain ⟨hk0, hk3, hi0, hi8, hno1, hno4, hl64⟩ := right_hd hr
 refine Zr <| Zv (r_loadW rfl tb_ag24 rfl hm0_0) <| ZC tb_c8 (C_drawkniferef04_Of _ _ _ _ (Below.slT hB hlv) (LsAt.below hB hls) (by assumption)) rfl fun v4_1 W31 hE32 hP4_1 => ?_
 have hsz33 := (Below.size hB)
 replace hB := Ze hB hE32
 replace hm0_0 := hE32.at hm0_0
 replace hon3_1 := hE32.ow hon3_1
 replace hmay3_1 := hE32.ow hmay3_1
 replace hm3_5 := hE32.at hm3_5
 replace hP4_1 := hP4_1.resolve_right (fun h => h.1 hof3_1)
 have hsz4_1 := hsz33
 obtain ⟨hof4_1, on4_1, may4_1, rfl, hon4_1, hmay4_1⟩ := hP4_1
 replace hon4_1 := OwT.mono hon4_1 hsz4_1
 replace hmay4_1 := OwT.mono hmay4_1 hsz4_1
 refine Zw (.tuple #[.agg #[.int .i64 _, on4_1, may4_1], .int .i64 0]) rfl <| Zv (r_ext2_0 rfl) <| Zv (r_ext2_1 rfl) <| Zy (Y_alloc tb_z29 rfl fun b4_5 W34 hb35 hE36 hm4_5 => ?_)
 have lo_b4_5 := ZO hb35 hB
 have ne_b3_5_b4_5 := Zn hb35 hm3_5
 clear hb35
 replace hB := Ze hB hE36
 replace hm0_0 := hE36.at hm0_0
 replace hon3_1 := hE36.ow hon3_1
 replace hmay3_1 := hE36.ow hmay3_1
 replace hm3_5 := hE36.at hm3_5
 replace hon4_1 := hE36.ow hon4_1
 replace hmay4_1 := hE36.ow hmay4_1
 refine Zy (Y_storeW rfl rfl tb_ag29 rfl hm4_5 rfl (by first | exact one_sp (SlT.one (OwT.sl hon4_1)) (SlT.one (OwT.sl hmay4_1)) | exact one_sp rfl rfl) fun W37 hG38 hm39 => ?_)
 replace hB := Zg hB hG38 lo_b4_5
 replace hm0_0 := At.grownAt hm0_0 hm4_5 hG38 Dc
 replace hon3_1 := OwT.grownAt hon3_1 hm4_5 hG38 Dc
 replace hmay3_1 := OwT.grownAt hmay3_1 hm4_5 hG38 Dc
 replace hm3_5 := At.grownNe hm3_5 ne_b3_5_b4_5 hG38
 replace hon4_1 := OwT.grownAt hon4_1 hm4_5 hG38 Dc
 replace hmay4_1 := OwT.grownAt hmay4_1 hm4_5 hG38 Dc
 replace hm4_5 := hm39
 refine Zi rfl <| WL_nil <| Zr <| Zv (r_loadW rfl tb_ag29 rfl hm3_5) <| Zv (r_loadW rfl tb_ag29 rfl hm4_5) <| ZC tb_c9 (C_drawkniferef04_Same (specT T) _ _ (specT T) _ _ _ hon3_1.sl hmay3_1.sl hon4_1.sl hmay4_1.sl (by show (onTo _ _).length ≤ 20; rw [onTo_len]; omega) (by show (mayTo_ _ _).length ≤ 20; rw [mayTo_len_]; omega)) rfl fun v5_2 W42 hE43 hP5_2 => ?_
 replace hB := Ze hB hE43
 replace hm0_0 := hE43.at hm0_0
 replace hon3_1 := hE43.ow hon3_1
 replace hmay3_1 := hE43.ow hmay3_1
 replace hm3_5 := hE43.at hm3_5
 replace hon4_1 := hE43.ow hon4_1
 replace hmay4_1 := hE43.ow hmay4_1
 replace hm4_5 := hE43.at hm4_5
 rw [eqSp_self] at hP5_2
 obtain rfl := hP5_2
 refine ZX rfl (fun hs5_3 => ?_) fun hs5_3 => ?_
 refine Zi rfl <| Zi rfl <| Zv (r_eql rfl rfl) <| Zb rfl <| ZX rfl (fun hs5_8 => ?_) fun hs5_8 => ?_
 refine Zi rfl <| Zv (r_neq rfl rfl) <| ZX rfl (fun hs5_11 => ?_) fun hs5_11 => ?_
 exact absurd rfl hs5_11
 refine Zv (r_loadW rfl tb_ag29 rfl hm3_5) <| ZC tb_c10 (C_spec_Right (specT T) _ _ _ hon3_1.sl hmay3_1.sl) rfl fun v5_13 W45 hE46 hP5_13 => ?_
 replace hB := Ze hB hE46
 replace hm0_0 := hE46.at hm0_0
 replace hon3_1 := hE46.ow hon3_1
 replace hmay3_1 := hE46.ow hmay3_1
 replace hm3_5 := hE46.at hm3_5
 replace hon4_1 := hE46.ow hon4_1
 replace hmay4_1 := hE46.ow hmay4_1
 replace hm4_5 := hE46.at hm4_5
 rw [hrs] at hP5_13
 obtain rfl := hP5_13
 refine Zb rfl <| Zb rfl <| ZX rfl (fun hs5_16 => ?_) fun hs5_16 => ?_
 refine ZC tb_c6 (C_drawknifelaw04_knows _ (Gl.below hB hgl)) rfl fun v5_17 W48 hE49 hP5_17 => ?_
 replace hB := Ze hB hE49
 replace hm0_0 := hE49.at hm0_0
 replace hon3_1 := hE49.ow hon3_1
 replace hmay3_1 := hE49.ow hmay3_1
 replace hm3_5 := hE49.at hm3_5
 replace hon4_1 := hE49.ow hon4_1
 replace hmay4_1 := hE49.ow hmay4_1
 replace hm4_5 := hE49.at hm4_5
 obtain rfl := hP5_17
 refine Zb rfl <| Zb rfl <| WL_nil <| Zt <| ret_t (v := .bool _) rfl ⟨hB, ?_⟩
 rfl
 exact Bool.noConfusion hs5_16
 exact absurd rfl hs5_8
 exact Bool.noConfusion hs5_3
 obtain ⟨hof3_1, rfl⟩ := hP3_1
 refine Zw (.tuple #[.agg #[.int .i64 0, .slice none 0 0, .slice none 0 0], .int .i64 _]) rfl <| Zv (r_ext2_0 rfl) <| Zv (r_ext2_1 rfl) <| Zy (Y_alloc tb_z29 rfl fun b3_5 W51 hb52 hE53 hm3_5 => ?_)
 have lo_b3_5 := ZO hb52 hB
 clear hb52
 replace hB := Ze hB hE53
 replace hm0_0 := hE53.at hm0_0
 refine Zy (Y_storeW rfl rfl tb_ag29 rfl hm3_5 rfl (by first | exact one_sp (SlT.one (OwT.sl hon3_1)) (SlT.one (OwT.sl hmay3_1)) | exact one_sp rfl rfl) fun W54 hG55 hm56 => ?_)
 replace hB := Zg hB hG55 lo_b3_5
 replace hm0_0 := At.grownAt hm0_0 hm3_5 hG55 Dc
 replace hm3_5 := hm56
 refine Zi rfl <| WL_nil <| Zr <| Zv (r_loadW rfl tb_ag24 rfl hm0_0) <| ZC tb_c8 (C_drawkniferef04_Of _ _ _ _ (Below.slT hB hlv) (LsAt.below hB hls) (by assumption)) rfl fun v4_1 W59 hE60 hP4_1 => ?_
 have hsz61 := (Below.size hB)
 replace hB := Ze hB hE60
 replace hm0_0 := hE60.at hm0_0
 replace hm3_5 := hE60.at hm3_5
 replace hP4_1 := hP4_1.resolve_left (fun h => hof3_1 h.1)
 have hsz4_1 := hsz61
 obtain ⟨hof4_1, rfl⟩ := hP4_1
 refine Zw (.tuple #[.agg #[.int .i64 0, .slice none 0 0, .slice none 0 0], .int .i64 _]) rfl <| Zv (r_ext2_0 rfl) <| Zv (r_ext2_1 rfl) <| Zy (Y_alloc tb_z29 rfl fun b4_5 W62 hb63 hE64 hm4_5 => ?_)
 have lo_b4_5 := ZO hb63 hB
 have ne_b3_5_b4_5 := Zn hb63 hm3_5
 clear hb63
 replace hB := Ze hB hE64
 replace hm0_0 := hE64.at hm0_0
 replace hm3_5 := hE64.at hm3_5
 refine Zy (Y_storeW rfl rfl tb_ag29 rfl hm4_5 rfl (by first | exact one_sp (SlT.one (OwT.sl hon4_1)) (SlT.one (OwT.sl hmay4_1)) | exact one_sp rfl rfl) fun W65 hG66 hm67 => ?_)
 replace hB := Zg hB hG66 lo_b4_5
 replace hm0_0 := At.grownAt hm0_0 hm4_5 hG66 Dc
 replace hm3_5 := At.grownNe hm3_5 ne_b3_5_b4_5 hG66
 replace hm4_5 := hm67
 refine Zi rfl <| WL_nil <| Zr <| Zv (r_loadW rfl tb_ag29 rfl hm3_5) <| Zv (r_loadW rfl tb_ag29 rfl hm4_5) <| ZC tb_c9 (C_drawkniferef04_Same ⟨0, [], []⟩ _ _ ⟨0, [], []⟩ _ _ _ SlT.nil SlT.nil SlT.nil SlT.nil Dc Dc) rfl fun v5_2 W70 hE71 hP5_2 => ?_
 replace hB := Ze hB hE71
 replace hm0_0 := hE71.at hm0_0
 replace hm3_5 := hE71.at hm3_5
 replace hm4_5 := hE71.at hm4_5
 rw [eqSp_self] at hP5_2
 obtain rfl := hP5_2
 refine ZX rfl (fun hs5_3 => ?_) fun hs5_3 => ?_
 refine Zi rfl <| Zi rfl <| Zv (r_eql rfl rfl) <| Zb rfl <| ZX rfl (fun hs5_8 => ?_) fun hs5_8 => ?_
 refine Zi rfl <| Zv (r_neq rfl rfl) <| ZX rfl (fun hs5_11 => ?_) fun hs5_11 => ?_
 refine Zs <| Zs <| Zb rfl <| Zb rfl <| Zb rfl <| ZC tb_c6 (C_drawknifelaw04_knows _ (Gl.below hB hgl)) rfl fun v5_17 W73 hE74 hP5_17 => ?_
 replace hB := Ze hB hE74
 replace hm0_0 := hE74.at hm0_0
 replace hm3_5 := hE74.at hm3_5
 replace hm4_5 := hE74.at hm4_5
 obtain rfl := hP5_17
 refine Zb rfl <| Zb rfl <| WL_nil <| Zt <| ret_t (v := .bool _) rfl ⟨hB, ?_⟩
 rfl
 exact absurd (Decidable.of_not_not hs5_11) hof3_1
 exact absurd rfl hs5_8
 exact Bool.noConfusion hs5_3

theorem C_drawknifelaw04_SpecCovers (S : Sp) (onV mayV : Value) (U : Sp) (onU mayU : Value) (xa : Value) (l : List Rw) (w : World) (hgl : Gl w) (hon : SlT encS 4 w onV S.on) (hmay : SlT encS 4 w mayV S.may) (honU : SlT encS 4 w onU U.on) (hmayU : SlT encS 4 w mayU U.may) (hl : SlT encR 3 w xa l) (hlr : RowB l) :
    Fn Tryz.prog 4 #[.agg #[.int .i64 S.n, onV, mayV], .agg #[.int .i64 U.n, onU, mayU], xa] w fun v w' => v = .bool true := by
 refine Fn_intro (n := 46) Tryz.func4 rfl rfl (Nat.le_of_ble_eq_true rfl) ?_
 have hB : Below w.heap.size w w := Below.refl _ _
 refine Zr <| Zy (Y_box (c := #[_, _, _]) rfl rfl fun b0_0 W3 hb4 hE5 hm0_0 => ?_)
 have lo_b0_0 := ZO hb4 hB
 clear hb4
 replace hB := Ze hB hE5
 refine Zy (Y_box (c := #[_, _, _]) rfl rfl fun b0_1 W6 hb7 hE8 hm0_1 => ?_)
 have lo_b0_1 := ZO hb7 hB
 have ne_b0_0_b0_1 := Zn hb7 hm0_0
 clear hb7
 replace hB := Ze hB hE8
 replace hm0_0 := hE8.at hm0_0
 refine Zb rfl <| WL_nil <| WC_seq fun K9 hK10 => Zr <| Zv (r_loadW rfl tb_ag29 rfl hm0_0) <| Zw xa rfl <| ZC tb_c11 (C_drawknifelaw04_great S _ _ _ l _ (Below.slT hB hon) (Below.slT hB hmay) (Below.slT hB hl)) rfl fun v1_2 W13 hE14 hP1_2 => ?_
 replace hB := Ze hB hE14
 replace hm0_0 := hE14.at hm0_0
 replace hm0_1 := hE14.at hm0_1
 obtain rfl := hP1_2
 refine ZX rfl (fun hs1_3 => ?_) fun hs1_3 => ?_
 refine Zs <| Zs <| Zb rfl <| WL_nil <| WC_cond_true rfl <| Zr <| ZC tb_c6 (C_drawknifelaw04_knows _ (Gl.below hB hgl)) rfl fun v2_0 W18 hE19 hP2_0 => ?_
 replace hB := Ze hB hE19
 replace hm0_0 := hE19.at hm0_0
 replace hm0_1 := hE19.at hm0_1
 obtain rfl := hP2_0
 refine Zb rfl <| WL_nil <| Zt <| ret_t (v := .bool _) rfl ⟨hB, ?_⟩
 rfl
 refine Zv (r_loadW rfl tb_ag29 rfl hm0_1) <| ZC tb_c11 (C_drawknifelaw04_great U _ _ _ [] _ (Below.slT hB honU) (Below.slT hB hmayU) SlT.nil) rfl fun v1_5 W21 hE22 hP1_5 => ?_
 replace hB := Ze hB hE22
 replace hm0_0 := hE22.at hm0_0
 replace hm0_1 := hE22.at hm0_1
 obtain rfl := hP1_5
 refine Zb rfl <| WL_nil <| ZQ rfl (fun hc0 => ?_) fun hc0 => ?_
 refine Zr <| ZC tb_c6 (C_drawknifelaw04_knows _ (Gl.below hB hgl)) rfl fun v2_0 W26 hE27 hP2_0 => ?_
 replace hB := Ze hB hE27
 replace hm0_0 := hE27.at hm0_0
 replace hm0_1 := hE27.at hm0_1
 obtain rfl := hP2_0
 refine Zb rfl <| WL_nil <| Zt <| ret_t (v := .bool _) rfl ⟨hB, ?_⟩
 rfl
 refine WC_skip <| hK10 _ _ ?_
 obtain ⟨h4, h5, h6⟩ := great_s hs1_3
 refine Zr <| Zv (r_loadW rfl tb_ag29 rfl hm0_0) <| ZC tb_c12 (C_drawkniferef04_Right S _ _ _ (Below.slT hB hon) (Below.slT hB hmay)) rfl fun v3_1 W31 hE32 hP3_1 => ?_
 replace hB := Ze hB hE32
 replace hm0_0 := hE32.at hm0_0
 replace hm0_1 := hE32.at hm0_1
 obtain rfl := hP3_1
 refine Zb rfl <| WL_nil <| Zd Ext fun W36 hE37 => ?_
 replace hB := Ze hB hE37
 replace hm0_0 := hE37.at hm0_0
 replace hm0_1 := hE37.at hm0_1
 have hS := Ext.refl W36
 refine Tk 0 rfl (fun _ hq => r_loadW rfl tb_ag29 rfl (hq.at hm0_0)) hS <| Ty 2 rfl rfl hS <| To 1 rfl (TC tb_c10 (C_spec_Right S _ _ _ (Below.slT hB hon) (Below.slT hB hmay)) rfl fun v4_1 W38 hE39 hP4_1 => ⟨.inl (hS.trans hE39), ?_⟩)
 have sv41_hm0_0 := hm0_0
 have sv41_hm0_1 := hm0_1
 replace hB := Ze hB hE39
 replace hm0_0 := hE39.at hm0_0
 replace hm0_1 := hE39.at hm0_1
 replace hS := hS.trans hE39
 obtain rfl := hP4_1
 refine Tk 3 rfl (fun _ _ => r_eqlB rfl rfl Tryz.underlying4) hS <| Tx 4 rfl (fun _ _ => r_move (v := .bool _) rfl) hS (fun hs4_4 => ?_) fun hs4_4 => ?_
 refine Tk 5 rfl (fun _ hq => r_loadW rfl tb_ag29 rfl (hq.at sv41_hm0_0)) hS <| Tk 6 rfl (fun _ hq => r_loadW rfl tb_ag29 rfl (hq.at sv41_hm0_1)) hS <| Tk 8 rfl (fun _ hq => r_loadW rfl tb_ag29 rfl (hq.at sv41_hm0_0)) hS <| Tk 9 rfl (fun _ hq => r_loadW rfl tb_ag29 rfl (hq.at sv41_hm0_1)) hS <| To 7 rfl (TC tb_c13 (C_spec_Same S _ _ U _ _ _ (Below.slT hB hon) (Below.slT hB hmay) (Below.slT hB honU) (Below.slT hB hmayU) h4 h5) rfl fun v4_7 W42 hE43 hP4_7 => ⟨.inl (hS.trans hE43), ?_⟩)
 replace hB := Ze hB hE43
 replace hm0_0 := hE43.at hm0_0
 replace hm0_1 := hE43.at hm0_1
 replace hS := hS.trans hE43
 obtain rfl := hP4_7
 refine To 10 rfl (TC tb_c9 (C_drawkniferef04_Same S _ _ U _ _ _ (Below.slT hB hon) (Below.slT hB hmay) (Below.slT hB honU) (Below.slT hB hmayU) h4 h5) rfl fun v4_10 W45 hE46 hP4_10 => ⟨.inl (hS.trans hE46), ?_⟩)
 replace hB := Ze hB hE46
 replace hm0_0 := hE46.at hm0_0
 replace hm0_1 := hE46.at hm0_1
 replace hS := hS.trans hE46
 obtain rfl := hP4_10
 refine Tk 11 rfl (fun _ _ => r_eqlB rfl rfl Tryz.underlying4) hS <| Ty 12 rfl rfl hS <| Tx 13 rfl (fun _ _ => r_move (v := .bool _) rfl) hS (fun hs4_13 => ?_) fun hs4_13 => ?_
 refine Tk 14 rfl (fun _ hq => r_loadW rfl tb_ag29 rfl (hq.at sv41_hm0_0)) hS <| Tw 15 xa rfl rfl hS <| Ty 17 rfl rfl hS <| To 16 rfl (TC tb_c14 (C_spec_Covers S _ _ _ l _ (Below.slT hB hon) (Below.slT hB hmay) (Below.slT hB hl) Om hlr h4) rfl fun v4_16 W48 hE49 hP4_16 => ⟨.inl (hS.trans hE49), ?_⟩)
 replace hB := Ze hB hE49
 replace hm0_0 := hE49.at hm0_0
 replace hm0_1 := hE49.at hm0_1
 replace hS := hS.trans hE49
 obtain rfl := hP4_16
 refine Tx 18 rfl (fun _ _ => r_move (v := .bool _) rfl) hS (fun hs4_18 => ?_) fun hs4_18 => ?_
 refine Tk 19 rfl (fun _ hq => r_loadW rfl tb_ag29 rfl (hq.at sv41_hm0_0)) hS <| Tw 20 xa rfl rfl hS <| To 21 rfl (TC tb_c15 (C_drawkniferef04_Covers S _ _ _ l _ (Below.slT hB hon) (Below.slT hB hmay) (Below.slT hB hl) Om hlr (by assumption)) rfl fun v4_21 W51 hE52 hP4_21 => ⟨.inl (hS.trans hE52), ?_⟩)
 replace hB := Ze hB hE52
 replace hm0_0 := hE52.at hm0_0
 replace hm0_1 := hE52.at hm0_1
 replace hS := hS.trans hE52
 obtain rfl := hP4_21
 refine Ty 22 rfl rfl hS <| Tk 23 rfl (fun _ _ => r_eqlB rfl rfl Tryz.underlying4) hS <| Ty 24 rfl rfl hS <| Tx 25 rfl (fun _ _ => r_move (v := .bool _) rfl) hS (fun hs4_25 => ?_) fun hs4_25 => ?_
 refine To 26 rfl (TC tb_c6 (C_drawknifelaw04_knows _ (Gl.below hB hgl)) rfl fun v4_26 W54 hE55 hP4_26 => ⟨.inl (hS.trans hE55), ?_⟩)
 replace hB := Ze hB hE55
 replace hm0_0 := hE55.at hm0_0
 replace hm0_1 := hE55.at hm0_1
 replace hS := hS.trans hE55
 obtain rfl := hP4_26
 refine Ty 27 rfl rfl hS <| Ty 28 rfl rfl hS <| Td <| Zt <| ret_t (v := .bool _) rfl ⟨hB, ?_⟩
 rfl
 exact absurd rfl hs4_25
 refine Tp 19 rfl hS <| Tp 20 rfl hS <| Tp 21 rfl hS <| Ty 22 rfl rfl hS <| Tk 23 rfl (fun _ _ => r_eqlB rfl rfl Tryz.underlying4) hS <| Ty 24 rfl rfl hS <| Tx 25 rfl (fun _ _ => r_move (v := .bool _) rfl) hS (fun hs4_25 => ?_) fun hs4_25 => ?_
 refine To 26 rfl (TC tb_c6 (C_drawknifelaw04_knows _ (Gl.below hB hgl)) rfl fun v4_26 W57 hE58 hP4_26 => ⟨.inl (hS.trans hE58), ?_⟩)
 replace hB := Ze hB hE58
 replace hm0_0 := hE58.at hm0_0
 replace hm0_1 := hE58.at hm0_1
 replace hS := hS.trans hE58
 obtain rfl := hP4_26
 refine Ty 27 rfl rfl hS <| Ty 28 rfl rfl hS <| Td <| Zt <| ret_t (v := .bool _) rfl ⟨hB, ?_⟩
 rfl
 exact (hs4_25 (Bool.eq_false_iff.2 fun e => by rw [(covB_iff.1 e).1] at hs4_18; cases hs4_18)).elim
 exact absurd rfl hs4_13
 exact absurd rfl hs4_4

end Go.Proofs.YtnkaebjaeaecmaaGreatDoor
