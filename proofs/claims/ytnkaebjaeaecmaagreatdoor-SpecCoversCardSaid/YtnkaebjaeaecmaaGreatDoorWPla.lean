/-
  The walks of package pla: its texts.
-/
import Derived.Test.YtnkaebjaeaecmaaGreatDoorProg
import Derived.Test.YtnkaebjaeaecmaaGreatDoorLib
import Derived.Test.YtnkaebjaeaecmaaGreatDoorTab
import Derived.Test.YtnkaebjaeaecmaaGreatDoorZip
namespace Go.Proofs.YtnkaebjaeaecmaaGreatDoor
set_option linter.unusedVariables false
set_option linter.unusedSimpArgs false
open Go Go.RowKit

theorem tb_c55 : callB Tryz.prog 55 = true := by kernel_rfl
theorem tb_c68 : callB Tryz.prog 68 = true := by kernel_rfl
theorem tb_if102 : Tryz.prog.isIface 102 = true := by kernel_rfl
theorem tb_c69 : callB Tryz.prog 69 = true := by kernel_rfl
theorem tb_z41 : zeroI Tryz.prog 41 = some (.agg #[.int .u8 0, .int .u8 0]) := by kernel_rfl
theorem tb_size5 : (Tryz.prog.info? 5).map (·.size) = some 1 := by kernel_rfl
theorem tb_build41_ {f : Nat → Value} {w : World} {d : Option Nat} {ty : TypeId} {ps : String} {af : Array Edge} {g : Option (Nat × Bool)}    :
    (execOp (evF f) ⟨d, .build 41 #[], ty, ps, af, g⟩).run Tryz.prog w = .ok (.value (.agg #[.int .u8 0, .int .u8 0])) w := by
  obtain ⟨i0, hi0, hz0⟩ := Option.bind_eq_some_iff.1 (show (Tryz.prog.info? 41).bind (·.zero) = _ from tb_z41)
  obtain ⟨j5, hj5, hs5⟩ := Option.map_eq_some_iff.1 tb_size5
  simp [execOp, Instr.build, zeroValue, typeInfo, sizeOf, hi0, hz0, run_underlying Tryz.underlying41, Instr.fill, cells_agg, hj5, hs5]
theorem tb_ag41 : aggN Tryz.prog 41 = some 2 := by kernel_rfl
theorem tb_mix : Tryz.prog.follows .mixedOrders = true := by kernel_rfl
theorem tb_fo41_1 : fieldO Tryz.prog 41 1 = some 1 := by kernel_rfl
theorem tb_sc5 : scalarB Tryz.prog 5 = true := by kernel_rfl
theorem tb_fo41_0 : fieldO Tryz.prog 41 0 = some 0 := by kernel_rfl

theorem C_pla_number (line word : List UInt8) (lo hi : Int) (w : World) (hgl : Gl w) (hl : line.length ≤ 10000) (hwl : word.length ≤ 10) (h0 : 0 ≤ lo) :
    Fn Tryz.prog 54 #[keyW line, keyW word, .int .i64 lo, .int .i64 hi] w fun v w' => v = .int .i64 (numP line word lo hi) := by
 refine Fn_intro (n := 53) Tryz.func54 rfl rfl (Nat.le_of_ble_eq_true rfl) ?_
 have hB : Below w.heap.size w w := Below.refl _ _
 refine Zr <| Zi rfl <| WL_nil <| Zr <| Zw (.string _) rfl <| Zw (.string _) rfl <| Zv (r_addW rfl rfl (by first | omega | (simp; omega))) <| ZC tb_c55 (C_strings_CutPrefix _ _ _) rfl fun v1_3 W5 hE6 hP1_3 => ?_
 replace hB := Ze hB hE6
 obtain rfl := hP1_3
 refine Zw (.tuple #[.string _, .bool _]) rfl <| Zv (r_ext2_0 rfl) <| Zv (r_ext2_1 rfl) <| Zw (.string _) rfl <| Zb rfl <| WL_nil ?_
 have htl := Lib.trimPrefix_le line (word ++ [32])
 refine Zr <| Zw (.string _) rfl <| ZC tb_c68 (C_strconv_Atoi _ _ (Gl.below hB hgl) (by first | assumption | omega | (simp; omega) | simp)) rfl fun v2_1 W10 hE11 hP2_1 => ?_
 replace hB := Ze hB hE11
 rcases hP2_1 with hP2_1 | hP2_1
 obtain ⟨n2_1, ha2_1, rfl⟩ := hP2_1
 refine Zw (.tuple #[.int .i64 _, .nilIface]) rfl <| Zv (r_ext2_0 rfl) <| Zv (r_ext2_1 rfl) <| Zi rfl <| Zw .nilIface rfl <| WL_nil <| WC_seq fun K13 hK14 => ?_
 have hnb := atoi_range ha2_1
 have hnb1 := hnb.1
 have hnb2 := hnb.2
 refine Zr <| Zb rfl <| Zv (r_not rfl) <| ZX rfl (fun hs3_2 => ?_) fun hs3_2 => ?_
 refine Zs <| Zs <| Zb rfl <| Zb rfl <| Zs <| Zs <| Zs <| Zb rfl <| Zb rfl <| Zs <| Zs <| Zs <| Zs <| Zb rfl ?_
 refine Zb rfl <| Zs <| Zs <| Zs <| Zb rfl <| Zb rfl <| Zs <| Zs <| Zs <| Zb rfl <| WL_nil <| WC_cond_true rfl <| Zr <| Zi rfl ?_
 refine WL_nil <| Zt <| ret_t (v := .int .i64 _) rfl ⟨hB, ?_⟩
 first | exact num_1 hs3_2 | exact num_2 ha2_1 | exact num_3 hs3_11 | exact num_4 ha2_1 hs3_17 | exact num_5 h0 hs3_2 hs3_11 hs3_17 hs3_22 | exact num_6 hs3_2 hs3_11 hs3_17 hc0 | exact num_7 h0 hs3_2 hs3_11 hs3_17 hs3_22 hc0
 refine Zw .nilIface rfl <| Zv (r_neqNil0 rfl tb_if102) <| Zb rfl <| Zb rfl <| Zw (.string _) rfl <| Zv (r_lenW rfl Tryz.underlying9) <| Zv (r_gtr rfl rfl) <| Zb rfl <| ZX rfl (fun hs3_11 => ?_) fun hs3_11 => ?_
 refine Zs <| Zs <| Zs <| Zs <| Zb rfl <| Zb rfl <| Zs <| Zs <| Zs <| Zb rfl <| Zb rfl <| Zs <| Zs <| Zs ?_
 refine Zb rfl <| WL_nil <| WC_cond_true rfl <| Zr <| Zi rfl <| WL_nil <| Zt <| ret_t (v := .int .i64 _) rfl ⟨hB, ?_⟩
 first | exact num_1 hs3_2 | exact num_2 ha2_1 | exact num_3 hs3_11 | exact num_4 ha2_1 hs3_17 | exact num_5 h0 hs3_2 hs3_11 hs3_17 hs3_22 | exact num_6 hs3_2 hs3_11 hs3_17 hc0 | exact num_7 h0 hs3_2 hs3_11 hs3_17 hs3_22 hc0
 refine Zi rfl <| ZC tb_c69 (C_strconv_Itoa _ _ (Gl.below hB hgl) (by first | assumption | omega) (by first | assumption | omega)) rfl fun v3_13 W21 hE22 hP3_13 => ?_
 replace hB := Ze hB hE22
 obtain rfl := hP3_13
 refine Zw (.string _) rfl <| Zv (r_neqW rfl rfl) <| Zb rfl <| ZX rfl (fun hs3_17 => ?_) fun hs3_17 => ?_
 refine Zs <| Zs <| Zs <| Zb rfl <| Zb rfl <| Zs <| Zs <| Zs <| Zb rfl <| WL_nil <| WC_cond_true rfl <| Zr <| Zi rfl <| WL_nil ?_
 refine Zt <| ret_t (v := .int .i64 _) rfl ⟨hB, ?_⟩
 first | exact num_1 hs3_2 | exact num_2 ha2_1 | exact num_3 hs3_11 | exact num_4 ha2_1 hs3_17 | exact num_5 h0 hs3_2 hs3_11 hs3_17 hs3_22 | exact num_6 hs3_2 hs3_11 hs3_17 hc0 | exact num_7 h0 hs3_2 hs3_11 hs3_17 hs3_22 hc0
 refine Zi rfl <| Zi rfl <| Zv (r_lss rfl rfl) <| Zb rfl <| ZX rfl (fun hs3_22 => ?_) fun hs3_22 => ?_
 refine Zs <| Zs <| Zs <| Zb rfl <| WL_nil <| WC_cond_true rfl <| Zr <| Zi rfl <| WL_nil <| Zt <| ret_t (v := .int .i64 _) rfl ⟨hB, ?_⟩
 first | exact num_1 hs3_2 | exact num_2 ha2_1 | exact num_3 hs3_11 | exact num_4 ha2_1 hs3_17 | exact num_5 h0 hs3_2 hs3_11 hs3_17 hs3_22 | exact num_6 hs3_2 hs3_11 hs3_17 hc0 | exact num_7 h0 hs3_2 hs3_11 hs3_17 hs3_22 hc0
 refine Zi rfl <| Zi rfl <| Zv (r_gtr rfl rfl) <| Zb rfl <| WL_nil <| ZQ rfl (fun hc0 => ?_) fun hc0 => ?_
 refine Zr <| Zi rfl <| WL_nil <| Zt <| ret_t (v := .int .i64 _) rfl ⟨hB, ?_⟩
 first | exact num_1 hs3_2 | exact num_2 ha2_1 | exact num_3 hs3_11 | exact num_4 ha2_1 hs3_17 | exact num_5 h0 hs3_2 hs3_11 hs3_17 hs3_22 | exact num_6 hs3_2 hs3_11 hs3_17 hc0 | exact num_7 h0 hs3_2 hs3_11 hs3_17 hs3_22 hc0
 refine WC_skip <| hK14 _ _ <| Zr <| Zi rfl <| Zi rfl <| WL_nil <| Zt <| ret_t (v := .int .i64 _) rfl ⟨hB, ?_⟩
 first | exact num_1 hs3_2 | exact num_2 ha2_1 | exact num_3 hs3_11 | exact num_4 ha2_1 hs3_17 | exact num_5 h0 hs3_2 hs3_11 hs3_17 hs3_22 | exact num_6 hs3_2 hs3_11 hs3_17 hc0 | exact num_7 h0 hs3_2 hs3_11 hs3_17 hs3_22 hc0
 obtain ⟨ha2_1, n2_1, p2_1, rfl⟩ := hP2_1
 refine Zw (.tuple #[.int .i64 _, .iface _ _]) rfl <| Zv (r_ext2_0 rfl) <| Zv (r_ext2_1 rfl) <| Zi rfl <| Zw (.iface _ _) rfl <| WL_nil <| WC_seq fun K32 hK33 => Zr <| Zb rfl <| Zv (r_not rfl) <| ZX rfl (fun hs3_2 => ?_) fun hs3_2 => ?_
 refine Zs <| Zs <| Zb rfl <| Zb rfl <| Zs <| Zs <| Zs <| Zb rfl <| Zb rfl <| Zs <| Zs <| Zs <| Zs <| Zb rfl ?_
 refine Zb rfl <| Zs <| Zs <| Zs <| Zb rfl <| Zb rfl <| Zs <| Zs <| Zs <| Zb rfl <| WL_nil <| WC_cond_true rfl <| Zr <| Zi rfl ?_
 refine WL_nil <| Zt <| ret_t (v := .int .i64 _) rfl ⟨hB, ?_⟩
 first | exact num_1 hs3_2 | exact num_2 ha2_1 | exact num_3 hs3_11 | exact num_4 ha2_1 hs3_17 | exact num_5 h0 hs3_2 hs3_11 hs3_17 hs3_22 | exact num_6 hs3_2 hs3_11 hs3_17 hc0 | exact num_7 h0 hs3_2 hs3_11 hs3_17 hs3_22 hc0
 refine Zw (.iface _ _) rfl <| Zv (r_neqNil rfl tb_if102) <| Zb rfl <| Zb rfl <| Zs <| Zs <| Zs <| Zb rfl <| Zb rfl <| Zs <| Zs <| Zs <| Zs <| Zb rfl ?_
 refine Zb rfl <| Zs <| Zs <| Zs <| Zb rfl <| Zb rfl <| Zs <| Zs <| Zs <| Zb rfl <| WL_nil <| WC_cond_true rfl <| Zr <| Zi rfl ?_
 refine WL_nil <| Zt <| ret_t (v := .int .i64 _) rfl ⟨hB, ?_⟩
 first | exact num_1 hs3_2 | exact num_2 ha2_1 | exact num_3 hs3_11 | exact num_4 ha2_1 hs3_17 | exact num_5 h0 hs3_2 hs3_11 hs3_17 hs3_22 | exact num_6 hs3_2 hs3_11 hs3_17 hc0 | exact num_7 h0 hs3_2 hs3_11 hs3_17 hs3_22 hc0

theorem C_cube_Parse (s : List UInt8) (w : World) :
    Fn Tryz.prog 72 #[keyW s] w fun v w' => v = if cubOk s = true then .tuple #[.agg #[.int .u8 ((cubT s).m : Int), .int .u8 ((cubT s).v : Int)], .int .i64 0] else .tuple #[.agg #[.int .u8 0, .int .u8 0], .int .i64 2] := by
 refine Fn_intro (n := 44) Tryz.func72 rfl rfl (Nat.le_of_ble_eq_true rfl) ?_
 have hB : Below w.heap.size w w := Below.refl _ _
 refine Zr <| Zy (Y_alloc tb_z41 rfl fun b0_0 W3 hb4 hE5 hm0_0 => ?_)
 have lo_b0_0 := ZO hb4 hB
 clear hb4
 replace hB := Ze hB hE5
 refine Zi rfl <| WL_nil <| WC_seq fun K6 hK7 => Zr <| Zw (.string _) rfl <| Zv (r_lenW rfl Tryz.underlying9) <| Zv (r_gtr rfl rfl) <| WL_nil <| ZQ rfl (fun hc0 => ?_) fun hc0 => ?_
 refine Zr <| Zv (tb_build41_ ) <| Zy (Y_storeW rfl rfl tb_ag41 rfl hm0_0 rfl rfl fun W12 hG13 hm14 => ?_)
 replace hB := Zg hB hG13 lo_b0_0
 replace hm0_0 := hm14
 refine Zi rfl <| WL_nil <| Zt <| ret_ct rfl tb_ag41 hm0_0 rfl (v1 := .int .i64 2) rfl ⟨hB, ?_⟩
 first | (rw [if_neg (by rw [cub_no8 (by omega)]; decide)]) | (have e : i = s.length := (by omega); subst e; rw [if_pos (cub_yes (by omega) hq)]; rfl) | (rw [if_neg (by rw [cub_no hlt5_0 (rune_no hrr5_0 hc2 hc3 hc4)]; decide)])
 refine WC_skip <| hK7 _ _ <| Zr <| Zy (Y_alloc tb_z41 rfl fun b3_0 W17 hb18 hE19 hm3_0 => ?_)
 have lo_b3_0 := ZO hb18 hB
 have ne_b0_0_b3_0 := Zn hb18 hm0_0
 clear hb18
 replace hB := Ze hB hE19
 replace hm0_0 := hE19.at hm0_0
 refine WL_nil <| WC_seq fun K20 hK21 => Zr <| Zw (.string _) rfl <| Zy (Y_rangeW rfl Tryz.underlying9 fun b4_1 W24 hb25 hE26 hm4_1 => ?_)
 have lo_b4_1 := ZO hb25 hB
 clear hb25
 replace hB := Ze hB hE26
 replace hm0_0 := hE26.at hm0_0
 replace hm3_0 := hE26.at hm3_0
 refine WL_nil <| WC_block ?_
 refine WC_loop (σ := (Nat)) [3, 5, 6, 13, 14, 15, 16, 17, 18, 19, 20, 21, 22, 23, 24, 25, 26, 27, 28, 29, 30, 31, 32, 33, 34, 35, 36, 37, 38, 39, 40, 41, 42] (fun i => []) (fun i W => (Below w.heap.size w W) ∧ (At W b0_0 _ 41) ∧ (At W b3_0 #[.int .u8 ((pmT s i : Nat) : Int), .int .u8 ((pvT s i : Nat) : Int)] 41) ∧ (ItW W b4_1 s i) ∧ (i ≤ s.length) ∧ (∀ q, q < i → chOk (byN s q) = true) ∧ (True)) (fun i => s.length - i) (0) trivial ⟨hB, hm0_0, hm3_0, hm4_1, (Nat.zero_le _), upTo_zero, trivial⟩ ?_
 clear hB hm0_0 hm3_0 hm4_1
 rintro i g28 W27 ⟨hB, hm0_0, hm3_0, hit, hi, hq, _⟩ J29 hJ30
 refine Zr ?_
 refine WL_step (dd := some 13) rfl rfl rfl (Y_nextW rfl hit (fun hnd5_0 => ?_) (fun rr5_0 nn5_0 W33 hlt5_0 hgt5_0 hrr5_0 hG34 hm35 => ?_))
 refine Zv (r_ext1_0 rfl) <| WL_nil <| WC_seq fun K36 hK37 => WC_cond_false rfl <| WC_exit <| hK21 _ _ <| Zr <| Zv (r_loadW rfl tb_ag41 rfl hm3_0) <| Zy (Y_storeW rfl rfl tb_ag41 rfl hm0_0 rfl rfl fun W40 hG41 hm42 => ?_)
 replace hB := Zg hB hG41 lo_b0_0
 replace hm3_0 := At.grownNe hm3_0 (Ne.symm ne_b0_0_b3_0) hG41
 replace hit := ItW.grownAt hit hm0_0 hG41
 replace hm0_0 := hm42
 refine Zi rfl <| WL_nil <| Zt <| ret_ct rfl tb_ag41 hm0_0 rfl (v1 := .int .i64 0) rfl ⟨hB, ?_⟩
 first | (rw [if_neg (by rw [cub_no8 (by omega)]; decide)]) | (have e : i = s.length := (by omega); subst e; rw [if_pos (cub_yes (by omega) hq)]; rfl) | (rw [if_neg (by rw [cub_no hlt5_0 (rune_no hrr5_0 hc2 hc3 hc4)]; decide)])
 replace hB := Zg hB hG34 lo_b4_1
 replace hm0_0 := At.grownItW hm0_0 hit hG34
 replace hm3_0 := At.grownItW hm3_0 hit hG34
 replace hit := hm35
 refine Zv (r_ext3_0 rfl) <| WL_nil <| WC_seq fun K43 hK44 => WC_cond_true rfl <| WC_skip <| hK44 _ _ <| WC_block <| Zr <| Zv (r_ext3_1 rfl) <| Zv (r_ext3_2 rfl) <| Zi rfl <| Zi rfl <| WL_nil ?_
 have hmb := pmT_lt s i
 have hvb := pvT_lt s i
 have hpb := pow7 (show i < 8 by omega)
 refine Zr <| Zi rfl <| WL_nil <| WC_block <| Zr <| Zv (r_eql rfl rfl) <| Zb rfl <| WL_nil <| ZQ rfl (fun hc2 => ?_) fun hc2 => ?_
 refine Zd Ext fun W53 hE54 => ?_
 replace hB := Ze hB hE54
 replace hm0_0 := hE54.at hm0_0
 replace hm3_0 := hE54.at hm3_0
 replace hit := hE54.itW hit
 have hS := Ext.refl W53
 refine Tf 0 rfl rfl tb_fo41_1 hS <| Tk 1 rfl (fun _ hq => r_load1 (v := .int .u8 _) rfl tb_sc5 (At.cell (hq.at hm3_0) rfl)) hS <| Ti 2 rfl rfl hS <| Tk 3 rfl (fun _ _ => r_shl (m := 1) rfl rfl Om (by simp only [IntKind.bits]; omega) (by exact shl1 _ _ (by simp only [bitsN]; omega))) hS <| Tk 4 rfl (fun _ _ => r_or (n := _) rfl rfl rfl (by first | assumption | (simp only [topN]; omega) | (simp only [topN]; decide)) (by simp only [topN, Int.toNat_natCast, Nat.one_mul]; omega)) hS <| Tf 5 rfl rfl tb_fo41_1 hS <| To 6 rfl (Y_store1 (v := .int .u8 _) rfl rfl tb_sc5 rfl hm3_0 (by simp) fun W55 hG56 hm57 => ⟨.inr (by kernel_rfl), ?_⟩)
 replace hB := Zg hB hG56 lo_b3_0
 replace hm0_0 := At.grownNe hm0_0 ne_b0_0_b3_0 hG56
 replace hit := ItW.grownAt hit hm3_0 hG56
 replace hm3_0 := hm57
 replace hm3_0 : At _ _ #[_, _] _ := hm3_0
 refine Td ?_
 refine WC_draw Ext tb_mix (fun W59 hE60 => ?_)
 replace hB := Ze hB hE60
 replace hm0_0 := hE60.at hm0_0
 replace hm3_0 := hE60.at hm3_0
 replace hit := hE60.itW hit
 have hS := Ext.refl W59
 refine Tf 0 rfl rfl tb_fo41_0 hS <| Tk 1 rfl (fun _ hq => r_load1 (v := .int .u8 _) rfl tb_sc5 (At.cell (hq.at hm3_0) rfl)) hS <| Ti 2 rfl rfl hS <| Tk 3 rfl (fun _ _ => r_shl (m := 1) rfl rfl Om (by simp only [IntKind.bits]; omega) (by exact shl1 _ _ (by simp only [bitsN]; omega))) hS <| Tk 4 rfl (fun _ _ => r_or (n := _) rfl rfl rfl (by first | assumption | (simp only [topN]; omega) | (simp only [topN]; decide)) (by simp only [topN, Int.toNat_natCast, Nat.one_mul]; omega)) hS <| Tf 5 rfl rfl tb_fo41_0 hS <| To 6 rfl (Y_store1 (v := .int .u8 _) rfl rfl tb_sc5 rfl hm3_0 (by simp) fun W61 hG62 hm63 => ⟨.inr (by kernel_rfl), ?_⟩)
 replace hB := Zg hB hG62 lo_b3_0
 replace hm0_0 := At.grownNe hm0_0 ne_b0_0_b3_0 hG62
 replace hit := ItW.grownAt hit hm3_0 hG62
 replace hm3_0 := hm63
 replace hm3_0 : At _ _ #[_, _] _ := hm3_0
 refine Td ?_
 have hbn : (byN s i = 49 ∨ byN s i = 48 ∨ byN s i = 45) ∧ nn5_0 = i + 1 := by omega
 obtain ⟨hb0, hn⟩ := hbn
 subst hn
 refine hJ30 _ _ (i + 1) ?_ ?_ ?_ ?_
 · repeat (first | exact agree.mask _ _ _ | refine agree.updo ?_ rfl _ | refine agree.updL ?_ _ rfl | refine agree.maskS rfl ?_)
 · exact trivial
 · exact ⟨hB, hm0_0, (by first | (rw [← pmT_1 (.inr (by omega)), ← pvT_1 (by omega)]; exact hm3_0) | (rw [← pmT_1 (.inl (by omega)), ← pvT_0 (by omega)]; exact hm3_0) | (rw [← pmT_0 (by omega), ← pvT_0 (by omega)]; exact hm3_0)), hit, (by omega), (upTo_succ hq (ch_of hb0)), trivial⟩
 · first | omega | (dsimp only; omega)
 refine Zr <| Zv (r_eql rfl rfl) <| Zb rfl <| WL_nil <| ZQ rfl (fun hc3 => ?_) fun hc3 => ?_
 refine WC_draw Ext tb_mix (fun W67 hE68 => ?_)
 replace hB := Ze hB hE68
 replace hm0_0 := hE68.at hm0_0
 replace hm3_0 := hE68.at hm3_0
 replace hit := hE68.itW hit
 have hS := Ext.refl W67
 refine Tf 0 rfl rfl tb_fo41_0 hS <| Tk 1 rfl (fun _ hq => r_load1 (v := .int .u8 _) rfl tb_sc5 (At.cell (hq.at hm3_0) rfl)) hS <| Ti 2 rfl rfl hS <| Tk 3 rfl (fun _ _ => r_shl (m := 1) rfl rfl Om (by simp only [IntKind.bits]; omega) (by exact shl1 _ _ (by simp only [bitsN]; omega))) hS <| Tk 4 rfl (fun _ _ => r_or (n := _) rfl rfl rfl (by first | assumption | (simp only [topN]; omega) | (simp only [topN]; decide)) (by simp only [topN, Int.toNat_natCast, Nat.one_mul]; omega)) hS <| Tf 5 rfl rfl tb_fo41_0 hS <| To 6 rfl (Y_store1 (v := .int .u8 _) rfl rfl tb_sc5 rfl hm3_0 (by simp) fun W69 hG70 hm71 => ⟨.inr (by kernel_rfl), ?_⟩)
 replace hB := Zg hB hG70 lo_b3_0
 replace hm0_0 := At.grownNe hm0_0 ne_b0_0_b3_0 hG70
 replace hit := ItW.grownAt hit hm3_0 hG70
 replace hm3_0 := hm71
 replace hm3_0 : At _ _ #[_, _] _ := hm3_0
 refine Td ?_
 have hbn : (byN s i = 49 ∨ byN s i = 48 ∨ byN s i = 45) ∧ nn5_0 = i + 1 := by omega
 obtain ⟨hb0, hn⟩ := hbn
 subst hn
 refine hJ30 _ _ (i + 1) ?_ ?_ ?_ ?_
 · repeat (first | exact agree.mask _ _ _ | refine agree.updo ?_ rfl _ | refine agree.updL ?_ _ rfl | refine agree.maskS rfl ?_)
 · exact trivial
 · exact ⟨hB, hm0_0, (by first | (rw [← pmT_1 (.inr (by omega)), ← pvT_1 (by omega)]; exact hm3_0) | (rw [← pmT_1 (.inl (by omega)), ← pvT_0 (by omega)]; exact hm3_0) | (rw [← pmT_0 (by omega), ← pvT_0 (by omega)]; exact hm3_0)), hit, (by omega), (upTo_succ hq (ch_of hb0)), trivial⟩
 · first | omega | (dsimp only; omega)
 refine Zr <| Zv (r_eql rfl rfl) <| Zb rfl <| WL_nil <| ZQ rfl (fun hc4 => ?_) fun hc4 => ?_
 refine WC_skip ?_
 have hbn : (byN s i = 49 ∨ byN s i = 48 ∨ byN s i = 45) ∧ nn5_0 = i + 1 := by omega
 obtain ⟨hb0, hn⟩ := hbn
 subst hn
 refine hJ30 _ _ (i + 1) ?_ ?_ ?_ ?_
 · repeat (first | exact agree.mask _ _ _ | refine agree.updo ?_ rfl _ | refine agree.updL ?_ _ rfl | refine agree.maskS rfl ?_)
 · exact trivial
 · exact ⟨hB, hm0_0, (by first | (rw [← pmT_1 (.inr (by omega)), ← pvT_1 (by omega)]; exact hm3_0) | (rw [← pmT_1 (.inl (by omega)), ← pvT_0 (by omega)]; exact hm3_0) | (rw [← pmT_0 (by omega), ← pvT_0 (by omega)]; exact hm3_0)), hit, (by omega), (upTo_succ hq (ch_of hb0)), trivial⟩
 · first | omega | (dsimp only; omega)
 refine Zr <| Zv (tb_build41_ ) <| Zy (Y_storeW rfl rfl tb_ag41 rfl hm0_0 rfl rfl fun W77 hG78 hm79 => ?_)
 replace hB := Zg hB hG78 lo_b0_0
 replace hm3_0 := At.grownNe hm3_0 (Ne.symm ne_b0_0_b3_0) hG78
 replace hit := ItW.grownAt hit hm0_0 hG78
 replace hm0_0 := hm79
 refine Zi rfl <| WL_nil <| Zt <| ret_ct rfl tb_ag41 hm0_0 rfl (v1 := .int .i64 2) rfl ⟨hB, ?_⟩
 first | (rw [if_neg (by rw [cub_no8 (by omega)]; decide)]) | (have e : i = s.length := (by omega); subst e; rw [if_pos (cub_yes (by omega) hq)]; rfl) | (rw [if_neg (by rw [cub_no hlt5_0 (rune_no hrr5_0 hc2 hc3 hc4)]; decide)])

end Go.Proofs.YtnkaebjaeaecmaaGreatDoor
