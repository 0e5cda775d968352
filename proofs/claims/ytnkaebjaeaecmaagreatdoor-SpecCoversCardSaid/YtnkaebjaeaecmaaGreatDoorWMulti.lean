/-
  The walks of specs, of package multi, and of the document's rows.
-/
import Derived.Test.YtnkaebjaeaecmaaGreatDoorProg
import Derived.Test.YtnkaebjaeaecmaaGreatDoorWAll
import Derived.Test.YtnkaebjaeaecmaaGreatDoorMulti2
import Derived.Test.YtnkaebjaeaecmaaGreatDoorZip
namespace Go.Proofs.YtnkaebjaeaecmaaGreatDoor
set_option linter.unusedVariables false
set_option linter.unusedSimpArgs false
open Go Go.RowKit

theorem tb_fo48_1 : fieldO Tryz.prog 48 1 = some 2 := by kernel_rfl
theorem tb_c51 : callB Tryz.prog 51 = true := by kernel_rfl
theorem tb_fo48_0 : fieldO Tryz.prog 48 0 = some 0 := by kernel_rfl
theorem tb_c47 : callB Tryz.prog 47 = true := by kernel_rfl
theorem tb_fo29_0 : fieldO Tryz.prog 29 0 = some 0 := by kernel_rfl
theorem tb_fo29_1 : fieldO Tryz.prog 29 1 = some 1 := by kernel_rfl
theorem tb_sc27 : scalarB Tryz.prog 27 = true := by kernel_rfl
theorem tb_el27 : elemI Tryz.prog 27 = some (51, 4, 32) := by kernel_rfl
theorem tb_fo29_2 : fieldO Tryz.prog 29 2 = some 2 := by kernel_rfl
theorem tb_c27 : callB Tryz.prog 27 = true := by kernel_rfl
theorem tb_c28 : callB Tryz.prog 28 = true := by kernel_rfl
theorem tb_c25 : callB Tryz.prog 25 = true := by kernel_rfl
theorem tb_c18 : callB Tryz.prog 18 = true := by kernel_rfl
theorem tb_c26 : callB Tryz.prog 26 = true := by kernel_rfl

theorem C_drawkniferef04_Bit (o i : Nat) (w : World) (ho : o < 256) (hi : i < 8) :
    Fn Tryz.prog 51 #[.int .u8 (o : Int), .int .i64 (i : Int)] w fun v w' => v = .bool (o.testBit i) := by
 refine Fn_intro (n := 10) Tryz.func51 rfl rfl (Nat.le_of_ble_eq_true rfl) ?_
 have hB : Below w.heap.size w w := Below.refl _ _
 refine Zr <| Zb rfl <| WL_nil <| Zr <| Zi rfl <| Zv (r_convN rfl Tryz.underlying5 Tryz.underlying3 (by first | assumption | (simp only [topN]; omega) | (simp only [topN]; decide))) <| Zi rfl <| ZC tb_c64 (C_drawkniferef01_Bit _ _ _ (by first | assumption | omega) (by first | assumption | omega)) rfl fun v1_3 W5 hE6 hP1_3 => ?_
 replace hB := Ze hB hE6
 obtain rfl := hP1_3
 refine Zv (r_eql rfl rfl) <| Zb rfl <| WL_nil <| Zt <| ret_t (v := .bool _) rfl ⟨hB, ?_⟩
 exact congrArg Value.bool bit_bool

theorem C_drawkniferef04_May (m u o outs : Nat) (n : Int) (w : World) (hm : m < 256) (hv : u < 256) (ho : o < 256) :
    Fn Tryz.prog 32 #[.agg #[.int .u8 (m : Int), .int .u8 (u : Int), .int .u8 (o : Int)], .int .i64 n, .int .i64 (outs : Int)] w fun v w' => v = .bool (okO o outs && rightB m u n) := by
 refine Fn_intro (n := 27) Tryz.func32 rfl rfl (Nat.le_of_ble_eq_true rfl) ?_
 have hB : Below w.heap.size w w := Below.refl _ _
 refine Zr <| Zy (Y_box (c := #[_, _, _]) rfl rfl fun b0_0 W3 hb4 hE5 hm0_0 => ?_)
 have lo_b0_0 := ZO hb4 hB
 clear hb4
 replace hB := Ze hB hE5
 refine Zb rfl <| WL_nil <| Zr <| Zb rfl <| WL_nil <| WC_seq fun K8 hK9 => Zr <| Zi rfl <| WL_nil <| WC_block ?_
 refine WC_loop (σ := (Nat)) [6, 7, 8, 9, 10, 11, 12, 13, 14, 15, 16, 17, 18, 19] (fun k => [(8, .int .i64 (k : Int)), (7, .bool (someTo o k))]) (fun k W => (Below w.heap.size w W) ∧ (At W b0_0 _ 48) ∧ (k ≤ 8) ∧ (∀ j, j < k → o.testBit j = true → j < outs) ∧ (True)) (fun k => 8 - k) (0) ⟨rfl, rfl, trivial⟩ ⟨hB, hm0_0, Om, upTo_zero, trivial⟩ ?_
 clear hB hm0_0
 rintro k g13 W12 ⟨hB, hm0_0, hk, hq, _⟩ J14 hJ15
 refine WC_seq fun K16 hK17 => Zr <| Zi rfl <| Zv (r_lss rfl rfl) <| WL_nil <| ZQ rfl (fun hc0 => ?_) fun hc0 => ?_
 refine WC_skip <| hK17 _ _ <| WC_seq fun K20 hK21 => WC_block <| Zr <| Zf rfl tb_fo48_1 <| Zl rfl tb_sc5 hm0_0 rfl <| Zi rfl <| ZC tb_c51 (C_drawkniferef04_Bit _ _ _ (by first | assumption | omega) (by first | assumption | omega)) rfl fun v5_3 W24 hE25 hP5_3 => ?_
 replace hB := Ze hB hE25
 replace hm0_0 := hE25.at hm0_0
 obtain rfl := hP5_3
 refine WL_nil <| ZQ rfl (fun hc1 => ?_) fun hc1 => ?_
 refine WC_seq fun K27 hK28 => Zr <| Zi rfl <| Zi rfl <| Zv (r_geq rfl rfl) <| WL_nil <| ZQ rfl (fun hc2 => ?_) fun hc2 => ?_
 refine Zr <| Zb rfl <| WL_nil <| Zt <| ret_t (v := .bool false) rfl ⟨hB, ?_⟩
 rw [okO_no hc1 (by omega), Bool.false_and]
 refine WC_skip <| hK28 _ _ <| WC_region <| Zb rfl <| WL_nil <| hK21 _ _ <| WC_region <| Zi rfl <| Zv (r_addI rfl rfl Om Om) <| Zi rfl <| WL_nil ?_
 exact hJ15 _ _ (k + 1) Za ⟨rfl, (by first | exact congrArg Value.bool (some_t hc1) | exact congrArg Value.bool (some_f hc1)), trivial⟩ ⟨hB, hm0_0, Om, (upTo_succ hq (fun _ => by omega)), trivial⟩ Zo
 refine WC_skip <| hK21 _ _ <| WC_region <| Zi rfl <| Zv (r_addI rfl rfl Om Om) <| Zi rfl <| WL_nil ?_
 exact hJ15 _ _ (k + 1) Za ⟨rfl, (by first | exact congrArg Value.bool (some_t hc1) | exact congrArg Value.bool (some_f hc1)), trivial⟩ ⟨hB, hm0_0, Om, (upTo_succ hq (fun h => by rw [h] at hc1; cases hc1)), trivial⟩ Zo
 refine WC_exit <| hK9 _ _ <| Zr <| Zb rfl <| ZX rfl (fun hs9_1 => ?_) fun hs9_1 => ?_
 refine Zf rfl tb_fo48_0 <| Zv (r_load2 rfl tb_ag41 (At.cell hm0_0 rfl) (At.cell hm0_0 rfl)) <| Zi rfl <| ZC tb_c47 (C_drawkniferef02_Right _ _ _ _ (by first | assumption | omega) (by first | assumption | omega)) rfl fun v9_5 W35 hE36 hP9_5 => ?_
 replace hB := Ze hB hE36
 replace hm0_0 := hE36.at hm0_0
 obtain rfl := hP9_5
 refine Zb rfl <| Zb rfl <| WL_nil <| Zt <| ret_t (v := .bool _) rfl ⟨hB, ?_⟩
 obtain rfl : k = 8 := by omega
 rw [okO_all ho hq, hs9_1, Bool.true_and]
 refine Zs <| Zs <| Zs <| Zs <| Zb rfl <| Zb rfl <| WL_nil <| Zt <| ret_t (v := .bool false) rfl ⟨hB, ?_⟩
 obtain rfl : k = 8 := by omega
 rw [okO_all ho hq, hs9_1, Bool.false_and]

theorem C_drawkniferef04_Right (S : Sp) (onV mayV : Value) (w : World) (hon : SlT encS 4 w onV S.on) (hmay : SlT encS 4 w mayV S.may) :
    Fn Tryz.prog 12 #[.agg #[.int .i64 S.n, onV, mayV]] w fun v w' => v = .bool (rightS S) := by
 refine Fn_intro (n := 65) Tryz.func12 rfl rfl (Nat.le_of_ble_eq_true rfl) ?_
 have hB : Below w.heap.size w w := Below.refl _ _
 refine Zr <| Zy (Y_box (c := #[_, _, _]) rfl rfl fun b0_0 W3 hb4 hE5 hm0_0 => ?_)
 have lo_b0_0 := ZO hb4 hB
 clear hb4
 replace hB := Ze hB hE5
 refine Zb rfl <| WL_nil <| WC_seq fun K6 hK7 => Zr <| Zf rfl tb_fo29_0 <| Zl rfl tb_sc3 hm0_0 rfl <| Zv (r_lss rfl rfl) <| ZX rfl (fun hs1_3 => ?_) fun hs1_3 => ?_
 refine Zs <| Zs <| Zs <| Zb rfl <| Zb rfl <| Zs <| Zs <| Zs <| Zs <| Zb rfl <| Zb rfl <| Zs <| Zs <| Zs ?_
 refine Zs <| Zb rfl <| Zb rfl <| Zs <| Zs <| Zs <| Zs <| Zs <| Zs <| Zs <| Zb rfl <| WL_nil <| WC_cond_true rfl <| Zr ?_
 refine Zb rfl <| WL_nil <| Zt <| ret_t (v := .bool false) rfl ⟨hB, ?_⟩
 exact right_f Om
 refine Zf rfl tb_fo29_0 <| Zl rfl tb_sc3 hm0_0 rfl <| Zv (r_gtr rfl rfl) <| Zb rfl <| ZX rfl (fun hs1_8 => ?_) fun hs1_8 => ?_
 refine Zs <| Zs <| Zs <| Zs <| Zb rfl <| Zb rfl <| Zs <| Zs <| Zs <| Zs <| Zb rfl <| Zb rfl <| Zs <| Zs ?_
 refine Zs <| Zs <| Zs <| Zs <| Zs <| Zb rfl <| WL_nil <| WC_cond_true rfl <| Zr <| Zb rfl <| WL_nil <| Zt <| ret_t (v := .bool false) rfl ⟨hB, ?_⟩
 exact right_f Om
 refine Zf rfl tb_fo29_1 <| ZL onV rfl tb_sc27 hm0_0 rfl <| Zv (r_lenS (v := onV) rfl (Below.slT hB hon) tb_el27) <| Zv (r_lss rfl rfl) <| Zb rfl <| ZX rfl (fun hs1_14 => ?_) fun hs1_14 => ?_
 refine Zs <| Zs <| Zs <| Zs <| Zb rfl <| Zb rfl <| Zs <| Zs <| Zs <| Zs <| Zs <| Zs <| Zs <| Zb rfl ?_
 refine WL_nil <| WC_cond_true rfl <| Zr <| Zb rfl <| WL_nil <| Zt <| ret_t (v := .bool false) rfl ⟨hB, ?_⟩
 exact right_f Om
 refine Zf rfl tb_fo29_1 <| ZL onV rfl tb_sc27 hm0_0 rfl <| Zv (r_lenS (v := onV) rfl (Below.slT hB hon) tb_el27) <| Zv (r_gtr rfl rfl) <| Zb rfl <| ZX rfl (fun hs1_20 => ?_) fun hs1_20 => ?_
 refine Zs <| Zs <| Zs <| Zs <| Zs <| Zs <| Zs <| Zb rfl <| WL_nil <| WC_cond_true rfl <| Zr <| Zb rfl <| WL_nil <| Zt ?_
 refine ret_t (v := .bool false) rfl ⟨hB, ?_⟩
 exact right_f Om
 refine Zf rfl tb_fo29_2 <| ZL mayV rfl tb_sc27 hm0_0 rfl <| Zv (r_lenS (v := mayV) rfl (Below.slT hB hmay) tb_el27) <| Zf rfl tb_fo29_1 <| ZL onV rfl tb_sc27 hm0_0 rfl <| Zv (r_lenS (v := onV) rfl (Below.slT hB hon) tb_el27) <| Zv (r_neq rfl rfl) <| Zb rfl <| WL_nil <| ZQ rfl (fun hc0 => ?_) fun hc0 => ?_
 refine Zr <| Zb rfl <| WL_nil <| Zt <| ret_t (v := .bool false) rfl ⟨hB, ?_⟩
 exact right_f Om
 refine WC_skip <| hK7 _ _ <| WC_seq fun K20 hK21 => Zr <| Zi rfl <| WL_nil <| WC_block ?_
 refine WC_loop (σ := (Nat)) [2, 3, 33, 34, 35, 36, 37, 38, 39, 40, 41, 42, 43, 44, 45, 46, 47, 48, 49, 50, 51, 52, 53, 54, 55, 56, 57, 58, 59, 60, 61, 62, 63, 64] (fun k => [(3, .int .i64 (k : Int))]) (fun k W => (Below w.heap.size w W) ∧ (At W b0_0 _ 29) ∧ (k ≤ S.on.length) ∧ (∀ q, q < k → withinB (onP S q) (mayP S q) = true ∧ withinB (mayP S q) (allS S.n.toNat) = true) ∧ (True)) (fun k => S.on.length - k) (0) ⟨rfl, trivial⟩ ⟨hB, hm0_0, (Nat.zero_le _), upTo_zero, trivial⟩ ?_
 clear hB hm0_0
 rintro k g25 W24 ⟨hB, hm0_0, hk, hq, _⟩ J26 hJ27
 refine WC_seq fun K28 hK29 => Zr <| Zi rfl <| Zf rfl tb_fo29_1 <| ZL onV rfl tb_sc27 hm0_0 rfl <| Zv (r_lenS (v := onV) rfl (Below.slT hB hon) tb_el27) <| Zv (r_lss rfl rfl) <| WL_nil <| ZQ rfl (fun hc1 => ?_) fun hc1 => ?_
 refine WC_skip <| hK29 _ _ <| WC_seq fun K32 hK33 => WC_block ?_
 have h0 : 0 ≤ S.n := by omega
 have h8 : S.n ≤ 8 := by omega
 refine Zd Ext fun W36 hE37 => ?_
 replace hB := Ze hB hE37
 replace hm0_0 := hE37.at hm0_0
 have hS := Ext.refl W36
 refine Tf 0 rfl rfl tb_fo29_1 hS <| Tk 1 rfl (fun _ hq => r_load1 (v := onV) rfl tb_sc27 (At.cell (hq.at hm0_0) rfl)) hS <| Ti 2 rfl rfl hS <| Tk 3 rfl (fun _ hq => r_idxS (v := onV) rfl (hq.slT (Below.slT hB hon)) rfl tb_el27 Om (by first | omega | (simp only [flagsTo_len, litsTo_len, firstF_len, ptF_len, setF_len]; omega))) hS <| Tk 4 rfl (fun _ hq => r_load4 rfl tb_ag51 (SlT.cell (hq.slT (Below.slT hB hon)) encS_len 0 Om (by first | omega | (simp only [flagsTo_len, litsTo_len, firstF_len, ptF_len, setF_len]; omega)) 0 rfl) (SlT.cell (hq.slT (Below.slT hB hon)) encS_len 0 Om (by first | omega | (simp only [flagsTo_len, litsTo_len, firstF_len, ptF_len, setF_len]; omega)) 1 rfl) (SlT.cell (hq.slT (Below.slT hB hon)) encS_len 0 Om (by first | omega | (simp only [flagsTo_len, litsTo_len, firstF_len, ptF_len, setF_len]; omega)) 2 rfl) (SlT.cell (hq.slT (Below.slT hB hon)) encS_len 0 Om (by first | omega | (simp only [flagsTo_len, litsTo_len, firstF_len, ptF_len, setF_len]; omega)) 3 rfl)) hS <| Tf 5 rfl rfl tb_fo29_2 hS <| Tk 6 rfl (fun _ hq => r_load1 (v := mayV) rfl tb_sc27 (At.cell (hq.at hm0_0) rfl)) hS <| Ti 7 rfl rfl hS <| Tk 8 rfl (fun _ hq => r_idxS (v := mayV) rfl (hq.slT (Below.slT hB hmay)) rfl tb_el27 Om (by first | omega | (simp only [flagsTo_len, litsTo_len, firstF_len, ptF_len, setF_len]; omega))) hS <| Tk 9 rfl (fun _ hq => r_load4 rfl tb_ag51 (SlT.cell (hq.slT (Below.slT hB hmay)) encS_len 0 Om (by first | omega | (simp only [flagsTo_len, litsTo_len, firstF_len, ptF_len, setF_len]; omega)) 0 rfl) (SlT.cell (hq.slT (Below.slT hB hmay)) encS_len 0 Om (by first | omega | (simp only [flagsTo_len, litsTo_len, firstF_len, ptF_len, setF_len]; omega)) 1 rfl) (SlT.cell (hq.slT (Below.slT hB hmay)) encS_len 0 Om (by first | omega | (simp only [flagsTo_len, litsTo_len, firstF_len, ptF_len, setF_len]; omega)) 2 rfl) (SlT.cell (hq.slT (Below.slT hB hmay)) encS_len 0 Om (by first | omega | (simp only [flagsTo_len, litsTo_len, firstF_len, ptF_len, setF_len]; omega)) 3 rfl)) hS <| To 10 rfl (TC tb_c27 (C_drawkniferef01_Within _ _ _) rfl fun v6_10 W38 hE39 hP6_10 => ⟨.inl (hS.trans hE39), ?_⟩)
 have sv41_hB := hB
 have sv41_hm0_0 := hm0_0
 replace hB := Ze hB hE39
 replace hm0_0 := hE39.at hm0_0
 replace hS := hS.trans hE39
 obtain rfl := hP6_10
 refine Tk 11 rfl (fun _ _ => r_not rfl) hS <| Tx 12 rfl (fun _ _ => r_move (v := .bool _) rfl) hS (fun hs6_12 => ?_) fun hs6_12 => ?_
 refine Tp 13 rfl hS <| Tp 14 rfl hS <| Tp 15 rfl hS <| Tp 16 rfl hS <| Tp 17 rfl hS <| Tp 18 rfl hS <| Tp 19 rfl hS <| Tp 20 rfl hS <| Tp 21 rfl hS <| Tp 22 rfl hS <| Tp 23 rfl hS <| Ty 24 rfl rfl hS <| Td <| WC_cond_true rfl ?_
 refine Zr <| Zb rfl <| WL_nil <| Zt <| ret_t (v := .bool false) rfl ⟨hB, ?_⟩
 exact right_k (k := k) Om (fun h => Bool.noConfusion (h.1.symm.trans (not_t hs6_12)))
 refine Tf 13 rfl rfl tb_fo29_2 hS <| Tk 14 rfl (fun _ hq => r_load1 (v := mayV) rfl tb_sc27 (At.cell (hq.at sv41_hm0_0) rfl)) hS <| Ti 15 rfl rfl hS <| Tk 16 rfl (fun _ hq => r_idxS (v := mayV) rfl (hq.slT (Below.slT sv41_hB hmay)) rfl tb_el27 Om (by first | omega | (simp only [flagsTo_len, litsTo_len, firstF_len, ptF_len, setF_len]; omega))) hS <| Tk 17 rfl (fun _ hq => r_load4 rfl tb_ag51 (SlT.cell (hq.slT (Below.slT sv41_hB hmay)) encS_len 0 Om (by first | omega | (simp only [flagsTo_len, litsTo_len, firstF_len, ptF_len, setF_len]; omega)) 0 rfl) (SlT.cell (hq.slT (Below.slT sv41_hB hmay)) encS_len 0 Om (by first | omega | (simp only [flagsTo_len, litsTo_len, firstF_len, ptF_len, setF_len]; omega)) 1 rfl) (SlT.cell (hq.slT (Below.slT sv41_hB hmay)) encS_len 0 Om (by first | omega | (simp only [flagsTo_len, litsTo_len, firstF_len, ptF_len, setF_len]; omega)) 2 rfl) (SlT.cell (hq.slT (Below.slT sv41_hB hmay)) encS_len 0 Om (by first | omega | (simp only [flagsTo_len, litsTo_len, firstF_len, ptF_len, setF_len]; omega)) 3 rfl)) hS <| Tf 18 rfl rfl tb_fo29_0 hS <| Tk 19 rfl (fun _ hq => r_load1 (v := .int .i64 _) rfl tb_sc3 (At.cell (hq.at sv41_hm0_0) rfl)) hS <| To 20 rfl (TC tb_c28 (C_drawkniferef01_All _ _ (by first | assumption | omega) (by first | assumption | omega)) rfl fun v6_20 W44 hE45 hP6_20 => ⟨.inl (hS.trans hE45), ?_⟩)
 have hsz46 := (Below.size hB)
 replace hB := Ze hB hE45
 replace hm0_0 := hE45.at hm0_0
 replace hS := hS.trans hE45
 replace hP6_20 := OwT.mono hP6_20 hsz46
 refine To 21 rfl (TC tb_c25 (C_drawkniferef01_Set _ _ _ hP6_20.sl (firstF_len _)) rfl fun v6_21 W47 hE48 hP6_21 => ⟨.inl (hS.trans hE48), ?_⟩)
 replace hB := Ze hB hE48
 replace hm0_0 := hE48.at hm0_0
 replace hP6_20 := hE48.ow hP6_20
 replace hS := hS.trans hE48
 obtain rfl := hP6_21
 refine To 22 rfl (TC tb_c27 (C_drawkniferef01_Within _ _ _) rfl fun v6_22 W50 hE51 hP6_22 => ⟨.inl (hS.trans hE51), ?_⟩)
 replace hB := Ze hB hE51
 replace hm0_0 := hE51.at hm0_0
 replace hP6_20 := hE51.ow hP6_20
 replace hS := hS.trans hE51
 obtain rfl := hP6_22
 refine Tk 23 rfl (fun _ _ => r_not rfl) hS <| Ty 24 rfl rfl hS <| Td <| ZQ rfl (fun hc2 => ?_) fun hc2 => ?_
 refine Zr <| Zb rfl <| WL_nil <| Zt <| ret_t (v := .bool false) rfl ⟨hB, ?_⟩
 exact right_k (k := k) Om (fun h => Bool.noConfusion (h.2.symm.trans ((within_bits h8).symm.trans (not_t hc2))))
 refine WC_skip <| hK33 _ _ <| WC_region <| Zi rfl <| Zv (r_addI rfl rfl Om Om) <| Zi rfl <| WL_nil ?_
 exact hJ27 _ _ (k + 1) Za ⟨rfl, trivial⟩ ⟨hB, hm0_0, Om, (upTo_succ hq ⟨not_f hs6_12, by rw [← within_bits h8]; exact not_f hc2⟩), trivial⟩ Zo
 refine WC_exit <| hK21 _ _ <| Zr <| Zb rfl <| WL_nil <| Zt <| ret_t (v := .bool true) rfl ⟨hB, ?_⟩
 obtain rfl : k = S.on.length := by omega
 exact right_t Om hq

theorem C_spec_Right (S : Sp) (onV mayV : Value) (w : World) (hon : SlT encS 4 w onV S.on) (hmay : SlT encS 4 w mayV S.may) :
    Fn Tryz.prog 10 #[.agg #[.int .i64 S.n, onV, mayV]] w fun v w' => v = .bool (rightS S) := by
 refine Fn_intro (n := 63) Tryz.func10 rfl rfl (Nat.le_of_ble_eq_true rfl) ?_
 have hB : Below w.heap.size w w := Below.refl _ _
 refine Zr <| Zy (Y_box (c := #[_, _, _]) rfl rfl fun b0_0 W3 hb4 hE5 hm0_0 => ?_)
 have lo_b0_0 := ZO hb4 hB
 clear hb4
 replace hB := Ze hB hE5
 refine Zb rfl <| WL_nil <| Zr <| Zf rfl tb_fo29_0 <| Zl rfl tb_sc3 hm0_0 rfl <| ZC tb_c18 (C_set_All _ _) rfl fun v1_2 W8 hE9 hP1_2 => ?_
 replace hB := Ze hB hE9
 replace hm0_0 := hE9.at hm0_0
 obtain ⟨sa, er, rfl, hhP1_2⟩ := all_cases hP1_2
 refine Zw (.tuple #[.agg #[_, _, _, _], .int .i64 _]) rfl <| Zv (r_ext2_0 rfl) <| Zv (r_ext2_1 rfl) <| Zy (Y_alloc tb_z51 rfl fun b1_6 W11 hb12 hE13 hm1_6 => ?_)
 have lo_b1_6 := ZO hb12 hB
 clear hb12
 replace hB := Ze hB hE13
 replace hm0_0 := hE13.at hm0_0
 replace hm1_6 : At W11 b1_6 #[wv 0 0, wv 0 1, wv 0 2, wv 0 3] 51 := hm1_6
 refine Zy (Y_storeW rfl rfl tb_ag51 rfl hm1_6 rfl rfl fun W14 hG15 hm16 => ?_)
 replace hB := Zg hB hG15 lo_b1_6
 replace hm0_0 := At.grownAt hm0_0 hm1_6 hG15 Dc
 replace hm1_6 := hm16
 refine Zi rfl <| WL_nil <| WC_seq fun K17 hK18 => Zr <| Zi rfl <| Zv (r_neq rfl rfl) <| ZX rfl (fun hs2_2 => ?_) fun hs2_2 => ?_
 refine Zs <| Zs <| Zs <| Zs <| Zb rfl <| Zb rfl <| Zs <| Zs <| Zs <| Zs <| Zb rfl <| Zb rfl <| Zs <| Zs ?_
 refine Zs <| Zs <| Zs <| Zs <| Zs <| Zb rfl <| WL_nil <| WC_cond_true rfl <| Zr <| Zb rfl <| WL_nil <| Zt <| ret_t (v := .bool false) rfl ⟨hB, ?_⟩
 exact right_f (fun h => all_no hhP1_2 hs2_2 ⟨h.1, h.2.1⟩)
 refine Zf rfl tb_fo29_1 <| ZL onV rfl tb_sc27 hm0_0 rfl <| Zv (r_lenS (v := onV) rfl (Below.slT hB hon) tb_el27) <| Zv (r_lss rfl rfl) <| Zb rfl <| ZX rfl (fun hs2_8 => ?_) fun hs2_8 => ?_
 refine Zs <| Zs <| Zs <| Zs <| Zb rfl <| Zb rfl <| Zs <| Zs <| Zs <| Zs <| Zs <| Zs <| Zs <| Zb rfl ?_
 refine WL_nil <| WC_cond_true rfl <| Zr <| Zb rfl <| WL_nil <| Zt <| ret_t (v := .bool false) rfl ⟨hB, ?_⟩
 exact right_f Om
 refine Zf rfl tb_fo29_1 <| ZL onV rfl tb_sc27 hm0_0 rfl <| Zv (r_lenS (v := onV) rfl (Below.slT hB hon) tb_el27) <| Zv (r_gtr rfl rfl) <| Zb rfl <| ZX rfl (fun hs2_14 => ?_) fun hs2_14 => ?_
 refine Zs <| Zs <| Zs <| Zs <| Zs <| Zs <| Zs <| Zb rfl <| WL_nil <| WC_cond_true rfl <| Zr <| Zb rfl <| WL_nil <| Zt ?_
 refine ret_t (v := .bool false) rfl ⟨hB, ?_⟩
 exact right_f Om
 refine Zf rfl tb_fo29_1 <| ZL onV rfl tb_sc27 hm0_0 rfl <| Zv (r_lenS (v := onV) rfl (Below.slT hB hon) tb_el27) <| Zf rfl tb_fo29_2 <| ZL mayV rfl tb_sc27 hm0_0 rfl <| Zv (r_lenS (v := mayV) rfl (Below.slT hB hmay) tb_el27) <| Zv (r_neq rfl rfl) <| Zb rfl <| WL_nil <| ZQ rfl (fun hc0 => ?_) fun hc0 => ?_
 refine Zr <| Zb rfl <| WL_nil <| Zt <| ret_t (v := .bool false) rfl ⟨hB, ?_⟩
 exact right_f Om
 refine WC_skip <| hK18 _ _ <| WC_seq fun K29 hK30 => ?_
 obtain ⟨h0, h8, rfl⟩ := all_bounds hhP1_2 hs2_2
 refine Zr <| Zf rfl tb_fo29_1 <| ZL onV rfl tb_sc27 hm0_0 rfl <| Zv (r_lenS (v := onV) rfl (Below.slT hB hon) tb_el27) <| Zi rfl <| WL_nil <| WC_block ?_
 refine WC_loop (σ := (Nat)) [2, 5, 6, 39, 40, 41, 42, 43, 44, 45, 46, 47, 48, 49, 50, 51, 52, 53, 54, 55, 56, 57, 58, 59, 60, 61, 62] (fun k => [(39, .int .i64 (k : Int))]) (fun k W => (Below w.heap.size w W) ∧ (At W b0_0 _ 29) ∧ (At W b1_6 _ 51) ∧ (k ≤ S.on.length) ∧ (∀ q, q < k → withinB (onP S q) (mayP S q) = true ∧ withinB (mayP S q) (allS S.n.toNat) = true) ∧ (True)) (fun k => S.on.length - k) (0) ⟨rfl, trivial⟩ ⟨hB, hm0_0, hm1_6, (Nat.zero_le _), upTo_zero, trivial⟩ ?_
 clear hB hm0_0 hm1_6
 rintro k g34 W33 ⟨hB, hm0_0, hm1_6, hk, hq, _⟩ J35 hJ36
 refine Zr <| Zv (r_lss rfl rfl) <| WL_nil <| WC_seq fun K39 hK40 => ZQ rfl (fun hc1 => ?_) fun hc1 => ?_
 refine WC_skip <| hK40 _ _ <| WC_seq fun K41 hK42 => WC_block <| Zr <| Zi rfl <| Zv (r_idxS (v := onV) rfl (Below.slT hB hon) rfl tb_el27 Om (by first | omega | (simp only [flagsTo_len, litsTo_len, firstF_len, ptF_len, setF_len]; omega))) <| Zv (r_load4 rfl tb_ag51 (SlT.cell (Below.slT hB hon) encS_len 0 Om (by first | omega | (simp only [flagsTo_len, litsTo_len, firstF_len, ptF_len, setF_len]; omega)) 0 rfl) (SlT.cell (Below.slT hB hon) encS_len 0 Om (by first | omega | (simp only [flagsTo_len, litsTo_len, firstF_len, ptF_len, setF_len]; omega)) 1 rfl) (SlT.cell (Below.slT hB hon) encS_len 0 Om (by first | omega | (simp only [flagsTo_len, litsTo_len, firstF_len, ptF_len, setF_len]; omega)) 2 rfl) (SlT.cell (Below.slT hB hon) encS_len 0 Om (by first | omega | (simp only [flagsTo_len, litsTo_len, firstF_len, ptF_len, setF_len]; omega)) 3 rfl)) <| Zy (Y_alloc tb_z51 rfl fun b6_3 W45 hb46 hE47 hm6_3 => ?_)
 have lo_b6_3 := ZO hb46 hB
 have ne_b1_6_b6_3 := Zn hb46 hm1_6
 clear hb46
 replace hB := Ze hB hE47
 replace hm0_0 := hE47.at hm0_0
 replace hm1_6 := hE47.at hm1_6
 replace hm6_3 : At W45 b6_3 #[wv 0 0, wv 0 1, wv 0 2, wv 0 3] 51 := hm6_3
 refine Zi rfl <| Zy (Y_storeW rfl rfl tb_ag51 rfl hm6_3 rfl rfl fun W48 hG49 hm50 => ?_)
 replace hB := Zg hB hG49 lo_b6_3
 replace hm0_0 := At.grownAt hm0_0 hm6_3 hG49 Dc
 replace hm1_6 := At.grownNe hm1_6 ne_b1_6_b6_3 hG49
 replace hm6_3 := hm50
 refine WL_nil <| Zd Ext fun W53 hE54 => ?_
 replace hB := Ze hB hE54
 replace hm0_0 := hE54.at hm0_0
 replace hm1_6 := hE54.at hm1_6
 replace hm6_3 := hE54.at hm6_3
 have hS := Ext.refl W53
 refine Tk 0 rfl (fun _ hq => r_loadW rfl tb_ag51 rfl (hq.at hm6_3)) hS <| Tf 1 rfl rfl tb_fo29_2 hS <| Tk 2 rfl (fun _ hq => r_load1 (v := mayV) rfl tb_sc27 (At.cell (hq.at hm0_0) rfl)) hS <| Ti 3 rfl rfl hS <| Tk 4 rfl (fun _ hq => r_idxS (v := mayV) rfl (hq.slT (Below.slT hB hmay)) rfl tb_el27 Om (by first | omega | (simp only [flagsTo_len, litsTo_len, firstF_len, ptF_len, setF_len]; omega))) hS <| Tk 5 rfl (fun _ hq => r_load4 rfl tb_ag51 (SlT.cell (hq.slT (Below.slT hB hmay)) encS_len 0 Om (by first | omega | (simp only [flagsTo_len, litsTo_len, firstF_len, ptF_len, setF_len]; omega)) 0 rfl) (SlT.cell (hq.slT (Below.slT hB hmay)) encS_len 0 Om (by first | omega | (simp only [flagsTo_len, litsTo_len, firstF_len, ptF_len, setF_len]; omega)) 1 rfl) (SlT.cell (hq.slT (Below.slT hB hmay)) encS_len 0 Om (by first | omega | (simp only [flagsTo_len, litsTo_len, firstF_len, ptF_len, setF_len]; omega)) 2 rfl) (SlT.cell (hq.slT (Below.slT hB hmay)) encS_len 0 Om (by first | omega | (simp only [flagsTo_len, litsTo_len, firstF_len, ptF_len, setF_len]; omega)) 3 rfl)) hS <| To 6 rfl (TC tb_c26 (C_set_Within _ _ _) rfl fun v7_6 W55 hE56 hP7_6 => ⟨.inl (hS.trans hE56), ?_⟩)
 have sv58_hB := hB
 have sv58_hm0_0 := hm0_0
 have sv58_hm1_6 := hm1_6
 replace hB := Ze hB hE56
 replace hm0_0 := hE56.at hm0_0
 replace hm1_6 := hE56.at hm1_6
 replace hm6_3 := hE56.at hm6_3
 replace hS := hS.trans hE56
 obtain rfl := hP7_6
 refine Tk 7 rfl (fun _ _ => r_not rfl) hS <| Tx 8 rfl (fun _ _ => r_move (v := .bool _) rfl) hS (fun hs7_8 => ?_) fun hs7_8 => ?_
 refine Tp 9 rfl hS <| Tp 10 rfl hS <| Tp 11 rfl hS <| Tp 12 rfl hS <| Tp 13 rfl hS <| Tp 14 rfl hS <| Tp 15 rfl hS <| Tp 16 rfl hS <| Ty 17 rfl rfl hS <| Td <| WC_cond_true rfl <| Zr <| Zb rfl <| WL_nil ?_
 refine Zt <| ret_t (v := .bool false) rfl ⟨hB, ?_⟩
 exact right_k (k := k) Om (fun h => Bool.noConfusion (h.1.symm.trans (not_t hs7_8)))
 refine Tf 9 rfl rfl tb_fo29_2 hS <| Tk 10 rfl (fun _ hq => r_load1 (v := mayV) rfl tb_sc27 (At.cell (hq.at sv58_hm0_0) rfl)) hS <| Ti 11 rfl rfl hS <| Tk 12 rfl (fun _ hq => r_idxS (v := mayV) rfl (hq.slT (Below.slT sv58_hB hmay)) rfl tb_el27 Om (by first | omega | (simp only [flagsTo_len, litsTo_len, firstF_len, ptF_len, setF_len]; omega))) hS <| Tk 13 rfl (fun _ hq => r_load4 rfl tb_ag51 (SlT.cell (hq.slT (Below.slT sv58_hB hmay)) encS_len 0 Om (by first | omega | (simp only [flagsTo_len, litsTo_len, firstF_len, ptF_len, setF_len]; omega)) 0 rfl) (SlT.cell (hq.slT (Below.slT sv58_hB hmay)) encS_len 0 Om (by first | omega | (simp only [flagsTo_len, litsTo_len, firstF_len, ptF_len, setF_len]; omega)) 1 rfl) (SlT.cell (hq.slT (Below.slT sv58_hB hmay)) encS_len 0 Om (by first | omega | (simp only [flagsTo_len, litsTo_len, firstF_len, ptF_len, setF_len]; omega)) 2 rfl) (SlT.cell (hq.slT (Below.slT sv58_hB hmay)) encS_len 0 Om (by first | omega | (simp only [flagsTo_len, litsTo_len, firstF_len, ptF_len, setF_len]; omega)) 3 rfl)) hS <| Tk 14 rfl (fun _ hq => r_loadW rfl tb_ag51 rfl (hq.at sv58_hm1_6)) hS <| To 15 rfl (TC tb_c26 (C_set_Within _ _ _) rfl fun v7_15 W61 hE62 hP7_15 => ⟨.inl (hS.trans hE62), ?_⟩)
 replace hB := Ze hB hE62
 replace hm0_0 := hE62.at hm0_0
 replace hm1_6 := hE62.at hm1_6
 replace hm6_3 := hE62.at hm6_3
 replace hS := hS.trans hE62
 obtain rfl := hP7_15
 refine Tk 16 rfl (fun _ _ => r_not rfl) hS <| Ty 17 rfl rfl hS <| Td <| ZQ rfl (fun hc2 => ?_) fun hc2 => ?_
 refine Zr <| Zb rfl <| WL_nil <| Zt <| ret_t (v := .bool false) rfl ⟨hB, ?_⟩
 exact right_k (k := k) Om (fun h => Bool.noConfusion (h.2.symm.trans (not_t hc2)))
 refine WC_skip <| hK42 _ _ <| WC_region <| Zv (r_addI rfl rfl Om Om) <| Zi rfl <| WL_nil ?_
 exact hJ36 _ _ (k + 1) Za ⟨rfl, trivial⟩ ⟨hB, hm0_0, hm1_6, Om, (upTo_succ hq ⟨not_f hs7_8, not_f hc2⟩), trivial⟩ Zo
 refine WC_exit <| hK30 _ _ <| Zr <| Zb rfl <| WL_nil <| Zt <| ret_t (v := .bool true) rfl ⟨hB, ?_⟩
 obtain rfl : k = S.on.length := by omega
 exact right_t Om hq

end Go.Proofs.YtnkaebjaeaecmaaGreatDoor
