/-
  The walks of specs alike, and of the document's reading of a table.
-/
import Derived.Test.YtnkaebjaeaecmaaGreatDoorProg
import Derived.Test.YtnkaebjaeaecmaaGreatDoorWSpec
import Derived.Test.YtnkaebjaeaecmaaGreatDoorSpec3
import Derived.Test.YtnkaebjaeaecmaaGreatDoorZip
namespace Go.Proofs.YtnkaebjaeaecmaaGreatDoor
set_option linter.unusedVariables false
set_option linter.unusedSimpArgs false
open Go Go.RowKit

theorem tb_c29 : callB Tryz.prog 29 = true := by kernel_rfl
theorem tb_c22 : callB Tryz.prog 22 = true := by kernel_rfl
theorem tb_c24 : callB Tryz.prog 24 = true := by kernel_rfl

theorem C_drawkniferef04_Same (S : Sp) (onV mayV : Value) (U : Sp) (onU mayU : Value) (w : World) (hon : SlT encS 4 w onV S.on) (hmay : SlT encS 4 w mayV S.may) (honU : SlT encS 4 w onU U.on) (hmayU : SlT encS 4 w mayU U.may) (h4 : S.on.length ≤ 20) (h5 : S.may.length ≤ 20) :
    Fn Tryz.prog 9 #[.agg #[.int .i64 S.n, onV, mayV], .agg #[.int .i64 U.n, onU, mayU]] w fun v w' => v = .bool (eqSp S U) := by
 refine Fn_intro (n := 66) Tryz.func9 rfl rfl (Nat.le_of_ble_eq_true rfl) ?_
 have hB : Below w.heap.size w w := Below.refl _ _
 refine Zr <| Zy (Y_box (c := #[_, _, _]) rfl rfl fun b0_0 W3 hb4 hE5 hm0_0 => ?_)
 have lo_b0_0 := ZO hb4 hB
 clear hb4
 replace hB := Ze hB hE5
 refine Zy (Y_box (c := #[_, _, _]) rfl rfl fun b0_1 W6 hb7 hE8 hm0_1 => ?_)
 have lo_b0_1 := ZO hb7 hB
 have ne_b0_0_b0_1 := Zn hb7 hm0_0
 clear hb7
 replace hB := Ze hB hE8
 replace hm0_0 := hE8.at hm0_0
 refine Zb rfl <| WL_nil <| WC_seq fun K9 hK10 => Zr <| Zf rfl tb_fo29_0 <| Zl rfl tb_sc3 hm0_0 rfl <| Zf rfl tb_fo29_0 <| Zl rfl tb_sc3 hm0_1 rfl <| Zv (r_neq rfl rfl) <| ZX rfl (fun hs1_5 => ?_) fun hs1_5 => ?_
 refine Zs <| Zs <| Zs <| Zs <| Zs <| Zs <| Zs <| Zb rfl <| Zb rfl <| Zs <| Zs <| Zs <| Zs <| Zs ?_
 refine Zs <| Zs <| Zb rfl <| WL_nil <| WC_cond_true rfl <| Zr <| Zb rfl <| WL_nil <| Zt <| ret_t (v := .bool false) rfl ⟨hB, ?_⟩
 refine congrArg Value.bool ?_
 first | exact eqSp_n hs1_5 | exact eqSp_on (eqL_len hs1_14) | exact eqSp_may (eqL_len hc0) | exact eqSp_on (eqL_k (k := k) (by omega) (eqS_f' hc2)) | exact eqSp_may (eqL_k (k := j) (by omega) (eqS_f' hc4)) | exact eqSp_t (Decidable.of_not_not hs1_5) (eqL_t (k := k) (by omega) (by omega) hq) (eqL_t (k := j) (by omega) (by omega) hq2)
 refine Zf rfl tb_fo29_1 <| ZL onV rfl tb_sc27 hm0_0 rfl <| Zv (r_lenS (v := onV) rfl (Below.slT hB hon) tb_el27) <| Zf rfl tb_fo29_1 <| ZL onU rfl tb_sc27 hm0_1 rfl <| Zv (r_lenS (v := onU) rfl (Below.slT hB honU) tb_el27) <| Zv (r_neq rfl rfl) <| Zb rfl <| ZX rfl (fun hs1_14 => ?_) fun hs1_14 => ?_
 refine Zs <| Zs <| Zs <| Zs <| Zs <| Zs <| Zs <| Zb rfl <| WL_nil <| WC_cond_true rfl <| Zr <| Zb rfl <| WL_nil <| Zt ?_
 refine ret_t (v := .bool false) rfl ⟨hB, ?_⟩
 refine congrArg Value.bool ?_
 first | exact eqSp_n hs1_5 | exact eqSp_on (eqL_len hs1_14) | exact eqSp_may (eqL_len hc0) | exact eqSp_on (eqL_k (k := k) (by omega) (eqS_f' hc2)) | exact eqSp_may (eqL_k (k := j) (by omega) (eqS_f' hc4)) | exact eqSp_t (Decidable.of_not_not hs1_5) (eqL_t (k := k) (by omega) (by omega) hq) (eqL_t (k := j) (by omega) (by omega) hq2)
 refine Zf rfl tb_fo29_2 <| ZL mayV rfl tb_sc27 hm0_0 rfl <| Zv (r_lenS (v := mayV) rfl (Below.slT hB hmay) tb_el27) <| Zf rfl tb_fo29_2 <| ZL mayU rfl tb_sc27 hm0_1 rfl <| Zv (r_lenS (v := mayU) rfl (Below.slT hB hmayU) tb_el27) <| Zv (r_neq rfl rfl) <| Zb rfl <| WL_nil <| ZQ rfl (fun hc0 => ?_) fun hc0 => ?_
 refine Zr <| Zb rfl <| WL_nil <| Zt <| ret_t (v := .bool false) rfl ⟨hB, ?_⟩
 refine congrArg Value.bool ?_
 first | exact eqSp_n hs1_5 | exact eqSp_on (eqL_len hs1_14) | exact eqSp_may (eqL_len hc0) | exact eqSp_on (eqL_k (k := k) (by omega) (eqS_f' hc2)) | exact eqSp_may (eqL_k (k := j) (by omega) (eqS_f' hc4)) | exact eqSp_t (Decidable.of_not_not hs1_5) (eqL_t (k := k) (by omega) (by omega) hq) (eqL_t (k := j) (by omega) (by omega) hq2)
 refine WC_skip <| hK10 _ _ <| WC_seq fun K19 hK20 => Zr <| Zi rfl <| WL_nil <| WC_block ?_
 refine WC_loop (σ := (Nat)) [4, 5, 30, 31, 32, 33, 34, 35, 36, 37, 38, 39, 40, 41, 42, 43, 44, 45, 46, 47] (fun k => [(5, .int .i64 (k : Int))]) (fun k W => (Below w.heap.size w W) ∧ (At W b0_0 _ 29) ∧ (At W b0_1 _ 29) ∧ (k ≤ S.on.length) ∧ (∀ q, q < k → eqS (S.on.getD q 0) (U.on.getD q 0) = true) ∧ (True)) (fun k => S.on.length - k) (0) ⟨rfl, trivial⟩ ⟨hB, hm0_0, hm0_1, (Nat.zero_le _), upTo_zero, trivial⟩ ?_
 clear hB hm0_0 hm0_1
 rintro k g24 W23 ⟨hB, hm0_0, hm0_1, hk, hq, _⟩ J25 hJ26
 refine WC_seq fun K27 hK28 => Zr <| Zi rfl <| Zf rfl tb_fo29_1 <| ZL onV rfl tb_sc27 hm0_0 rfl <| Zv (r_lenS (v := onV) rfl (Below.slT hB hon) tb_el27) <| Zv (r_lss rfl rfl) <| WL_nil <| ZQ rfl (fun hc1 => ?_) fun hc1 => ?_
 refine WC_skip <| hK28 _ _ <| WC_seq fun K31 hK32 => WC_block <| Zd Ext fun W35 hE36 => ?_
 replace hB := Ze hB hE36
 replace hm0_0 := hE36.at hm0_0
 replace hm0_1 := hE36.at hm0_1
 have hS := Ext.refl W35
 refine Tf 0 rfl rfl tb_fo29_1 hS <| Tk 1 rfl (fun _ hq => r_load1 (v := onV) rfl tb_sc27 (At.cell (hq.at hm0_0) rfl)) hS <| Ti 2 rfl rfl hS <| Tk 3 rfl (fun _ hq => r_idxS (v := onV) rfl (hq.slT (Below.slT hB hon)) rfl tb_el27 Om (by first | omega | (simp only [onTo_len, mayTo_len_, setF_len, flagsTo_len]; omega))) hS <| Tk 4 rfl (fun _ hq => r_load4 rfl tb_ag51 (SlT.cell (hq.slT (Below.slT hB hon)) encS_len 0 Om (by first | omega | (simp only [onTo_len, mayTo_len_, setF_len, flagsTo_len]; omega)) 0 rfl) (SlT.cell (hq.slT (Below.slT hB hon)) encS_len 0 Om (by first | omega | (simp only [onTo_len, mayTo_len_, setF_len, flagsTo_len]; omega)) 1 rfl) (SlT.cell (hq.slT (Below.slT hB hon)) encS_len 0 Om (by first | omega | (simp only [onTo_len, mayTo_len_, setF_len, flagsTo_len]; omega)) 2 rfl) (SlT.cell (hq.slT (Below.slT hB hon)) encS_len 0 Om (by first | omega | (simp only [onTo_len, mayTo_len_, setF_len, flagsTo_len]; omega)) 3 rfl)) hS <| Tf 5 rfl rfl tb_fo29_1 hS <| Tk 6 rfl (fun _ hq => r_load1 (v := onU) rfl tb_sc27 (At.cell (hq.at hm0_1) rfl)) hS <| Ti 7 rfl rfl hS <| Tk 8 rfl (fun _ hq => r_idxS (v := onU) rfl (hq.slT (Below.slT hB honU)) rfl tb_el27 Om (by first | omega | (simp only [onTo_len, mayTo_len_, setF_len, flagsTo_len]; omega))) hS <| Tk 9 rfl (fun _ hq => r_load4 rfl tb_ag51 (SlT.cell (hq.slT (Below.slT hB honU)) encS_len 0 Om (by first | omega | (simp only [onTo_len, mayTo_len_, setF_len, flagsTo_len]; omega)) 0 rfl) (SlT.cell (hq.slT (Below.slT hB honU)) encS_len 0 Om (by first | omega | (simp only [onTo_len, mayTo_len_, setF_len, flagsTo_len]; omega)) 1 rfl) (SlT.cell (hq.slT (Below.slT hB honU)) encS_len 0 Om (by first | omega | (simp only [onTo_len, mayTo_len_, setF_len, flagsTo_len]; omega)) 2 rfl) (SlT.cell (hq.slT (Below.slT hB honU)) encS_len 0 Om (by first | omega | (simp only [onTo_len, mayTo_len_, setF_len, flagsTo_len]; omega)) 3 rfl)) hS <| Tk 10 rfl (fun _ _ => tb_neq51 rfl rfl) hS <| Td <| ZQ rfl (fun hc2 => ?_) fun hc2 => ?_
 refine Zr <| Zb rfl <| WL_nil <| Zt <| ret_t (v := .bool false) rfl ⟨hB, ?_⟩
 refine congrArg Value.bool ?_
 first | exact eqSp_n hs1_5 | exact eqSp_on (eqL_len hs1_14) | exact eqSp_may (eqL_len hc0) | exact eqSp_on (eqL_k (k := k) (by omega) (eqS_f' hc2)) | exact eqSp_may (eqL_k (k := j) (by omega) (eqS_f' hc4)) | exact eqSp_t (Decidable.of_not_not hs1_5) (eqL_t (k := k) (by omega) (by omega) hq) (eqL_t (k := j) (by omega) (by omega) hq2)
 refine WC_skip <| hK32 _ _ <| WC_region <| Zi rfl <| Zv (r_addI rfl rfl Om Om) <| Zi rfl <| WL_nil ?_
 exact hJ26 _ _ (k + 1) Za ⟨rfl, trivial⟩ ⟨hB, hm0_0, hm0_1, Om, (upTo_succ hq (eqS_t' hc2)), trivial⟩ Zo
 refine WC_exit <| hK20 _ _ <| WC_seq fun K39 hK40 => Zr <| Zi rfl <| WL_nil <| WC_block ?_
 refine WC_loop (σ := (Nat)) [4, 6, 48, 49, 50, 51, 52, 53, 54, 55, 56, 57, 58, 59, 60, 61, 62, 63, 64, 65] (fun j => [(6, .int .i64 (j : Int))]) (fun j W => (Below w.heap.size w W) ∧ (At W b0_0 _ 29) ∧ (At W b0_1 _ 29) ∧ (j ≤ S.may.length) ∧ (∀ q, q < j → eqS (S.may.getD q 0) (U.may.getD q 0) = true) ∧ (True)) (fun j => S.may.length - j) (0) ⟨rfl, trivial⟩ ⟨hB, hm0_0, hm0_1, (Nat.zero_le _), upTo_zero, trivial⟩ ?_
 clear hB hm0_0 hm0_1
 rintro j g44 W43 ⟨hB, hm0_0, hm0_1, hj, hq2, _⟩ J45 hJ46
 refine WC_seq fun K47 hK48 => Zr <| Zi rfl <| Zf rfl tb_fo29_2 <| ZL mayV rfl tb_sc27 hm0_0 rfl <| Zv (r_lenS (v := mayV) rfl (Below.slT hB hmay) tb_el27) <| Zv (r_lss rfl rfl) <| WL_nil <| ZQ rfl (fun hc3 => ?_) fun hc3 => ?_
 refine WC_skip <| hK48 _ _ <| WC_seq fun K51 hK52 => WC_block <| Zd Ext fun W55 hE56 => ?_
 replace hB := Ze hB hE56
 replace hm0_0 := hE56.at hm0_0
 replace hm0_1 := hE56.at hm0_1
 have hS := Ext.refl W55
 refine Tf 0 rfl rfl tb_fo29_2 hS <| Tk 1 rfl (fun _ hq => r_load1 (v := mayV) rfl tb_sc27 (At.cell (hq.at hm0_0) rfl)) hS <| Ti 2 rfl rfl hS <| Tk 3 rfl (fun _ hq => r_idxS (v := mayV) rfl (hq.slT (Below.slT hB hmay)) rfl tb_el27 Om (by first | omega | (simp only [onTo_len, mayTo_len_, setF_len, flagsTo_len]; omega))) hS <| Tk 4 rfl (fun _ hq => r_load4 rfl tb_ag51 (SlT.cell (hq.slT (Below.slT hB hmay)) encS_len 0 Om (by first | omega | (simp only [onTo_len, mayTo_len_, setF_len, flagsTo_len]; omega)) 0 rfl) (SlT.cell (hq.slT (Below.slT hB hmay)) encS_len 0 Om (by first | omega | (simp only [onTo_len, mayTo_len_, setF_len, flagsTo_len]; omega)) 1 rfl) (SlT.cell (hq.slT (Below.slT hB hmay)) encS_len 0 Om (by first | omega | (simp only [onTo_len, mayTo_len_, setF_len, flagsTo_len]; omega)) 2 rfl) (SlT.cell (hq.slT (Below.slT hB hmay)) encS_len 0 Om (by first | omega | (simp only [onTo_len, mayTo_len_, setF_len, flagsTo_len]; omega)) 3 rfl)) hS <| Tf 5 rfl rfl tb_fo29_2 hS <| Tk 6 rfl (fun _ hq => r_load1 (v := mayU) rfl tb_sc27 (At.cell (hq.at hm0_1) rfl)) hS <| Ti 7 rfl rfl hS <| Tk 8 rfl (fun _ hq => r_idxS (v := mayU) rfl (hq.slT (Below.slT hB hmayU)) rfl tb_el27 Om (by first | omega | (simp only [onTo_len, mayTo_len_, setF_len, flagsTo_len]; omega))) hS <| Tk 9 rfl (fun _ hq => r_load4 rfl tb_ag51 (SlT.cell (hq.slT (Below.slT hB hmayU)) encS_len 0 Om (by first | omega | (simp only [onTo_len, mayTo_len_, setF_len, flagsTo_len]; omega)) 0 rfl) (SlT.cell (hq.slT (Below.slT hB hmayU)) encS_len 0 Om (by first | omega | (simp only [onTo_len, mayTo_len_, setF_len, flagsTo_len]; omega)) 1 rfl) (SlT.cell (hq.slT (Below.slT hB hmayU)) encS_len 0 Om (by first | omega | (simp only [onTo_len, mayTo_len_, setF_len, flagsTo_len]; omega)) 2 rfl) (SlT.cell (hq.slT (Below.slT hB hmayU)) encS_len 0 Om (by first | omega | (simp only [onTo_len, mayTo_len_, setF_len, flagsTo_len]; omega)) 3 rfl)) hS <| Tk 10 rfl (fun _ _ => tb_neq51 rfl rfl) hS <| Td <| ZQ rfl (fun hc4 => ?_) fun hc4 => ?_
 refine Zr <| Zb rfl <| WL_nil <| Zt <| ret_t (v := .bool false) rfl ⟨hB, ?_⟩
 refine congrArg Value.bool ?_
 first | exact eqSp_n hs1_5 | exact eqSp_on (eqL_len hs1_14) | exact eqSp_may (eqL_len hc0) | exact eqSp_on (eqL_k (k := k) (by omega) (eqS_f' hc2)) | exact eqSp_may (eqL_k (k := j) (by omega) (eqS_f' hc4)) | exact eqSp_t (Decidable.of_not_not hs1_5) (eqL_t (k := k) (by omega) (by omega) hq) (eqL_t (k := j) (by omega) (by omega) hq2)
 refine WC_skip <| hK52 _ _ <| WC_region <| Zi rfl <| Zv (r_addI rfl rfl Om Om) <| Zi rfl <| WL_nil ?_
 exact hJ46 _ _ (j + 1) Za ⟨rfl, trivial⟩ ⟨hB, hm0_0, hm0_1, Om, (upTo_succ hq2 (eqS_t' hc4)), trivial⟩ Zo
 refine WC_exit <| hK40 _ _ <| Zr <| Zb rfl <| WL_nil <| Zt <| ret_t (v := .bool true) rfl ⟨hB, ?_⟩
 refine congrArg Value.bool ?_
 first | exact eqSp_n hs1_5 | exact eqSp_on (eqL_len hs1_14) | exact eqSp_may (eqL_len hc0) | exact eqSp_on (eqL_k (k := k) (by omega) (eqS_f' hc2)) | exact eqSp_may (eqL_k (k := j) (by omega) (eqS_f' hc4)) | exact eqSp_t (Decidable.of_not_not hs1_5) (eqL_t (k := k) (by omega) (by omega) hq) (eqL_t (k := j) (by omega) (by omega) hq2)

theorem C_spec_same (xa xb : Value) (a b : List Nat) (w : World) (ha : SlT encS 4 w xa a) (hb : SlT encS 4 w xb b) (h4 : a.length ≤ 20) :
    Fn Tryz.prog 29 #[xa, xb] w fun v w' => v = .bool (eqL a b) := by
 refine Fn_intro (n := 26) Tryz.func29 rfl rfl (Nat.le_of_ble_eq_true rfl) ?_
 have hB : Below w.heap.size w w := Below.refl _ _
 refine Zr <| Zb rfl <| WL_nil <| WC_seq fun K3 hK4 => Zr <| Zw xa rfl <| Zv (r_lenS (v := xa) rfl (Below.slT hB ha) tb_el27) <| Zw xb rfl <| Zv (r_lenS (v := xb) rfl (Below.slT hB hb) tb_el27) <| Zv (r_neq rfl rfl) <| WL_nil <| ZQ rfl (fun hc0 => ?_) fun hc0 => ?_
 refine Zr <| Zb rfl <| WL_nil <| Zt <| ret_t (v := .bool false) rfl ⟨hB, ?_⟩
 refine congrArg Value.bool ?_
 first | exact eqL_len hc0 | exact eqL_k (k := k) (by omega) (eqS_f' hc2) | exact eqL_t (k := k) (by omega) (by omega) hq
 refine WC_skip <| hK4 _ _ <| WC_seq fun K9 hK10 => Zr <| Zw xa rfl <| Zv (r_lenS (v := xa) rfl (Below.slT hB ha) tb_el27) <| Zi rfl <| WL_nil <| WC_block ?_
 refine WC_loop (σ := (Nat)) [4, 5, 13, 14, 15, 16, 17, 18, 19, 20, 21, 22, 23, 24, 25] (fun k => [(13, .int .i64 (k : Int))]) (fun k W => (Below w.heap.size w W) ∧ (k ≤ a.length) ∧ (∀ q, q < k → eqS (a.getD q 0) (b.getD q 0) = true) ∧ (True)) (fun k => a.length - k) (0) ⟨rfl, trivial⟩ ⟨hB, (Nat.zero_le _), upTo_zero, trivial⟩ ?_
 clear hB
 rintro k g14 W13 ⟨hB, hk, hq, _⟩ J15 hJ16
 refine Zr <| Zv (r_lss rfl rfl) <| WL_nil <| WC_seq fun K19 hK20 => ZQ rfl (fun hc1 => ?_) fun hc1 => ?_
 refine WC_skip <| hK20 _ _ <| WC_seq fun K21 hK22 => WC_block <| Zr <| Zi rfl <| Zi rfl <| WL_nil <| Zd Ext fun W27 hE28 => ?_
 replace hB := Ze hB hE28
 have hS := Ext.refl W27
 refine Tw 0 xa rfl rfl hS <| Ti 1 rfl rfl hS <| Tk 2 rfl (fun _ hq => r_idxS (v := xa) rfl (hq.slT (Below.slT hB ha)) rfl tb_el27 Om (by first | omega | (simp only [onTo_len, mayTo_len_, setF_len, flagsTo_len]; omega))) hS <| Tk 3 rfl (fun _ hq => r_load4 rfl tb_ag51 (SlT.cell (hq.slT (Below.slT hB ha)) encS_len 0 Om (by first | omega | (simp only [onTo_len, mayTo_len_, setF_len, flagsTo_len]; omega)) 0 rfl) (SlT.cell (hq.slT (Below.slT hB ha)) encS_len 0 Om (by first | omega | (simp only [onTo_len, mayTo_len_, setF_len, flagsTo_len]; omega)) 1 rfl) (SlT.cell (hq.slT (Below.slT hB ha)) encS_len 0 Om (by first | omega | (simp only [onTo_len, mayTo_len_, setF_len, flagsTo_len]; omega)) 2 rfl) (SlT.cell (hq.slT (Below.slT hB ha)) encS_len 0 Om (by first | omega | (simp only [onTo_len, mayTo_len_, setF_len, flagsTo_len]; omega)) 3 rfl)) hS <| Tw 4 xb rfl rfl hS <| Ti 5 rfl rfl hS <| Tk 6 rfl (fun _ hq => r_idxS (v := xb) rfl (hq.slT (Below.slT hB hb)) rfl tb_el27 Om (by first | omega | (simp only [onTo_len, mayTo_len_, setF_len, flagsTo_len]; omega))) hS <| Tk 7 rfl (fun _ hq => r_load4 rfl tb_ag51 (SlT.cell (hq.slT (Below.slT hB hb)) encS_len 0 Om (by first | omega | (simp only [onTo_len, mayTo_len_, setF_len, flagsTo_len]; omega)) 0 rfl) (SlT.cell (hq.slT (Below.slT hB hb)) encS_len 0 Om (by first | omega | (simp only [onTo_len, mayTo_len_, setF_len, flagsTo_len]; omega)) 1 rfl) (SlT.cell (hq.slT (Below.slT hB hb)) encS_len 0 Om (by first | omega | (simp only [onTo_len, mayTo_len_, setF_len, flagsTo_len]; omega)) 2 rfl) (SlT.cell (hq.slT (Below.slT hB hb)) encS_len 0 Om (by first | omega | (simp only [onTo_len, mayTo_len_, setF_len, flagsTo_len]; omega)) 3 rfl)) hS <| Tk 8 rfl (fun _ _ => tb_neq51 rfl rfl) hS <| Td <| ZQ rfl (fun hc2 => ?_) fun hc2 => ?_
 refine Zr <| Zb rfl <| WL_nil <| Zt <| ret_t (v := .bool false) rfl ⟨hB, ?_⟩
 refine congrArg Value.bool ?_
 first | exact eqL_len hc0 | exact eqL_k (k := k) (by omega) (eqS_f' hc2) | exact eqL_t (k := k) (by omega) (by omega) hq
 refine WC_skip <| hK22 _ _ <| WC_region <| Zv (r_addI rfl rfl Om Om) <| Zi rfl <| WL_nil ?_
 exact hJ16 _ _ (k + 1) Za ⟨rfl, trivial⟩ ⟨hB, Om, (upTo_succ hq (eqS_t' hc2)), trivial⟩ Zo
 refine WC_exit <| hK10 _ _ <| Zr <| Zb rfl <| WL_nil <| Zt <| ret_t (v := .bool true) rfl ⟨hB, ?_⟩
 refine congrArg Value.bool ?_
 first | exact eqL_len hc0 | exact eqL_k (k := k) (by omega) (eqS_f' hc2) | exact eqL_t (k := k) (by omega) (by omega) hq

theorem C_spec_Same (S : Sp) (onV mayV : Value) (U : Sp) (onU mayU : Value) (w : World) (hon : SlT encS 4 w onV S.on) (hmay : SlT encS 4 w mayV S.may) (honU : SlT encS 4 w onU U.on) (hmayU : SlT encS 4 w mayU U.may) (h4 : S.on.length ≤ 20) (h5 : S.may.length ≤ 20) :
    Fn Tryz.prog 13 #[.agg #[.int .i64 S.n, onV, mayV], .agg #[.int .i64 U.n, onU, mayU]] w fun v w' => v = .bool (eqSp S U) := by
 refine Fn_intro (n := 24) Tryz.func13 rfl rfl (Nat.le_of_ble_eq_true rfl) ?_
 have hB : Below w.heap.size w w := Below.refl _ _
 refine Zr <| Zy (Y_box (c := #[_, _, _]) rfl rfl fun b0_0 W3 hb4 hE5 hm0_0 => ?_)
 have lo_b0_0 := ZO hb4 hB
 clear hb4
 replace hB := Ze hB hE5
 refine Zy (Y_box (c := #[_, _, _]) rfl rfl fun b0_1 W6 hb7 hE8 hm0_1 => ?_)
 have lo_b0_1 := ZO hb7 hB
 have ne_b0_0_b0_1 := Zn hb7 hm0_0
 clear hb7
 replace hB := Ze hB hE8
 replace hm0_0 := hE8.at hm0_0
 refine Zb rfl <| WL_nil <| Zr <| Zf rfl tb_fo29_0 <| Zl rfl tb_sc3 hm0_0 rfl <| Zf rfl tb_fo29_0 <| Zl rfl tb_sc3 hm0_1 rfl <| Zv (r_eql rfl rfl) <| ZX rfl (fun hs1_5 => ?_) fun hs1_5 => ?_
 refine Zf rfl tb_fo29_1 <| ZL onV rfl tb_sc27 hm0_0 rfl <| Zf rfl tb_fo29_1 <| ZL onU rfl tb_sc27 hm0_1 rfl <| ZC tb_c29 (C_spec_same _ _ _ _ _ (Below.slT hB hon) (Below.slT hB honU) (by first | assumption | omega)) rfl fun v1_10 W11 hE12 hP1_10 => ?_
 replace hB := Ze hB hE12
 replace hm0_0 := hE12.at hm0_0
 replace hm0_1 := hE12.at hm0_1
 obtain rfl := hP1_10
 refine Zb rfl <| ZX rfl (fun hs1_12 => ?_) fun hs1_12 => ?_
 refine Zf rfl tb_fo29_2 <| ZL mayV rfl tb_sc27 hm0_0 rfl <| Zf rfl tb_fo29_2 <| ZL mayU rfl tb_sc27 hm0_1 rfl <| ZC tb_c29 (C_spec_same _ _ _ _ _ (Below.slT hB hmay) (Below.slT hB hmayU) (by first | assumption | omega)) rfl fun v1_17 W14 hE15 hP1_17 => ?_
 replace hB := Ze hB hE15
 replace hm0_0 := hE15.at hm0_0
 replace hm0_1 := hE15.at hm0_1
 obtain rfl := hP1_17
 refine Zb rfl <| Zb rfl <| WL_nil <| Zt <| ret_t (v := .bool _) rfl ⟨hB, ?_⟩
 refine congrArg Value.bool ?_
 first | exact eqSp_n hs1_5 | exact eqSp_on hs1_12.symm | exact eqSp_1 hs1_5 hs1_12
 refine Zs <| Zs <| Zs <| Zs <| Zs <| Zb rfl <| Zb rfl <| WL_nil <| Zt <| ret_t (v := .bool false) rfl ⟨hB, ?_⟩
 refine congrArg Value.bool ?_
 first | exact eqSp_n hs1_5 | exact eqSp_on hs1_12.symm | exact eqSp_1 hs1_5 hs1_12
 refine Zs <| Zs <| Zs <| Zs <| Zs <| Zb rfl <| Zb rfl <| Zs <| Zs <| Zs <| Zs <| Zs <| Zb rfl <| Zb rfl ?_
 refine WL_nil <| Zt <| ret_t (v := .bool false) rfl ⟨hB, ?_⟩
 refine congrArg Value.bool ?_
 first | exact eqSp_n hs1_5 | exact eqSp_on hs1_12.symm | exact eqSp_1 hs1_5 hs1_12

theorem C_drawkniferef04_Marked (T : Tb) (lv : Value) (vs : List LnV) (p o : Nat) (m : Int) (w : World) (hlv : SlT encLn 3 w lv vs) (hls : LsAt w vs T.ls) (hmb : ∀ i, i < T.ls.length → (T.ls.getD i ln0).c.m < 256 ∧ (T.ls.getD i ln0).c.v < 256) (hr : rightT T = true) (hp : p < 2 ^ T.ni.toNat) (ho : (o : Int) < T.no) :
    Fn Tryz.prog 24 #[.agg #[.int .i64 T.kind, .int .i64 T.ni, .int .i64 T.no, lv], .int .i64 (p : Int), .int .i64 (o : Int), .int .i64 m] w fun v w' => v = .bool ((mkS T o m).testBit p) := by
 refine Fn_intro (n := 38) Tryz.func24 rfl rfl (Nat.le_of_ble_eq_true rfl) ?_
 have hB : Below w.heap.size w w := Below.refl _ _
 have hle := hls.len
 obtain ⟨hk0, hk3, hi0, hi8, hno1, hno4, hl64⟩ := right_hd hr
 have h256 := two_n hr
 refine Zr <| Zy (Y_box (c := #[_, _, _, _]) rfl rfl fun b0_0 W3 hb4 hE5 hm0_0 => ?_)
 have lo_b0_0 := ZO hb4 hB
 clear hb4
 replace hB := Ze hB hE5
 refine Zb rfl <| WL_nil <| WC_seq fun K6 hK7 => Zr <| Zi rfl <| WL_nil <| WC_block ?_
 refine WC_loop (σ := (Nat)) [8, 9, 10, 11, 12, 13, 14, 15, 16, 17, 18, 19, 20, 21, 22, 23, 24, 25, 26, 27, 28, 29, 30, 31, 32, 33, 34, 35, 36, 37] (fun k => [(9, .int .i64 (k : Int))]) (fun k W => (Below w.heap.size w W) ∧ (At W b0_0 _ 24) ∧ (k ≤ T.ls.length) ∧ (∀ q, q < k → ¬ ((T.ls.getD q ln0).os.getD o 0 = m ∧ hasC (T.ls.getD q ln0).c.m (T.ls.getD q ln0).c.v p = true)) ∧ (True)) (fun k => T.ls.length - k) (0) ⟨rfl, trivial⟩ ⟨hB, hm0_0, (Nat.zero_le _), upTo_zero, trivial⟩ ?_
 clear hB hm0_0
 rintro k g11 W10 ⟨hB, hm0_0, hk, hq, _⟩ J12 hJ13
 refine WC_seq fun K14 hK15 => Zr <| Zi rfl <| Zf rfl tb_fo24_3 <| ZL lv rfl tb_sc22 hm0_0 rfl <| Zv (r_lenS (v := lv) rfl (Below.slT hB hlv) tb_el22) <| Zv (r_lss rfl rfl) <| WL_nil <| ZQ rfl (fun hc0 => ?_) fun hc0 => ?_
 refine WC_skip <| hK15 _ _ <| WC_seq fun K18 hK19 => WC_block ?_
 have hck := hls.c k (by omega)
 have hln := right_ln hr (show k < T.ls.length by omega)
 obtain ⟨hr1, hr2, hr3⟩ := lnOk_iff.1 hln
 have hbk := hmb k (by omega)
 have hb1 : (vs.getD k lv0).c.m < 256 ∧ (vs.getD k lv0).c.v < 256 := by rw [hck]; exact hbk
 refine Zr <| Zf rfl tb_fo24_3 <| ZL lv rfl tb_sc22 hm0_0 rfl <| Zi rfl <| Zv (r_idxS (v := lv) rfl (Below.slT hB hlv) rfl tb_el22 Om (by first | omega | (simp only [onTo_len, mayTo_len_, setF_len, flagsTo_len]; omega))) <| Zf rfl tb_fo44_1 <| Zv (r_load1 (v := (vs.getD k lv0).o) rfl tb_sc42 (SlT.cell (Below.slT hB hlv) encLn_len lv0 Om (by first | omega | (simp only [onTo_len, mayTo_len_, setF_len, flagsTo_len]; omega)) 2 rfl)) ?_
 have hp4_5 : SlT encI 1 w ((vs.getD k lv0).o) ((T.ls.getD k ln0).os) := hls.o k (by omega)
 refine Zi rfl <| Zv (r_idxS (v := (vs.getD k lv0).o) rfl (Below.slT hB hp4_5) rfl tb_el42 Om (by first | omega | (simp only [onTo_len, mayTo_len_, setF_len, flagsTo_len]; omega))) <| Zv (r_load1 (v := .int .i64 _) rfl tb_sc3 (SlT.cell (Below.slT hB hp4_5) encI_len 0 Om (by first | omega | (simp only [onTo_len, mayTo_len_, setF_len, flagsTo_len]; omega)) 0 rfl)) <| Zi rfl <| Zv (r_eql rfl rfl) <| ZX rfl (fun hs4_11 => ?_) fun hs4_11 => ?_
 refine Zf rfl tb_fo24_3 <| ZL lv rfl tb_sc22 hm0_0 rfl <| Zi rfl <| Zv (r_idxS (v := lv) rfl (Below.slT hB hlv) rfl tb_el22 Om (by first | omega | (simp only [onTo_len, mayTo_len_, setF_len, flagsTo_len]; omega))) <| Zf rfl tb_fo44_0 <| Zv (r_load2 rfl tb_ag41 (SlT.cell (Below.slT hB hlv) encLn_len lv0 Om (by first | omega | (simp only [onTo_len, mayTo_len_, setF_len, flagsTo_len]; omega)) 0 rfl) (SlT.cell (Below.slT hB hlv) encLn_len lv0 Om (by first | omega | (simp only [onTo_len, mayTo_len_, setF_len, flagsTo_len]; omega)) 1 rfl)) <| Zi rfl <| ZC tb_c49 (C_drawkniferef02_Has (vs.getD k lv0).c.m (vs.getD k lv0).c.v p _ hb1.1 hb1.2 Om) rfl fun v4_19 W22 hE23 hP4_19 => ?_
 replace hB := Ze hB hE23
 replace hm0_0 := hE23.at hm0_0
 obtain rfl := hP4_19
 refine Zb rfl <| WL_nil <| ZQ rfl (fun hc1 => ?_) fun hc1 => ?_
 refine Zr <| Zb rfl <| WL_nil <| Zt <| ret_t (v := .bool true) rfl ⟨hB, ?_⟩
 refine congrArg Value.bool ?_
 first | exact mk_t hr hp (by omega) hs4_11 (by rw [← hck]; exact hc1) | exact mk_f (k := k) hr (by omega) hq
 refine WC_skip <| hK19 _ _ <| WC_region <| Zi rfl <| Zv (r_addI rfl rfl Om Om) <| Zi rfl <| WL_nil ?_
 exact hJ13 _ _ (k + 1) Za ⟨rfl, trivial⟩ ⟨hB, hm0_0, Om, (upTo_succ hq (by first | exact (fun h => hs4_11 h.1) | (rw [← hck]; exact (fun h => Bool.noConfusion (hc1.symm.trans h.2))) | (rw [← hck]; exact (fun h => hc1 h.2)))), trivial⟩ Zo
 refine Zs <| Zs <| Zs <| Zs <| Zs <| Zs <| Zs <| Zs <| Zb rfl <| WL_nil <| WC_cond_false rfl <| WC_skip <| hK19 _ _ <| WC_region ?_
 refine Zi rfl <| Zv (r_addI rfl rfl Om Om) <| Zi rfl <| WL_nil ?_
 exact hJ13 _ _ (k + 1) Za ⟨rfl, trivial⟩ ⟨hB, hm0_0, Om, (upTo_succ hq (by first | exact (fun h => hs4_11 h.1) | (rw [← hck]; exact (fun h => Bool.noConfusion (hc1.symm.trans h.2))) | (rw [← hck]; exact (fun h => hc1 h.2)))), trivial⟩ Zo
 refine WC_exit <| hK7 _ _ <| Zr <| Zb rfl <| WL_nil <| Zt <| ret_t (v := .bool false) rfl ⟨hB, ?_⟩
 refine congrArg Value.bool ?_
 first | exact mk_t hr hp (by omega) hs4_11 (by rw [← hck]; exact hc1) | exact mk_f (k := k) hr (by omega) hq

set_option maxHeartbeats 4000000 in
theorem C_drawkniferef04_Of (T : Tb) (lv : Value) (vs : List LnV) (w : World) (hlv : SlT encLn 3 w lv vs) (hls : LsAt w vs T.ls) (hmb : ∀ i, i < T.ls.length → (T.ls.getD i ln0).c.m < 256 ∧ (T.ls.getD i ln0).c.v < 256) :
    Fn Tryz.prog 8 #[.agg #[.int .i64 T.kind, .int .i64 T.ni, .int .i64 T.no, lv]] w fun v w' => (ofE T = 0 ∧ ∃ onV mayV, v = .tuple #[.agg #[.int .i64 T.ni, onV, mayV], .int .i64 0] ∧ OwT encS 4 51 w' w.heap.size onV (onTo T T.no.toNat) ∧ OwT encS 4 51 w' w.heap.size mayV (mayTo_ T T.no.toNat)) ∨ (ofE T ≠ 0 ∧ v = .tuple #[.agg #[.int .i64 0, .slice none 0 0, .slice none 0 0], .int .i64 (ofE T)]) := by
 refine Fn_intro (n := 96) Tryz.func8 rfl rfl (Nat.le_of_ble_eq_true rfl) ?_
 have hB : Below w.heap.size w w := Below.refl _ _
 have hle := hls.len
 refine Zr <| Zy (Y_box (c := #[_, _, _, _]) rfl rfl fun b0_0 W3 hb4 hE5 hm0_0 => ?_)
 have lo_b0_0 := ZO hb4 hB
 clear hb4
 replace hB := Ze hB hE5
 refine Zy (Y_alloc tb_z29 rfl fun b0_1 W6 hb7 hE8 hm0_1 => ?_)
 have lo_b0_1 := ZO hb7 hB
 clear hb7
 replace hB := Ze hB hE8
 replace hm0_0 := hE8.at hm0_0
 refine Zi rfl <| WL_nil <| WC_seq fun K9 hK10 => Zr <| Zv (r_loadW rfl tb_ag24 rfl hm0_0) <| ZC tb_c22 (C_drawkniferef03_Right _ _ _ _ (Below.slT hB hlv) (LsAt.below hB hls) (by assumption)) rfl fun v1_1 W13 hE14 hP1_1 => ?_
 replace hB := Ze hB hE14
 replace hm0_0 := hE14.at hm0_0
 replace hm0_1 := hE14.at hm0_1
 obtain rfl := hP1_1
 refine Zv (r_not rfl) <| WL_nil <| ZQ rfl (fun hc0 => ?_) fun hc0 => ?_
 refine Zr <| Zv (tb_build29_ ) <| Zy (Y_storeW rfl rfl tb_ag29 rfl hm0_1 rfl rfl fun W18 hG19 hm20 => ?_)
 replace hB := Zg hB hG19 lo_b0_1
 replace hm0_0 := At.grownAt hm0_0 hm0_1 hG19 Dc
 replace hm0_1 := hm20
 refine Zi rfl <| WL_nil <| Zt <| ret_ct rfl tb_ag29 hm0_1 rfl (v1 := .int .i64 1) rfl ⟨hB, ?_⟩
 first | (rw [ofE_1 (by simpa using hc0)]; exact .inr ⟨by decide, rfl⟩) | (rw [ofE_4 (o := o) hr (by omega) (clash_y hs12_3 hs12_6 hc3)]; exact .inr ⟨by decide, rfl⟩) | (have ho2 : o = T.no.toNat := (by omega); subst ho2; exact .inl ⟨ofE_0 hr hq, onv, mayv, rfl, hon, hmay⟩)
 refine WC_skip <| hK10 _ _ ?_
 have hr : rightT T = true := by simpa using hc0
 obtain ⟨hk0, hk3, hi0, hi8, hno1, hno4, hl64⟩ := right_hd hr
 have hn8 := right_n hr
 have h256 := two_n hr
 obtain ⟨no, hno⟩ := Int.eq_ofNat_of_zero_le (show 0 ≤ T.no by omega)
 refine Zr <| Zf rfl tb_fo24_1 <| Zl rfl tb_sc3 hm0_0 rfl <| Zv (tb_build29_0 (h0 := rfl) (k0 := rfl) (c0_0 := .int .i64 _)) <| Zy (Y_alloc tb_z29 rfl fun b3_3 W23 hb24 hE25 hm3_3 => ?_)
 have lo_b3_3 := ZO hb24 hB
 have ne_b0_1_b3_3 := Zn hb24 hm0_1
 clear hb24
 replace hB := Ze hB hE25
 replace hm0_0 := hE25.at hm0_0
 replace hm0_1 := hE25.at hm0_1
 refine Zy (Y_storeW rfl rfl tb_ag29 rfl hm3_3 rfl rfl fun W26 hG27 hm28 => ?_)
 replace hB := Zg hB hG27 lo_b3_3
 replace hm0_0 := At.grownAt hm0_0 hm3_3 hG27 Dc
 replace hm0_1 := At.grownNe hm0_1 ne_b0_1_b3_3 hG27
 replace hm3_3 := hm28
 refine WL_nil <| WC_seq fun K29 hK30 => Zr <| Zi rfl <| WL_nil <| WC_block ?_
 refine WC_loop (σ := (Nat) × (Value) × (Value)) [3, 5, 6, 7, 8, 9, 10, 11, 19, 20, 21, 22, 23, 24, 25, 26, 27, 28, 29, 30, 31, 32, 33, 34, 35, 36, 37, 38, 39, 40, 41, 42, 43, 44, 45, 46, 47, 48, 49, 50, 51, 52, 53, 54, 55, 56, 57, 58, 59, 60, 61, 62, 63, 64, 65, 66, 67, 68, 69, 70, 71, 72, 73, 74, 75, 76, 77, 78, 79, 80, 81, 82, 83, 84, 85, 86, 87, 88, 89, 90, 91, 92, 93, 94] (fun (o, onv, mayv) => [(5, .int .i64 (o : Int))]) (fun sg W => match sg with | (o, onv, mayv) => (Below w.heap.size w W) ∧ (At W b0_0 _ 24) ∧ (At W b0_1 _ 29) ∧ (At W b3_3 #[.int .i64 T.ni, onv, mayv] 29) ∧ (OwT encS 4 51 W w.heap.size onv (onTo T o)) ∧ (OwT encS 4 51 W w.heap.size mayv (mayTo_ T o)) ∧ (Apart onv mayv) ∧ ((o : Int) ≤ T.no) ∧ (∀ q, q < o → clash T q = false) ∧ (True)) (fun (o, onv, mayv) => T.no.toNat - o) ((0, .slice none 0 0, .slice none 0 0)) ⟨rfl, trivial⟩ ⟨hB, hm0_0, hm0_1, hm3_3, OwT.nil, OwT.nil, Apart.nilL, Om, upTo_zero, trivial⟩ ?_
 clear hB hm0_0 hm0_1 hm3_3
 rintro ⟨o, onv, mayv⟩ g34 W33 ⟨hB, hm0_0, hm0_1, hm3_3, hon, hmay, hap, ho, hq, _⟩ J35 hJ36
 refine WC_seq fun K37 hK38 => Zr <| Zi rfl <| Zf rfl tb_fo24_2 <| Zl rfl tb_sc3 hm0_0 rfl <| Zv (r_lss rfl rfl) <| WL_nil <| ZQ rfl (fun hc1 => ?_) fun hc1 => ?_
 refine WC_skip <| hK38 _ _ <| WC_seq fun K41 hK42 => WC_block <| Zd Ext fun W45 hE46 => ?_
 replace hB := Ze hB hE46
 replace hm0_0 := hE46.at hm0_0
 replace hm0_1 := hE46.at hm0_1
 replace hm3_3 := hE46.at hm3_3
 replace hon := hE46.ow hon
 replace hmay := hE46.ow hmay
 have hS := Ext.refl W45
 refine WT_two 0 1 (by kernel_rfl) rfl rfl rfl rfl rfl rfl rfl rfl (Y_make (n := 256) (N := w.heap.size) rfl rfl tb_el61 tb_z4 Dc Dc (Below.size hB) (fun v7_0 W47 hE48 ho7_0 => ⟨.inl (hS.trans hE48), ?_⟩)) (Y_make (n := 256) (N := w.heap.size) rfl rfl tb_el61 tb_z4 Dc Dc (Below.size hB) (fun v7_1 W51 hE52 ho7_1 => ⟨.inl (hS.trans hE52), ?_⟩))
 replace ho7_0 := OwT.made encB_len false rfl Dc ho7_0
 replace hB := Ze hB hE48
 replace hm0_0 := hE48.at hm0_0
 replace hm0_1 := hE48.at hm0_1
 replace hm3_3 := hE48.at hm3_3
 replace hon := hE48.ow hon
 replace hmay := hE48.ow hmay
 replace hS := hS.trans hE48
 rw [setF_zero (fun p => (mkS T o 1).testBit p)] at ho7_0
 refine Tw 2 v7_0 rfl rfl hS <| To 1 rfl (Y_make (n := 256) (N := W47.heap.size) rfl rfl tb_el61 tb_z4 Dc Dc (Nat.le_refl _) fun v7_1 W55 hE56 ho7_1 => ⟨.inl (hS.trans hE56), ?_⟩)
 replace ho7_1 := OwT.made encB_len false rfl Dc ho7_1
 have olt57 := OwT.lt2 ho7_0
 have hap59 : Apart v7_0 v7_1 := Apart.new olt57 ho7_1
 replace ho7_1 := OwT.mono ho7_1 (Below.size hB)
 replace hB := Ze hB hE56
 replace hm0_0 := hE56.at hm0_0
 replace hm0_1 := hE56.at hm0_1
 replace hm3_3 := hE56.at hm3_3
 replace hon := hE56.ow hon
 replace hmay := hE56.ow hmay
 replace ho7_0 := hE56.ow ho7_0
 replace hS := hS.trans hE56
 rw [setF_zero (fun p => (mayT T o).testBit p)] at ho7_1
 refine Tw 3 v7_1 rfl rfl hS <| Td <| WC_seq fun K60 hK61 => Zr <| Zi rfl <| WL_nil <| WC_block ?_
 refine WC_loop (σ := (Nat)) [3, 8, 9, 10, 11, 27, 28, 29, 30, 31, 32, 33, 34, 35, 36, 37, 38, 39, 40, 41, 42, 43, 44, 45, 46, 47, 48, 49, 50, 51, 52, 53, 54, 55, 56, 57, 58, 59, 60, 61, 62, 63, 64, 65, 66, 67, 68, 69, 70, 71, 72, 73, 74, 75, 76, 77, 78, 79, 80] (fun p => [(8, .int .i64 (p : Int))]) (fun p W => (Below w.heap.size w W) ∧ (At W b0_0 _ 24) ∧ (At W b0_1 _ 29) ∧ (At W b3_3 _ 29) ∧ (OwT encS 4 51 W w.heap.size onv _) ∧ (OwT encS 4 51 W w.heap.size mayv _) ∧ (Apart onv mayv) ∧ (OwT encB 1 4 W w.heap.size v7_0 (setF (fun p => (mkS T o 1).testBit p) p)) ∧ (OwT encB 1 4 W w.heap.size v7_1 (setF (fun p => (mayT T o).testBit p) p)) ∧ (Apart v7_0 v7_1) ∧ (p ≤ 2 ^ T.ni.toNat) ∧ (∀ q, q < p → 2 ≤ T.kind → ((mkS T o 1).testBit q && (mkS T o 0).testBit q) = false) ∧ (True)) (fun p => 2 ^ T.ni.toNat - p) (0) ⟨rfl, trivial⟩ ⟨hB, hm0_0, hm0_1, hm3_3, hon, hmay, hap, ho7_0, ho7_1, hap59, (Nat.zero_le _), upTo_zero, trivial⟩ ?_
 clear hB hm0_0 hm0_1 hm3_3 hon hmay hap ho7_0 hap59 ho7_1
 rintro p g65 W64 ⟨hB, hm0_0, hm0_1, hm3_3, hon, hmay, hap, hoa, hob, hapb, hp, hcl, _⟩ J66 hJ67
 refine WC_seq fun K68 hK69 => Zr <| Zi rfl <| Zf rfl tb_fo24_1 <| Zl rfl tb_sc3 hm0_0 rfl <| ZC tb_c23 (C_drawkniferef04_size _ _ (by first | assumption | omega) (by first | assumption | omega)) rfl fun v9_3 W72 hE73 hP9_3 => ?_
 replace hB := Ze hB hE73
 replace hm0_0 := hE73.at hm0_0
 replace hm0_1 := hE73.at hm0_1
 replace hm3_3 := hE73.at hm3_3
 replace hon := hE73.ow hon
 replace hmay := hE73.ow hmay
 replace hoa := hE73.ow hoa
 replace hob := hE73.ow hob
 obtain rfl := hP9_3
 refine Zv (r_lss rfl rfl) <| WL_nil <| ZQ rfl (fun hc2 => ?_) fun hc2 => ?_
 refine WC_skip <| hK69 _ _ <| WC_seq fun K75 hK76 => WC_block ?_
 have hpp : p < 2 ^ T.ni.toNat := by omega
 refine Zd Ext fun W79 hE80 => ?_
 replace hB := Ze hB hE80
 replace hm0_0 := hE80.at hm0_0
 replace hm0_1 := hE80.at hm0_1
 replace hm3_3 := hE80.at hm3_3
 replace hon := hE80.ow hon
 replace hmay := hE80.ow hmay
 replace hoa := hE80.ow hoa
 replace hob := hE80.ow hob
 have hS := Ext.refl W79
 refine Tk 0 rfl (fun _ hq => r_loadW rfl tb_ag24 rfl (hq.at hm0_0)) hS <| Ti 1 rfl rfl hS <| Ti 2 rfl rfl hS <| Tk 4 rfl (fun _ hq => r_loadW rfl tb_ag24 rfl (hq.at hm0_0)) hS <| Ti 5 rfl rfl hS <| Ti 6 rfl rfl hS <| Tk 8 rfl (fun _ hq => r_loadW rfl tb_ag24 rfl (hq.at hm0_0)) hS <| Ti 9 rfl rfl hS <| Ti 10 rfl rfl hS <| To 3 rfl (TC tb_c24 (C_drawkniferef04_Marked T _ vs p o 1 _ (Below.slT hB hlv) (LsAt.below hB hls) hmb hr hpp Om) rfl fun v11_3 W81 hE82 hP11_3 => ⟨.inl (hS.trans hE82), ?_⟩)
 replace hB := Ze hB hE82
 replace hm0_0 := hE82.at hm0_0
 replace hm0_1 := hE82.at hm0_1
 replace hm3_3 := hE82.at hm3_3
 replace hon := hE82.ow hon
 replace hmay := hE82.ow hmay
 replace hoa := hE82.ow hoa
 replace hob := hE82.ow hob
 replace hS := hS.trans hE82
 obtain rfl := hP11_3
 refine To 7 rfl (TC tb_c24 (C_drawkniferef04_Marked T _ vs p o 0 _ (Below.slT hB hlv) (LsAt.below hB hls) hmb hr hpp Om) rfl fun v11_7 W85 hE86 hP11_7 => ⟨.inl (hS.trans hE86), ?_⟩)
 replace hB := Ze hB hE86
 replace hm0_0 := hE86.at hm0_0
 replace hm0_1 := hE86.at hm0_1
 replace hm3_3 := hE86.at hm3_3
 replace hon := hE86.ow hon
 replace hmay := hE86.ow hmay
 replace hoa := hE86.ow hoa
 replace hob := hE86.ow hob
 replace hS := hS.trans hE86
 obtain rfl := hP11_7
 refine To 11 rfl (TC tb_c24 (C_drawkniferef04_Marked T _ vs p o 2 _ (Below.slT hB hlv) (LsAt.below hB hls) hmb hr hpp Om) rfl fun v11_11 W88 hE89 hP11_11 => ⟨.inl (hS.trans hE89), ?_⟩)
 replace hB := Ze hB hE89
 replace hm0_0 := hE89.at hm0_0
 replace hm0_1 := hE89.at hm0_1
 replace hm3_3 := hE89.at hm3_3
 replace hon := hE89.ow hon
 replace hmay := hE89.ow hmay
 replace hoa := hE89.ow hoa
 replace hob := hE89.ow hob
 replace hS := hS.trans hE89
 obtain rfl := hP11_11
 refine Ty 12 rfl rfl hS <| Ty 13 rfl rfl hS <| Ty 14 rfl rfl hS <| Td <| WC_seq fun K91 hK92 => Zr <| Zf rfl tb_fo24_0 <| Zl rfl tb_sc3 hm0_0 rfl <| Zv (r_geq rfl rfl) <| ZX rfl (fun hs12_3 => ?_) fun hs12_3 => ?_
 refine Zb rfl <| Zb rfl <| ZX rfl (fun hs12_6 => ?_) fun hs12_6 => ?_
 refine Zb rfl <| Zb rfl <| WL_nil <| ZQ rfl (fun hc3 => ?_) fun hc3 => ?_
 refine Zr <| Zv (tb_build29_ ) <| Zy (Y_storeW rfl rfl tb_ag29 rfl hm0_1 rfl rfl fun W97 hG98 hm99 => ?_)
 replace hB := Zg hB hG98 lo_b0_1
 replace hm0_0 := At.grownAt hm0_0 hm0_1 hG98 Dc
 replace hm3_3 := At.grownNe hm3_3 (Ne.symm ne_b0_1_b3_3) hG98
 replace hon := OwT.grownAt hon hm0_1 hG98 Dc
 replace hmay := OwT.grownAt hmay hm0_1 hG98 Dc
 replace hoa := OwT.grownAt hoa hm0_1 hG98 Dc
 replace hob := OwT.grownAt hob hm0_1 hG98 Dc
 replace hm0_1 := hm99
 refine Zi rfl <| WL_nil <| Zt <| ret_ct rfl tb_ag29 hm0_1 rfl (v1 := .int .i64 4) rfl ⟨hB, ?_⟩
 first | (rw [ofE_1 (by simpa using hc0)]; exact .inr ⟨by decide, rfl⟩) | (rw [ofE_4 (o := o) hr (by omega) (clash_y hs12_3 hs12_6 hc3)]; exact .inr ⟨by decide, rfl⟩) | (have ho2 : o = T.no.toNat := (by omega); subst ho2; exact .inl ⟨ofE_0 hr hq, onv, mayv, rfl, hon, hmay⟩)
 refine WC_skip <| hK92 _ _ <| Zr <| Zw v7_0 rfl <| Zi rfl <| Zb rfl <| Zv (r_idxS (v := v7_0) rfl hoa.sl rfl tb_el61 Om (by first | omega | (simp only [onTo_len, mayTo_len_, setF_len, flagsTo_len]; omega))) <| Zy (Y_storeE (v := v7_0) (u := .bool _) (a := _) (j := _) rfl rfl (.inl ⟨tb_sc4, rfl⟩) encB_len rfl rfl hoa Om (by first | omega | (simp only [onTo_len, mayTo_len_, setF_len, flagsTo_len]; omega)) fun W102 hG103 hm104 => ?_)
 replace hB := ZG hB hG103 hoa
 replace hm0_0 := At.grownOw hm0_0 hoa hG103 Dc
 replace hm0_1 := At.grownOw hm0_1 hoa hG103 Dc
 replace hm3_3 := At.grownOw hm3_3 hoa hG103 Dc
 replace hon := OwT.grownOw hon hoa hG103 Dc
 replace hmay := OwT.grownOw hmay hoa hG103 Dc
 replace hob := OwT.grownAp hob hapb hG103
 clear hG103 hoa
 replace hoa := hm104
 rw [setF_put (f := fun p => (mkS T o 1).testBit p) (by first | rfl | exact hs12_6.symm | exact hs15_3.symm)] at hoa
 refine WL_nil <| WC_region <| Zw v7_1 rfl <| Zi rfl <| Zb rfl <| ZX rfl (fun hs15_3 => ?_) fun hs15_3 => ?_
 refine Zs <| Zs <| Zs <| Zs <| Zs <| Zs <| Zb rfl <| Zb rfl <| Zs <| Zs <| Zs <| Zs <| Zs <| Zs ?_
 refine Zs <| Zb rfl <| Zv (r_idxS (v := v7_1) rfl hob.sl rfl tb_el61 Om (by first | omega | (simp only [onTo_len, mayTo_len_, setF_len, flagsTo_len]; omega))) <| Zy (Y_storeE (v := v7_1) (u := .bool true) (a := _) (j := _) rfl rfl (.inl ⟨tb_sc4, rfl⟩) encB_len rfl rfl hob Om (by first | omega | (simp only [onTo_len, mayTo_len_, setF_len, flagsTo_len]; omega)) fun W105 hG106 hm107 => ?_)
 replace hB := ZG hB hG106 hob
 replace hm0_0 := At.grownOw hm0_0 hob hG106 Dc
 replace hm0_1 := At.grownOw hm0_1 hob hG106 Dc
 replace hm3_3 := At.grownOw hm3_3 hob hG106 Dc
 replace hon := OwT.grownOw hon hob hG106 Dc
 replace hmay := OwT.grownOw hmay hob hG106 Dc
 replace hoa := OwT.grownAp hoa (Apart.symm hapb) hG106
 clear hG106 hob
 replace hob := hm107
 rw [setF_put (f := fun p => (mayT T o).testBit p) (by first | exact Bool.noConfusion (hs12_6.symm.trans hs15_3) | exact Bool.noConfusion (hs15_3.symm.trans hs12_6) | exact my_1a hr hpp hs15_3 hs12_3 | exact my_1b hr hpp hs15_3 hc3 | exact my_1a hr hpp hs12_6 hs12_3 | exact my_1b hr hpp hs12_6 hc3 | exact hs15_11.symm.trans (my_2 hr hpp hs15_3 hs15_7) | exact my_4 hr hpp hs15_15 | exact my_5 hr hpp hs15_3 hs15_7 hs15_15)] at hob
 refine WL_nil <| hK76 _ _ <| WC_region <| Zi rfl <| Zv (r_addI rfl rfl Om Om) <| Zi rfl <| WL_nil ?_
 exact hJ67 _ _ (p + 1) Za ⟨rfl, trivial⟩ ⟨hB, hm0_0, hm0_1, hm3_3, hon, hmay, hap, (by exact hoa), (by exact hob), hapb, Om, (upTo_succ hcl (by first | exact ncl_k hs12_3 | exact ncl_1 hs12_6 | exact ncl_0 hc3)), trivial⟩ Zo
 refine Zf rfl tb_fo24_0 <| Zl rfl tb_sc3 hm0_0 rfl <| Zv (r_eql rfl rfl) <| ZX rfl (fun hs15_7 => ?_) fun hs15_7 => ?_
 refine Zb rfl <| Zb rfl <| Zb rfl <| ZX rfl (fun hs15_11 => ?_) fun hs15_11 => ?_
 refine Zs <| Zs <| Zs <| Zs <| Zs <| Zs <| Zs <| Zb rfl <| Zv (r_idxS (v := v7_1) rfl hob.sl rfl tb_el61 Om (by first | omega | (simp only [onTo_len, mayTo_len_, setF_len, flagsTo_len]; omega))) <| Zy (Y_storeE (v := v7_1) (u := .bool true) (a := _) (j := _) rfl rfl (.inl ⟨tb_sc4, rfl⟩) encB_len rfl rfl hob Om (by first | omega | (simp only [onTo_len, mayTo_len_, setF_len, flagsTo_len]; omega)) fun W108 hG109 hm110 => ?_)
 replace hB := ZG hB hG109 hob
 replace hm0_0 := At.grownOw hm0_0 hob hG109 Dc
 replace hm0_1 := At.grownOw hm0_1 hob hG109 Dc
 replace hm3_3 := At.grownOw hm3_3 hob hG109 Dc
 replace hon := OwT.grownOw hon hob hG109 Dc
 replace hmay := OwT.grownOw hmay hob hG109 Dc
 replace hoa := OwT.grownAp hoa (Apart.symm hapb) hG109
 clear hG109 hob
 replace hob := hm110
 rw [setF_put (f := fun p => (mayT T o).testBit p) (by first | exact Bool.noConfusion (hs12_6.symm.trans hs15_3) | exact Bool.noConfusion (hs15_3.symm.trans hs12_6) | exact my_1a hr hpp hs15_3 hs12_3 | exact my_1b hr hpp hs15_3 hc3 | exact my_1a hr hpp hs12_6 hs12_3 | exact my_1b hr hpp hs12_6 hc3 | exact hs15_11.symm.trans (my_2 hr hpp hs15_3 hs15_7) | exact my_4 hr hpp hs15_15 | exact my_5 hr hpp hs15_3 hs15_7 hs15_15)] at hob
 refine WL_nil <| hK76 _ _ <| WC_region <| Zi rfl <| Zv (r_addI rfl rfl Om Om) <| Zi rfl <| WL_nil ?_
 exact hJ67 _ _ (p + 1) Za ⟨rfl, trivial⟩ ⟨hB, hm0_0, hm0_1, hm3_3, hon, hmay, hap, (by exact hoa), (by exact hob), hapb, Om, (upTo_succ hcl (by first | exact ncl_k hs12_3 | exact ncl_1 hs12_6 | exact ncl_0 hc3)), trivial⟩ Zo
 refine Zf rfl tb_fo24_0 <| Zl rfl tb_sc3 hm0_0 rfl <| Zv (r_geq rfl rfl) <| ZX rfl (fun hs15_15 => ?_) fun hs15_15 => ?_
 refine Zb rfl <| Zv (r_not rfl) <| Zb rfl <| Zb rfl <| Zv (r_idxS (v := v7_1) rfl hob.sl rfl tb_el61 Om (by first | omega | (simp only [onTo_len, mayTo_len_, setF_len, flagsTo_len]; omega))) <| Zy (Y_storeE (v := v7_1) (u := .bool _) (a := _) (j := _) rfl rfl (.inl ⟨tb_sc4, rfl⟩) encB_len rfl rfl hob Om (by first | omega | (simp only [onTo_len, mayTo_len_, setF_len, flagsTo_len]; omega)) fun W111 hG112 hm113 => ?_)
 replace hB := ZG hB hG112 hob
 replace hm0_0 := At.grownOw hm0_0 hob hG112 Dc
 replace hm0_1 := At.grownOw hm0_1 hob hG112 Dc
 replace hm3_3 := At.grownOw hm3_3 hob hG112 Dc
 replace hon := OwT.grownOw hon hob hG112 Dc
 replace hmay := OwT.grownOw hmay hob hG112 Dc
 replace hoa := OwT.grownAp hoa (Apart.symm hapb) hG112
 clear hG112 hob
 replace hob := hm113
 rw [setF_put (f := fun p => (mayT T o).testBit p) (by first | exact Bool.noConfusion (hs12_6.symm.trans hs15_3) | exact Bool.noConfusion (hs15_3.symm.trans hs12_6) | exact my_1a hr hpp hs15_3 hs12_3 | exact my_1b hr hpp hs15_3 hc3 | exact my_1a hr hpp hs12_6 hs12_3 | exact my_1b hr hpp hs12_6 hc3 | exact hs15_11.symm.trans (my_2 hr hpp hs15_3 hs15_7) | exact my_4 hr hpp hs15_15 | exact my_5 hr hpp hs15_3 hs15_7 hs15_15)] at hob
 refine WL_nil <| hK76 _ _ <| WC_region <| Zi rfl <| Zv (r_addI rfl rfl Om Om) <| Zi rfl <| WL_nil ?_
 exact hJ67 _ _ (p + 1) Za ⟨rfl, trivial⟩ ⟨hB, hm0_0, hm0_1, hm3_3, hon, hmay, hap, (by exact hoa), (by exact hob), hapb, Om, (upTo_succ hcl (by first | exact ncl_k hs12_3 | exact ncl_1 hs12_6 | exact ncl_0 hc3)), trivial⟩ Zo
 refine Zs <| Zs <| Zb rfl <| Zb rfl <| Zv (r_idxS (v := v7_1) rfl hob.sl rfl tb_el61 Om (by first | omega | (simp only [onTo_len, mayTo_len_, setF_len, flagsTo_len]; omega))) <| Zy (Y_storeE (v := v7_1) (u := .bool false) (a := _) (j := _) rfl rfl (.inl ⟨tb_sc4, rfl⟩) encB_len rfl rfl hob Om (by first | omega | (simp only [onTo_len, mayTo_len_, setF_len, flagsTo_len]; omega)) fun W114 hG115 hm116 => ?_)
 replace hB := ZG hB hG115 hob
 replace hm0_0 := At.grownOw hm0_0 hob hG115 Dc
 replace hm0_1 := At.grownOw hm0_1 hob hG115 Dc
 replace hm3_3 := At.grownOw hm3_3 hob hG115 Dc
 replace hon := OwT.grownOw hon hob hG115 Dc
 replace hmay := OwT.grownOw hmay hob hG115 Dc
 replace hoa := OwT.grownAp hoa (Apart.symm hapb) hG115
 clear hG115 hob
 replace hob := hm116
 rw [setF_put (f := fun p => (mayT T o).testBit p) (by first | exact Bool.noConfusion (hs12_6.symm.trans hs15_3) | exact Bool.noConfusion (hs15_3.symm.trans hs12_6) | exact my_1a hr hpp hs15_3 hs12_3 | exact my_1b hr hpp hs15_3 hc3 | exact my_1a hr hpp hs12_6 hs12_3 | exact my_1b hr hpp hs12_6 hc3 | exact hs15_11.symm.trans (my_2 hr hpp hs15_3 hs15_7) | exact my_4 hr hpp hs15_15 | exact my_5 hr hpp hs15_3 hs15_7 hs15_15)] at hob
 refine WL_nil <| hK76 _ _ <| WC_region <| Zi rfl <| Zv (r_addI rfl rfl Om Om) <| Zi rfl <| WL_nil ?_
 exact hJ67 _ _ (p + 1) Za ⟨rfl, trivial⟩ ⟨hB, hm0_0, hm0_1, hm3_3, hon, hmay, hap, (by exact hoa), (by exact hob), hapb, Om, (upTo_succ hcl (by first | exact ncl_k hs12_3 | exact ncl_1 hs12_6 | exact ncl_0 hc3)), trivial⟩ Zo
 refine Zs <| Zb rfl <| Zb rfl <| Zb rfl <| Zf rfl tb_fo24_0 <| Zl rfl tb_sc3 hm0_0 rfl <| Zv (r_geq rfl rfl) <| ZX rfl (fun hs15_15 => ?_) fun hs15_15 => ?_
 refine Zb rfl <| Zv (r_not rfl) <| Zb rfl <| Zb rfl <| Zv (r_idxS (v := v7_1) rfl hob.sl rfl tb_el61 Om (by first | omega | (simp only [onTo_len, mayTo_len_, setF_len, flagsTo_len]; omega))) <| Zy (Y_storeE (v := v7_1) (u := .bool _) (a := _) (j := _) rfl rfl (.inl ⟨tb_sc4, rfl⟩) encB_len rfl rfl hob Om (by first | omega | (simp only [onTo_len, mayTo_len_, setF_len, flagsTo_len]; omega)) fun W117 hG118 hm119 => ?_)
 replace hB := ZG hB hG118 hob
 replace hm0_0 := At.grownOw hm0_0 hob hG118 Dc
 replace hm0_1 := At.grownOw hm0_1 hob hG118 Dc
 replace hm3_3 := At.grownOw hm3_3 hob hG118 Dc
 replace hon := OwT.grownOw hon hob hG118 Dc
 replace hmay := OwT.grownOw hmay hob hG118 Dc
 replace hoa := OwT.grownAp hoa (Apart.symm hapb) hG118
 clear hG118 hob
 replace hob := hm119
 rw [setF_put (f := fun p => (mayT T o).testBit p) (by first | exact Bool.noConfusion (hs12_6.symm.trans hs15_3) | exact Bool.noConfusion (hs15_3.symm.trans hs12_6) | exact my_1a hr hpp hs15_3 hs12_3 | exact my_1b hr hpp hs15_3 hc3 | exact my_1a hr hpp hs12_6 hs12_3 | exact my_1b hr hpp hs12_6 hc3 | exact hs15_11.symm.trans (my_2 hr hpp hs15_3 hs15_7) | exact my_4 hr hpp hs15_15 | exact my_5 hr hpp hs15_3 hs15_7 hs15_15)] at hob
 refine WL_nil <| hK76 _ _ <| WC_region <| Zi rfl <| Zv (r_addI rfl rfl Om Om) <| Zi rfl <| WL_nil ?_
 exact hJ67 _ _ (p + 1) Za ⟨rfl, trivial⟩ ⟨hB, hm0_0, hm0_1, hm3_3, hon, hmay, hap, (by exact hoa), (by exact hob), hapb, Om, (upTo_succ hcl (by first | exact ncl_k hs12_3 | exact ncl_1 hs12_6 | exact ncl_0 hc3)), trivial⟩ Zo
 refine Zs <| Zs <| Zb rfl <| Zb rfl <| Zv (r_idxS (v := v7_1) rfl hob.sl rfl tb_el61 Om (by first | omega | (simp only [onTo_len, mayTo_len_, setF_len, flagsTo_len]; omega))) <| Zy (Y_storeE (v := v7_1) (u := .bool false) (a := _) (j := _) rfl rfl (.inl ⟨tb_sc4, rfl⟩) encB_len rfl rfl hob Om (by first | omega | (simp only [onTo_len, mayTo_len_, setF_len, flagsTo_len]; omega)) fun W120 hG121 hm122 => ?_)
 replace hB := ZG hB hG121 hob
 replace hm0_0 := At.grownOw hm0_0 hob hG121 Dc
 replace hm0_1 := At.grownOw hm0_1 hob hG121 Dc
 replace hm3_3 := At.grownOw hm3_3 hob hG121 Dc
 replace hon := OwT.grownOw hon hob hG121 Dc
 replace hmay := OwT.grownOw hmay hob hG121 Dc
 replace hoa := OwT.grownAp hoa (Apart.symm hapb) hG121
 clear hG121 hob
 replace hob := hm122
 rw [setF_put (f := fun p => (mayT T o).testBit p) (by first | exact Bool.noConfusion (hs12_6.symm.trans hs15_3) | exact Bool.noConfusion (hs15_3.symm.trans hs12_6) | exact my_1a hr hpp hs15_3 hs12_3 | exact my_1b hr hpp hs15_3 hc3 | exact my_1a hr hpp hs12_6 hs12_3 | exact my_1b hr hpp hs12_6 hc3 | exact hs15_11.symm.trans (my_2 hr hpp hs15_3 hs15_7) | exact my_4 hr hpp hs15_15 | exact my_5 hr hpp hs15_3 hs15_7 hs15_15)] at hob
 refine WL_nil <| hK76 _ _ <| WC_region <| Zi rfl <| Zv (r_addI rfl rfl Om Om) <| Zi rfl <| WL_nil ?_
 exact hJ67 _ _ (p + 1) Za ⟨rfl, trivial⟩ ⟨hB, hm0_0, hm0_1, hm3_3, hon, hmay, hap, (by exact hoa), (by exact hob), hapb, Om, (upTo_succ hcl (by first | exact ncl_k hs12_3 | exact ncl_1 hs12_6 | exact ncl_0 hc3)), trivial⟩ Zo
 refine Zs <| Zb rfl <| WL_nil <| WC_cond_false rfl <| WC_skip <| hK92 _ _ <| Zr <| Zw v7_0 rfl <| Zi rfl <| Zb rfl <| Zv (r_idxS (v := v7_0) rfl hoa.sl rfl tb_el61 Om (by first | omega | (simp only [onTo_len, mayTo_len_, setF_len, flagsTo_len]; omega))) <| Zy (Y_storeE (v := v7_0) (u := .bool _) (a := _) (j := _) rfl rfl (.inl ⟨tb_sc4, rfl⟩) encB_len rfl rfl hoa Om (by first | omega | (simp only [onTo_len, mayTo_len_, setF_len, flagsTo_len]; omega)) fun W125 hG126 hm127 => ?_)
 replace hB := ZG hB hG126 hoa
 replace hm0_0 := At.grownOw hm0_0 hoa hG126 Dc
 replace hm0_1 := At.grownOw hm0_1 hoa hG126 Dc
 replace hm3_3 := At.grownOw hm3_3 hoa hG126 Dc
 replace hon := OwT.grownOw hon hoa hG126 Dc
 replace hmay := OwT.grownOw hmay hoa hG126 Dc
 replace hob := OwT.grownAp hob hapb hG126
 clear hG126 hoa
 replace hoa := hm127
 rw [setF_put (f := fun p => (mkS T o 1).testBit p) (by first | rfl | exact hs12_6.symm | exact hs15_3.symm)] at hoa
 refine WL_nil <| WC_region <| Zw v7_1 rfl <| Zi rfl <| Zb rfl <| ZX rfl (fun hs15_3 => ?_) fun hs15_3 => ?_
 refine Zs <| Zs <| Zs <| Zs <| Zs <| Zs <| Zb rfl <| Zb rfl <| Zs <| Zs <| Zs <| Zs <| Zs <| Zs ?_
 refine Zs <| Zb rfl <| Zv (r_idxS (v := v7_1) rfl hob.sl rfl tb_el61 Om (by first | omega | (simp only [onTo_len, mayTo_len_, setF_len, flagsTo_len]; omega))) <| Zy (Y_storeE (v := v7_1) (u := .bool true) (a := _) (j := _) rfl rfl (.inl ⟨tb_sc4, rfl⟩) encB_len rfl rfl hob Om (by first | omega | (simp only [onTo_len, mayTo_len_, setF_len, flagsTo_len]; omega)) fun W128 hG129 hm130 => ?_)
 replace hB := ZG hB hG129 hob
 replace hm0_0 := At.grownOw hm0_0 hob hG129 Dc
 replace hm0_1 := At.grownOw hm0_1 hob hG129 Dc
 replace hm3_3 := At.grownOw hm3_3 hob hG129 Dc
 replace hon := OwT.grownOw hon hob hG129 Dc
 replace hmay := OwT.grownOw hmay hob hG129 Dc
 replace hoa := OwT.grownAp hoa (Apart.symm hapb) hG129
 clear hG129 hob
 replace hob := hm130
 rw [setF_put (f := fun p => (mayT T o).testBit p) (by first | exact Bool.noConfusion (hs12_6.symm.trans hs15_3) | exact Bool.noConfusion (hs15_3.symm.trans hs12_6) | exact my_1a hr hpp hs15_3 hs12_3 | exact my_1b hr hpp hs15_3 hc3 | exact my_1a hr hpp hs12_6 hs12_3 | exact my_1b hr hpp hs12_6 hc3 | exact hs15_11.symm.trans (my_2 hr hpp hs15_3 hs15_7) | exact my_4 hr hpp hs15_15 | exact my_5 hr hpp hs15_3 hs15_7 hs15_15)] at hob
 refine WL_nil <| hK76 _ _ <| WC_region <| Zi rfl <| Zv (r_addI rfl rfl Om Om) <| Zi rfl <| WL_nil ?_
 exact hJ67 _ _ (p + 1) Za ⟨rfl, trivial⟩ ⟨hB, hm0_0, hm0_1, hm3_3, hon, hmay, hap, (by exact hoa), (by exact hob), hapb, Om, (upTo_succ hcl (by first | exact ncl_k hs12_3 | exact ncl_1 hs12_6 | exact ncl_0 hc3)), trivial⟩ Zo
 refine Zf rfl tb_fo24_0 <| Zl rfl tb_sc3 hm0_0 rfl <| Zv (r_eql rfl rfl) <| ZX rfl (fun hs15_7 => ?_) fun hs15_7 => ?_
 refine Zb rfl <| Zb rfl <| Zb rfl <| ZX rfl (fun hs15_11 => ?_) fun hs15_11 => ?_
 refine Zs <| Zs <| Zs <| Zs <| Zs <| Zs <| Zs <| Zb rfl <| Zv (r_idxS (v := v7_1) rfl hob.sl rfl tb_el61 Om (by first | omega | (simp only [onTo_len, mayTo_len_, setF_len, flagsTo_len]; omega))) <| Zy (Y_storeE (v := v7_1) (u := .bool true) (a := _) (j := _) rfl rfl (.inl ⟨tb_sc4, rfl⟩) encB_len rfl rfl hob Om (by first | omega | (simp only [onTo_len, mayTo_len_, setF_len, flagsTo_len]; omega)) fun W131 hG132 hm133 => ?_)
 replace hB := ZG hB hG132 hob
 replace hm0_0 := At.grownOw hm0_0 hob hG132 Dc
 replace hm0_1 := At.grownOw hm0_1 hob hG132 Dc
 replace hm3_3 := At.grownOw hm3_3 hob hG132 Dc
 replace hon := OwT.grownOw hon hob hG132 Dc
 replace hmay := OwT.grownOw hmay hob hG132 Dc
 replace hoa := OwT.grownAp hoa (Apart.symm hapb) hG132
 clear hG132 hob
 replace hob := hm133
 rw [setF_put (f := fun p => (mayT T o).testBit p) (by first | exact Bool.noConfusion (hs12_6.symm.trans hs15_3) | exact Bool.noConfusion (hs15_3.symm.trans hs12_6) | exact my_1a hr hpp hs15_3 hs12_3 | exact my_1b hr hpp hs15_3 hc3 | exact my_1a hr hpp hs12_6 hs12_3 | exact my_1b hr hpp hs12_6 hc3 | exact hs15_11.symm.trans (my_2 hr hpp hs15_3 hs15_7) | exact my_4 hr hpp hs15_15 | exact my_5 hr hpp hs15_3 hs15_7 hs15_15)] at hob
 refine WL_nil <| hK76 _ _ <| WC_region <| Zi rfl <| Zv (r_addI rfl rfl Om Om) <| Zi rfl <| WL_nil ?_
 exact hJ67 _ _ (p + 1) Za ⟨rfl, trivial⟩ ⟨hB, hm0_0, hm0_1, hm3_3, hon, hmay, hap, (by exact hoa), (by exact hob), hapb, Om, (upTo_succ hcl (by first | exact ncl_k hs12_3 | exact ncl_1 hs12_6 | exact ncl_0 hc3)), trivial⟩ Zo
 refine Zf rfl tb_fo24_0 <| Zl rfl tb_sc3 hm0_0 rfl <| Zv (r_geq rfl rfl) <| ZX rfl (fun hs15_15 => ?_) fun hs15_15 => ?_
 refine Zb rfl <| Zv (r_not rfl) <| Zb rfl <| Zb rfl <| Zv (r_idxS (v := v7_1) rfl hob.sl rfl tb_el61 Om (by first | omega | (simp only [onTo_len, mayTo_len_, setF_len, flagsTo_len]; omega))) <| Zy (Y_storeE (v := v7_1) (u := .bool _) (a := _) (j := _) rfl rfl (.inl ⟨tb_sc4, rfl⟩) encB_len rfl rfl hob Om (by first | omega | (simp only [onTo_len, mayTo_len_, setF_len, flagsTo_len]; omega)) fun W134 hG135 hm136 => ?_)
 replace hB := ZG hB hG135 hob
 replace hm0_0 := At.grownOw hm0_0 hob hG135 Dc
 replace hm0_1 := At.grownOw hm0_1 hob hG135 Dc
 replace hm3_3 := At.grownOw hm3_3 hob hG135 Dc
 replace hon := OwT.grownOw hon hob hG135 Dc
 replace hmay := OwT.grownOw hmay hob hG135 Dc
 replace hoa := OwT.grownAp hoa (Apart.symm hapb) hG135
 clear hG135 hob
 replace hob := hm136
 rw [setF_put (f := fun p => (mayT T o).testBit p) (by first | exact Bool.noConfusion (hs12_6.symm.trans hs15_3) | exact Bool.noConfusion (hs15_3.symm.trans hs12_6) | exact my_1a hr hpp hs15_3 hs12_3 | exact my_1b hr hpp hs15_3 hc3 | exact my_1a hr hpp hs12_6 hs12_3 | exact my_1b hr hpp hs12_6 hc3 | exact hs15_11.symm.trans (my_2 hr hpp hs15_3 hs15_7) | exact my_4 hr hpp hs15_15 | exact my_5 hr hpp hs15_3 hs15_7 hs15_15)] at hob
 refine WL_nil <| hK76 _ _ <| WC_region <| Zi rfl <| Zv (r_addI rfl rfl Om Om) <| Zi rfl <| WL_nil ?_
 exact hJ67 _ _ (p + 1) Za ⟨rfl, trivial⟩ ⟨hB, hm0_0, hm0_1, hm3_3, hon, hmay, hap, (by exact hoa), (by exact hob), hapb, Om, (upTo_succ hcl (by first | exact ncl_k hs12_3 | exact ncl_1 hs12_6 | exact ncl_0 hc3)), trivial⟩ Zo
 refine Zs <| Zs <| Zb rfl <| Zb rfl <| Zv (r_idxS (v := v7_1) rfl hob.sl rfl tb_el61 Om (by first | omega | (simp only [onTo_len, mayTo_len_, setF_len, flagsTo_len]; omega))) <| Zy (Y_storeE (v := v7_1) (u := .bool false) (a := _) (j := _) rfl rfl (.inl ⟨tb_sc4, rfl⟩) encB_len rfl rfl hob Om (by first | omega | (simp only [onTo_len, mayTo_len_, setF_len, flagsTo_len]; omega)) fun W137 hG138 hm139 => ?_)
 replace hB := ZG hB hG138 hob
 replace hm0_0 := At.grownOw hm0_0 hob hG138 Dc
 replace hm0_1 := At.grownOw hm0_1 hob hG138 Dc
 replace hm3_3 := At.grownOw hm3_3 hob hG138 Dc
 replace hon := OwT.grownOw hon hob hG138 Dc
 replace hmay := OwT.grownOw hmay hob hG138 Dc
 replace hoa := OwT.grownAp hoa (Apart.symm hapb) hG138
 clear hG138 hob
 replace hob := hm139
 rw [setF_put (f := fun p => (mayT T o).testBit p) (by first | exact Bool.noConfusion (hs12_6.symm.trans hs15_3) | exact Bool.noConfusion (hs15_3.symm.trans hs12_6) | exact my_1a hr hpp hs15_3 hs12_3 | exact my_1b hr hpp hs15_3 hc3 | exact my_1a hr hpp hs12_6 hs12_3 | exact my_1b hr hpp hs12_6 hc3 | exact hs15_11.symm.trans (my_2 hr hpp hs15_3 hs15_7) | exact my_4 hr hpp hs15_15 | exact my_5 hr hpp hs15_3 hs15_7 hs15_15)] at hob
 refine WL_nil <| hK76 _ _ <| WC_region <| Zi rfl <| Zv (r_addI rfl rfl Om Om) <| Zi rfl <| WL_nil ?_
 exact hJ67 _ _ (p + 1) Za ⟨rfl, trivial⟩ ⟨hB, hm0_0, hm0_1, hm3_3, hon, hmay, hap, (by exact hoa), (by exact hob), hapb, Om, (upTo_succ hcl (by first | exact ncl_k hs12_3 | exact ncl_1 hs12_6 | exact ncl_0 hc3)), trivial⟩ Zo
 refine Zs <| Zb rfl <| Zb rfl <| Zb rfl <| Zf rfl tb_fo24_0 <| Zl rfl tb_sc3 hm0_0 rfl <| Zv (r_geq rfl rfl) <| ZX rfl (fun hs15_15 => ?_) fun hs15_15 => ?_
 refine Zb rfl <| Zv (r_not rfl) <| Zb rfl <| Zb rfl <| Zv (r_idxS (v := v7_1) rfl hob.sl rfl tb_el61 Om (by first | omega | (simp only [onTo_len, mayTo_len_, setF_len, flagsTo_len]; omega))) <| Zy (Y_storeE (v := v7_1) (u := .bool _) (a := _) (j := _) rfl rfl (.inl ⟨tb_sc4, rfl⟩) encB_len rfl rfl hob Om (by first | omega | (simp only [onTo_len, mayTo_len_, setF_len, flagsTo_len]; omega)) fun W140 hG141 hm142 => ?_)
 replace hB := ZG hB hG141 hob
 replace hm0_0 := At.grownOw hm0_0 hob hG141 Dc
 replace hm0_1 := At.grownOw hm0_1 hob hG141 Dc
 replace hm3_3 := At.grownOw hm3_3 hob hG141 Dc
 replace hon := OwT.grownOw hon hob hG141 Dc
 replace hmay := OwT.grownOw hmay hob hG141 Dc
 replace hoa := OwT.grownAp hoa (Apart.symm hapb) hG141
 clear hG141 hob
 replace hob := hm142
 rw [setF_put (f := fun p => (mayT T o).testBit p) (by first | exact Bool.noConfusion (hs12_6.symm.trans hs15_3) | exact Bool.noConfusion (hs15_3.symm.trans hs12_6) | exact my_1a hr hpp hs15_3 hs12_3 | exact my_1b hr hpp hs15_3 hc3 | exact my_1a hr hpp hs12_6 hs12_3 | exact my_1b hr hpp hs12_6 hc3 | exact hs15_11.symm.trans (my_2 hr hpp hs15_3 hs15_7) | exact my_4 hr hpp hs15_15 | exact my_5 hr hpp hs15_3 hs15_7 hs15_15)] at hob
 refine WL_nil <| hK76 _ _ <| WC_region <| Zi rfl <| Zv (r_addI rfl rfl Om Om) <| Zi rfl <| WL_nil ?_
 exact hJ67 _ _ (p + 1) Za ⟨rfl, trivial⟩ ⟨hB, hm0_0, hm0_1, hm3_3, hon, hmay, hap, (by exact hoa), (by exact hob), hapb, Om, (upTo_succ hcl (by first | exact ncl_k hs12_3 | exact ncl_1 hs12_6 | exact ncl_0 hc3)), trivial⟩ Zo
 refine Zs <| Zs <| Zb rfl <| Zb rfl <| Zv (r_idxS (v := v7_1) rfl hob.sl rfl tb_el61 Om (by first | omega | (simp only [onTo_len, mayTo_len_, setF_len, flagsTo_len]; omega))) <| Zy (Y_storeE (v := v7_1) (u := .bool false) (a := _) (j := _) rfl rfl (.inl ⟨tb_sc4, rfl⟩) encB_len rfl rfl hob Om (by first | omega | (simp only [onTo_len, mayTo_len_, setF_len, flagsTo_len]; omega)) fun W143 hG144 hm145 => ?_)
 replace hB := ZG hB hG144 hob
 replace hm0_0 := At.grownOw hm0_0 hob hG144 Dc
 replace hm0_1 := At.grownOw hm0_1 hob hG144 Dc
 replace hm3_3 := At.grownOw hm3_3 hob hG144 Dc
 replace hon := OwT.grownOw hon hob hG144 Dc
 replace hmay := OwT.grownOw hmay hob hG144 Dc
 replace hoa := OwT.grownAp hoa (Apart.symm hapb) hG144
 clear hG144 hob
 replace hob := hm145
 rw [setF_put (f := fun p => (mayT T o).testBit p) (by first | exact Bool.noConfusion (hs12_6.symm.trans hs15_3) | exact Bool.noConfusion (hs15_3.symm.trans hs12_6) | exact my_1a hr hpp hs15_3 hs12_3 | exact my_1b hr hpp hs15_3 hc3 | exact my_1a hr hpp hs12_6 hs12_3 | exact my_1b hr hpp hs12_6 hc3 | exact hs15_11.symm.trans (my_2 hr hpp hs15_3 hs15_7) | exact my_4 hr hpp hs15_15 | exact my_5 hr hpp hs15_3 hs15_7 hs15_15)] at hob
 refine WL_nil <| hK76 _ _ <| WC_region <| Zi rfl <| Zv (r_addI rfl rfl Om Om) <| Zi rfl <| WL_nil ?_
 exact hJ67 _ _ (p + 1) Za ⟨rfl, trivial⟩ ⟨hB, hm0_0, hm0_1, hm3_3, hon, hmay, hap, (by exact hoa), (by exact hob), hapb, Om, (upTo_succ hcl (by first | exact ncl_k hs12_3 | exact ncl_1 hs12_6 | exact ncl_0 hc3)), trivial⟩ Zo
 refine Zs <| Zb rfl <| Zb rfl <| Zs <| Zb rfl <| WL_nil <| WC_cond_false rfl <| WC_skip <| hK92 _ _ <| Zr <| Zw v7_0 rfl <| Zi rfl <| Zb rfl <| Zv (r_idxS (v := v7_0) rfl hoa.sl rfl tb_el61 Om (by first | omega | (simp only [onTo_len, mayTo_len_, setF_len, flagsTo_len]; omega))) ?_
 refine Zy (Y_storeE (v := v7_0) (u := .bool _) (a := _) (j := _) rfl rfl (.inl ⟨tb_sc4, rfl⟩) encB_len rfl rfl hoa Om (by first | omega | (simp only [onTo_len, mayTo_len_, setF_len, flagsTo_len]; omega)) fun W148 hG149 hm150 => ?_)
 replace hB := ZG hB hG149 hoa
 replace hm0_0 := At.grownOw hm0_0 hoa hG149 Dc
 replace hm0_1 := At.grownOw hm0_1 hoa hG149 Dc
 replace hm3_3 := At.grownOw hm3_3 hoa hG149 Dc
 replace hon := OwT.grownOw hon hoa hG149 Dc
 replace hmay := OwT.grownOw hmay hoa hG149 Dc
 replace hob := OwT.grownAp hob hapb hG149
 clear hG149 hoa
 replace hoa := hm150
 rw [setF_put (f := fun p => (mkS T o 1).testBit p) (by first | rfl | exact hs12_6.symm | exact hs15_3.symm)] at hoa
 refine WL_nil <| WC_region <| Zw v7_1 rfl <| Zi rfl <| Zb rfl <| ZX rfl (fun hs15_3 => ?_) fun hs15_3 => ?_
 refine Zs <| Zs <| Zs <| Zs <| Zs <| Zs <| Zb rfl <| Zb rfl <| Zs <| Zs <| Zs <| Zs <| Zs <| Zs ?_
 refine Zs <| Zb rfl <| Zv (r_idxS (v := v7_1) rfl hob.sl rfl tb_el61 Om (by first | omega | (simp only [onTo_len, mayTo_len_, setF_len, flagsTo_len]; omega))) <| Zy (Y_storeE (v := v7_1) (u := .bool true) (a := _) (j := _) rfl rfl (.inl ⟨tb_sc4, rfl⟩) encB_len rfl rfl hob Om (by first | omega | (simp only [onTo_len, mayTo_len_, setF_len, flagsTo_len]; omega)) fun W151 hG152 hm153 => ?_)
 replace hB := ZG hB hG152 hob
 replace hm0_0 := At.grownOw hm0_0 hob hG152 Dc
 replace hm0_1 := At.grownOw hm0_1 hob hG152 Dc
 replace hm3_3 := At.grownOw hm3_3 hob hG152 Dc
 replace hon := OwT.grownOw hon hob hG152 Dc
 replace hmay := OwT.grownOw hmay hob hG152 Dc
 replace hoa := OwT.grownAp hoa (Apart.symm hapb) hG152
 clear hG152 hob
 replace hob := hm153
 rw [setF_put (f := fun p => (mayT T o).testBit p) (by first | exact Bool.noConfusion (hs12_6.symm.trans hs15_3) | exact Bool.noConfusion (hs15_3.symm.trans hs12_6) | exact my_1a hr hpp hs15_3 hs12_3 | exact my_1b hr hpp hs15_3 hc3 | exact my_1a hr hpp hs12_6 hs12_3 | exact my_1b hr hpp hs12_6 hc3 | exact hs15_11.symm.trans (my_2 hr hpp hs15_3 hs15_7) | exact my_4 hr hpp hs15_15 | exact my_5 hr hpp hs15_3 hs15_7 hs15_15)] at hob
 refine WL_nil <| hK76 _ _ <| WC_region <| Zi rfl <| Zv (r_addI rfl rfl Om Om) <| Zi rfl <| WL_nil ?_
 exact hJ67 _ _ (p + 1) Za ⟨rfl, trivial⟩ ⟨hB, hm0_0, hm0_1, hm3_3, hon, hmay, hap, (by exact hoa), (by exact hob), hapb, Om, (upTo_succ hcl (by first | exact ncl_k hs12_3 | exact ncl_1 hs12_6 | exact ncl_0 hc3)), trivial⟩ Zo
 refine Zf rfl tb_fo24_0 <| Zl rfl tb_sc3 hm0_0 rfl <| Zv (r_eql rfl rfl) <| ZX rfl (fun hs15_7 => ?_) fun hs15_7 => ?_
 refine Zb rfl <| Zb rfl <| Zb rfl <| ZX rfl (fun hs15_11 => ?_) fun hs15_11 => ?_
 refine Zs <| Zs <| Zs <| Zs <| Zs <| Zs <| Zs <| Zb rfl <| Zv (r_idxS (v := v7_1) rfl hob.sl rfl tb_el61 Om (by first | omega | (simp only [onTo_len, mayTo_len_, setF_len, flagsTo_len]; omega))) <| Zy (Y_storeE (v := v7_1) (u := .bool true) (a := _) (j := _) rfl rfl (.inl ⟨tb_sc4, rfl⟩) encB_len rfl rfl hob Om (by first | omega | (simp only [onTo_len, mayTo_len_, setF_len, flagsTo_len]; omega)) fun W154 hG155 hm156 => ?_)
 replace hB := ZG hB hG155 hob
 replace hm0_0 := At.grownOw hm0_0 hob hG155 Dc
 replace hm0_1 := At.grownOw hm0_1 hob hG155 Dc
 replace hm3_3 := At.grownOw hm3_3 hob hG155 Dc
 replace hon := OwT.grownOw hon hob hG155 Dc
 replace hmay := OwT.grownOw hmay hob hG155 Dc
 replace hoa := OwT.grownAp hoa (Apart.symm hapb) hG155
 clear hG155 hob
 replace hob := hm156
 rw [setF_put (f := fun p => (mayT T o).testBit p) (by first | exact Bool.noConfusion (hs12_6.symm.trans hs15_3) | exact Bool.noConfusion (hs15_3.symm.trans hs12_6) | exact my_1a hr hpp hs15_3 hs12_3 | exact my_1b hr hpp hs15_3 hc3 | exact my_1a hr hpp hs12_6 hs12_3 | exact my_1b hr hpp hs12_6 hc3 | exact hs15_11.symm.trans (my_2 hr hpp hs15_3 hs15_7) | exact my_4 hr hpp hs15_15 | exact my_5 hr hpp hs15_3 hs15_7 hs15_15)] at hob
 refine WL_nil <| hK76 _ _ <| WC_region <| Zi rfl <| Zv (r_addI rfl rfl Om Om) <| Zi rfl <| WL_nil ?_
 exact hJ67 _ _ (p + 1) Za ⟨rfl, trivial⟩ ⟨hB, hm0_0, hm0_1, hm3_3, hon, hmay, hap, (by exact hoa), (by exact hob), hapb, Om, (upTo_succ hcl (by first | exact ncl_k hs12_3 | exact ncl_1 hs12_6 | exact ncl_0 hc3)), trivial⟩ Zo
 refine Zf rfl tb_fo24_0 <| Zl rfl tb_sc3 hm0_0 rfl <| Zv (r_geq rfl rfl) <| ZX rfl (fun hs15_15 => ?_) fun hs15_15 => ?_
 refine Zb rfl <| Zv (r_not rfl) <| Zb rfl <| Zb rfl <| Zv (r_idxS (v := v7_1) rfl hob.sl rfl tb_el61 Om (by first | omega | (simp only [onTo_len, mayTo_len_, setF_len, flagsTo_len]; omega))) <| Zy (Y_storeE (v := v7_1) (u := .bool _) (a := _) (j := _) rfl rfl (.inl ⟨tb_sc4, rfl⟩) encB_len rfl rfl hob Om (by first | omega | (simp only [onTo_len, mayTo_len_, setF_len, flagsTo_len]; omega)) fun W157 hG158 hm159 => ?_)
 replace hB := ZG hB hG158 hob
 replace hm0_0 := At.grownOw hm0_0 hob hG158 Dc
 replace hm0_1 := At.grownOw hm0_1 hob hG158 Dc
 replace hm3_3 := At.grownOw hm3_3 hob hG158 Dc
 replace hon := OwT.grownOw hon hob hG158 Dc
 replace hmay := OwT.grownOw hmay hob hG158 Dc
 replace hoa := OwT.grownAp hoa (Apart.symm hapb) hG158
 clear hG158 hob
 replace hob := hm159
 rw [setF_put (f := fun p => (mayT T o).testBit p) (by first | exact Bool.noConfusion (hs12_6.symm.trans hs15_3) | exact Bool.noConfusion (hs15_3.symm.trans hs12_6) | exact my_1a hr hpp hs15_3 hs12_3 | exact my_1b hr hpp hs15_3 hc3 | exact my_1a hr hpp hs12_6 hs12_3 | exact my_1b hr hpp hs12_6 hc3 | exact hs15_11.symm.trans (my_2 hr hpp hs15_3 hs15_7) | exact my_4 hr hpp hs15_15 | exact my_5 hr hpp hs15_3 hs15_7 hs15_15)] at hob
 refine WL_nil <| hK76 _ _ <| WC_region <| Zi rfl <| Zv (r_addI rfl rfl Om Om) <| Zi rfl <| WL_nil ?_
 exact hJ67 _ _ (p + 1) Za ⟨rfl, trivial⟩ ⟨hB, hm0_0, hm0_1, hm3_3, hon, hmay, hap, (by exact hoa), (by exact hob), hapb, Om, (upTo_succ hcl (by first | exact ncl_k hs12_3 | exact ncl_1 hs12_6 | exact ncl_0 hc3)), trivial⟩ Zo
 refine Zs <| Zs <| Zb rfl <| Zb rfl <| Zv (r_idxS (v := v7_1) rfl hob.sl rfl tb_el61 Om (by first | omega | (simp only [onTo_len, mayTo_len_, setF_len, flagsTo_len]; omega))) <| Zy (Y_storeE (v := v7_1) (u := .bool false) (a := _) (j := _) rfl rfl (.inl ⟨tb_sc4, rfl⟩) encB_len rfl rfl hob Om (by first | omega | (simp only [onTo_len, mayTo_len_, setF_len, flagsTo_len]; omega)) fun W160 hG161 hm162 => ?_)
 replace hB := ZG hB hG161 hob
 replace hm0_0 := At.grownOw hm0_0 hob hG161 Dc
 replace hm0_1 := At.grownOw hm0_1 hob hG161 Dc
 replace hm3_3 := At.grownOw hm3_3 hob hG161 Dc
 replace hon := OwT.grownOw hon hob hG161 Dc
 replace hmay := OwT.grownOw hmay hob hG161 Dc
 replace hoa := OwT.grownAp hoa (Apart.symm hapb) hG161
 clear hG161 hob
 replace hob := hm162
 rw [setF_put (f := fun p => (mayT T o).testBit p) (by first | exact Bool.noConfusion (hs12_6.symm.trans hs15_3) | exact Bool.noConfusion (hs15_3.symm.trans hs12_6) | exact my_1a hr hpp hs15_3 hs12_3 | exact my_1b hr hpp hs15_3 hc3 | exact my_1a hr hpp hs12_6 hs12_3 | exact my_1b hr hpp hs12_6 hc3 | exact hs15_11.symm.trans (my_2 hr hpp hs15_3 hs15_7) | exact my_4 hr hpp hs15_15 | exact my_5 hr hpp hs15_3 hs15_7 hs15_15)] at hob
 refine WL_nil <| hK76 _ _ <| WC_region <| Zi rfl <| Zv (r_addI rfl rfl Om Om) <| Zi rfl <| WL_nil ?_
 exact hJ67 _ _ (p + 1) Za ⟨rfl, trivial⟩ ⟨hB, hm0_0, hm0_1, hm3_3, hon, hmay, hap, (by exact hoa), (by exact hob), hapb, Om, (upTo_succ hcl (by first | exact ncl_k hs12_3 | exact ncl_1 hs12_6 | exact ncl_0 hc3)), trivial⟩ Zo
 refine Zs <| Zb rfl <| Zb rfl <| Zb rfl <| Zf rfl tb_fo24_0 <| Zl rfl tb_sc3 hm0_0 rfl <| Zv (r_geq rfl rfl) <| ZX rfl (fun hs15_15 => ?_) fun hs15_15 => ?_
 refine Zb rfl <| Zv (r_not rfl) <| Zb rfl <| Zb rfl <| Zv (r_idxS (v := v7_1) rfl hob.sl rfl tb_el61 Om (by first | omega | (simp only [onTo_len, mayTo_len_, setF_len, flagsTo_len]; omega))) <| Zy (Y_storeE (v := v7_1) (u := .bool _) (a := _) (j := _) rfl rfl (.inl ⟨tb_sc4, rfl⟩) encB_len rfl rfl hob Om (by first | omega | (simp only [onTo_len, mayTo_len_, setF_len, flagsTo_len]; omega)) fun W163 hG164 hm165 => ?_)
 replace hB := ZG hB hG164 hob
 replace hm0_0 := At.grownOw hm0_0 hob hG164 Dc
 replace hm0_1 := At.grownOw hm0_1 hob hG164 Dc
 replace hm3_3 := At.grownOw hm3_3 hob hG164 Dc
 replace hon := OwT.grownOw hon hob hG164 Dc
 replace hmay := OwT.grownOw hmay hob hG164 Dc
 replace hoa := OwT.grownAp hoa (Apart.symm hapb) hG164
 clear hG164 hob
 replace hob := hm165
 rw [setF_put (f := fun p => (mayT T o).testBit p) (by first | exact Bool.noConfusion (hs12_6.symm.trans hs15_3) | exact Bool.noConfusion (hs15_3.symm.trans hs12_6) | exact my_1a hr hpp hs15_3 hs12_3 | exact my_1b hr hpp hs15_3 hc3 | exact my_1a hr hpp hs12_6 hs12_3 | exact my_1b hr hpp hs12_6 hc3 | exact hs15_11.symm.trans (my_2 hr hpp hs15_3 hs15_7) | exact my_4 hr hpp hs15_15 | exact my_5 hr hpp hs15_3 hs15_7 hs15_15)] at hob
 refine WL_nil <| hK76 _ _ <| WC_region <| Zi rfl <| Zv (r_addI rfl rfl Om Om) <| Zi rfl <| WL_nil ?_
 exact hJ67 _ _ (p + 1) Za ⟨rfl, trivial⟩ ⟨hB, hm0_0, hm0_1, hm3_3, hon, hmay, hap, (by exact hoa), (by exact hob), hapb, Om, (upTo_succ hcl (by first | exact ncl_k hs12_3 | exact ncl_1 hs12_6 | exact ncl_0 hc3)), trivial⟩ Zo
 refine Zs <| Zs <| Zb rfl <| Zb rfl <| Zv (r_idxS (v := v7_1) rfl hob.sl rfl tb_el61 Om (by first | omega | (simp only [onTo_len, mayTo_len_, setF_len, flagsTo_len]; omega))) <| Zy (Y_storeE (v := v7_1) (u := .bool false) (a := _) (j := _) rfl rfl (.inl ⟨tb_sc4, rfl⟩) encB_len rfl rfl hob Om (by first | omega | (simp only [onTo_len, mayTo_len_, setF_len, flagsTo_len]; omega)) fun W166 hG167 hm168 => ?_)
 replace hB := ZG hB hG167 hob
 replace hm0_0 := At.grownOw hm0_0 hob hG167 Dc
 replace hm0_1 := At.grownOw hm0_1 hob hG167 Dc
 replace hm3_3 := At.grownOw hm3_3 hob hG167 Dc
 replace hon := OwT.grownOw hon hob hG167 Dc
 replace hmay := OwT.grownOw hmay hob hG167 Dc
 replace hoa := OwT.grownAp hoa (Apart.symm hapb) hG167
 clear hG167 hob
 replace hob := hm168
 rw [setF_put (f := fun p => (mayT T o).testBit p) (by first | exact Bool.noConfusion (hs12_6.symm.trans hs15_3) | exact Bool.noConfusion (hs15_3.symm.trans hs12_6) | exact my_1a hr hpp hs15_3 hs12_3 | exact my_1b hr hpp hs15_3 hc3 | exact my_1a hr hpp hs12_6 hs12_3 | exact my_1b hr hpp hs12_6 hc3 | exact hs15_11.symm.trans (my_2 hr hpp hs15_3 hs15_7) | exact my_4 hr hpp hs15_15 | exact my_5 hr hpp hs15_3 hs15_7 hs15_15)] at hob
 refine WL_nil <| hK76 _ _ <| WC_region <| Zi rfl <| Zv (r_addI rfl rfl Om Om) <| Zi rfl <| WL_nil ?_
 exact hJ67 _ _ (p + 1) Za ⟨rfl, trivial⟩ ⟨hB, hm0_0, hm0_1, hm3_3, hon, hmay, hap, (by exact hoa), (by exact hob), hapb, Om, (upTo_succ hcl (by first | exact ncl_k hs12_3 | exact ncl_1 hs12_6 | exact ncl_0 hc3)), trivial⟩ Zo
 refine WC_exit <| hK61 _ _ ?_
 obtain rfl : p = 2 ^ T.ni.toNat := by omega
 rw [setF_two h256 (mkS_n hr)] at hoa
 rw [setF_two h256 (mayT_n hr)] at hob
 refine Zd (fun a b => a.grownBy b onv.ownBlock) fun W171 hE172 => ?_
 replace hB := Ze hB hE172
 replace hm0_0 := hE172.at hm0_0
 replace hm0_1 := hE172.at hm0_1
 replace hm3_3 := hE172.at hm3_3
 replace hon := hE172.ow hon
 replace hmay := hE172.ow hmay
 replace hoa := hE172.ow hoa
 replace hob := hE172.ow hob
 have hrow173 := hon
 have hS := World.grownBy.refl W171 onv.ownBlock
 refine Tf 0 rfl rfl tb_fo29_1 hS <| Tk 1 rfl (fun _ hq => r_load1 (v := onv) rfl tb_sc27 (At.cell (At.grownOw hm3_3 hrow173 hq Dc) rfl)) hS <| Tw 2 v7_0 rfl rfl hS <| To 3 rfl (TC tb_c25 (C_drawkniferef01_Set _ (flagsS (mkS T o 1)) _ hoa.sl (flagsTo_len _ _)) rfl fun v16_3 W174 hE175 hP16_3 => ⟨.inl (grownBy_trans hS (Ext.grown hE175 onv.ownBlock)), ?_⟩)
 replace hB := Ze hB hE175
 replace hm0_0 := hE175.at hm0_0
 replace hm0_1 := hE175.at hm0_1
 replace hm3_3 := hE175.at hm3_3
 replace hon := hE175.ow hon
 replace hmay := hE175.ow hmay
 replace hoa := hE175.ow hoa
 replace hob := hE175.ow hob
 replace hS := grownBy_trans hS (Ext.grown hE175 onv.ownBlock)
 rw [setV_flags] at hP16_3
 obtain rfl := hP16_3
 refine To 4 rfl (Y_lit1 (u := .agg #[_, _, _, _]) rfl tb_el27 tb_zs51 rfl Dc Dc fun b16_4 W178 hb179 hE180 hm16_4 => ⟨.inl (grownBy_trans hS (Ext.grown hE180 onv.ownBlock)), ?_⟩)
 have lo_b16_4 := ZO hb179 hB
 have no_onv_b16_4 := OwT.neB (b := b16_4) hon (Nat.le_of_eq hb179.symm)
 have no_mayv_b16_4 := OwT.neB (b := b16_4) hmay (Nat.le_of_eq hb179.symm)
 clear hb179
 replace hB := Ze hB hE180
 replace hm0_0 := hE180.at hm0_0
 replace hm0_1 := hE180.at hm0_1
 replace hm3_3 := hE180.at hm3_3
 replace hon := hE180.ow hon
 replace hmay := hE180.ow hmay
 replace hoa := hE180.ow hoa
 replace hob := hE180.ow hob
 replace hS := grownBy_trans hS (Ext.grown hE180 onv.ownBlock)
 refine To 5 rfl (Y_appendA (v := onv) (v2 := .slice (some ⟨b16_4, 0, none⟩) 1 1) rfl rfl tb_el27 tb_zs51 Dc hon (sl_lit1 hm16_4 rfl) rfl (by have := Below.size hB; omega) (by first | omega | (simp; omega) | (simp only [onTo_len, mayTo_len_, setF_len, flagsTo_len]; omega)) (by first | omega | (simp; omega) | (simp only [onTo_len, mayTo_len_, setF_len, flagsTo_len]; omega)) fun v16_5 W181 hG182 ho16_5 hob183 => ⟨.inl (grownBy_trans hS hG182), ?_⟩)
 replace hS := grownBy_trans hS hG182
 have hap184 := Apart.app hap hob183 hmay
 replace ho16_5 := OwT.snoc (enc := encS) (x := (mkS T o 1)) rfl rfl rfl rfl ho16_5
 replace hB := ZG hB hG182 hon
 replace hm0_0 := At.grownOw hm0_0 hon hG182 Dc
 replace hm0_1 := At.grownOw hm0_1 hon hG182 Dc
 replace hm3_3 := At.grownOw hm3_3 hon hG182 Dc
 replace hmay := OwT.grownAp hmay hap hG182
 replace hoa := OwT.grownOw hoa hon hG182 Dc
 replace hob := OwT.grownOw hob hon hG182 Dc
 clear hon
 refine Tf 6 rfl rfl tb_fo29_1 hS <| To 7 rfl (Y_store1 (v := v16_5) rfl rfl tb_sc27 (SlT.one ho16_5.sl) hm3_3 (by simp) fun W185 hG186 hm187 => ⟨.inr (by kernel_rfl), ?_⟩)
 replace hB := Zg hB hG186 lo_b3_3
 replace hm0_0 := At.grownAt hm0_0 hm3_3 hG186 Dc
 replace hm0_1 := At.grownNe hm0_1 ne_b0_1_b3_3 hG186
 replace hmay := OwT.grownAt hmay hm3_3 hG186 Dc
 replace hoa := OwT.grownAt hoa hm3_3 hG186 Dc
 replace hob := OwT.grownAt hob hm3_3 hG186 Dc
 replace ho16_5 := OwT.grownAt ho16_5 hm3_3 hG186 Dc
 replace hm3_3 := hm187
 replace hm3_3 : At _ _ #[_, _, _] _ := hm3_3
 refine Td ?_
 refine WC_draw (fun a b => a.grownBy b mayv.ownBlock) tb_mix (fun W188 hE189 => ?_)
 replace hB := Ze hB hE189
 replace hm0_0 := hE189.at hm0_0
 replace hm0_1 := hE189.at hm0_1
 replace hm3_3 := hE189.at hm3_3
 replace hmay := hE189.ow hmay
 replace hoa := hE189.ow hoa
 replace hob := hE189.ow hob
 replace ho16_5 := hE189.ow ho16_5
 have hrow190 := hmay
 have hS := World.grownBy.refl W188 mayv.ownBlock
 refine Tf 0 rfl rfl tb_fo29_2 hS <| Tk 1 rfl (fun _ hq => r_load1 (v := mayv) rfl tb_sc27 (At.cell (At.grownOw hm3_3 hrow190 hq Dc) rfl)) hS <| Tw 2 v7_1 rfl rfl hS <| To 3 rfl (TC tb_c25 (C_drawkniferef01_Set _ (flagsS (mayT T o)) _ hob.sl (flagsTo_len _ _)) rfl fun v17_3 W191 hE192 hP17_3 => ⟨.inl (grownBy_trans hS (Ext.grown hE192 mayv.ownBlock)), ?_⟩)
 replace hB := Ze hB hE192
 replace hm0_0 := hE192.at hm0_0
 replace hm0_1 := hE192.at hm0_1
 replace hm3_3 := hE192.at hm3_3
 replace hmay := hE192.ow hmay
 replace hoa := hE192.ow hoa
 replace hob := hE192.ow hob
 replace ho16_5 := hE192.ow ho16_5
 replace hS := grownBy_trans hS (Ext.grown hE192 mayv.ownBlock)
 rw [setV_flags] at hP17_3
 obtain rfl := hP17_3
 refine To 4 rfl (Y_lit1 (u := .agg #[_, _, _, _]) rfl tb_el27 tb_zs51 rfl Dc Dc fun b17_4 W195 hb196 hE197 hm17_4 => ⟨.inl (grownBy_trans hS (Ext.grown hE197 mayv.ownBlock)), ?_⟩)
 have lo_b17_4 := ZO hb196 hB
 have no_mayv_b17_4 := OwT.neB (b := b17_4) hmay (Nat.le_of_eq hb196.symm)
 have no_v16_5_b17_4 := OwT.neB (b := b17_4) ho16_5 (Nat.le_of_eq hb196.symm)
 clear hb196
 replace hB := Ze hB hE197
 replace hm0_0 := hE197.at hm0_0
 replace hm0_1 := hE197.at hm0_1
 replace hm3_3 := hE197.at hm3_3
 replace hmay := hE197.ow hmay
 replace hoa := hE197.ow hoa
 replace hob := hE197.ow hob
 replace ho16_5 := hE197.ow ho16_5
 replace hS := grownBy_trans hS (Ext.grown hE197 mayv.ownBlock)
 refine To 5 rfl (Y_appendA (v := mayv) (v2 := .slice (some ⟨b17_4, 0, none⟩) 1 1) rfl rfl tb_el27 tb_zs51 Dc hmay (sl_lit1 hm17_4 rfl) rfl (by have := Below.size hB; omega) (by first | omega | (simp; omega) | (simp only [onTo_len, mayTo_len_, setF_len, flagsTo_len]; omega)) (by first | omega | (simp; omega) | (simp only [onTo_len, mayTo_len_, setF_len, flagsTo_len]; omega)) fun v17_5 W198 hG199 ho17_5 hob200 => ⟨.inl (grownBy_trans hS hG199), ?_⟩)
 replace hS := grownBy_trans hS hG199
 have hap201 := Apart.app (Apart.symm hap184) hob200 ho16_5
 replace ho17_5 := OwT.snoc (enc := encS) (x := (mayT T o)) rfl rfl rfl rfl ho17_5
 replace hB := ZG hB hG199 hmay
 replace hm0_0 := At.grownOw hm0_0 hmay hG199 Dc
 replace hm0_1 := At.grownOw hm0_1 hmay hG199 Dc
 replace hm3_3 := At.grownOw hm3_3 hmay hG199 Dc
 replace hoa := OwT.grownOw hoa hmay hG199 Dc
 replace hob := OwT.grownOw hob hmay hG199 Dc
 replace ho16_5 := OwT.grownAp ho16_5 (Apart.symm hap184) hG199
 clear hmay
 refine Tf 6 rfl rfl tb_fo29_2 hS <| To 7 rfl (Y_store1 (v := v17_5) rfl rfl tb_sc27 (SlT.one ho17_5.sl) hm3_3 (by simp) fun W202 hG203 hm204 => ⟨.inr (by kernel_rfl), ?_⟩)
 replace hB := Zg hB hG203 lo_b3_3
 replace hm0_0 := At.grownAt hm0_0 hm3_3 hG203 Dc
 replace hm0_1 := At.grownNe hm0_1 ne_b0_1_b3_3 hG203
 replace hoa := OwT.grownAt hoa hm3_3 hG203 Dc
 replace hob := OwT.grownAt hob hm3_3 hG203 Dc
 replace ho16_5 := OwT.grownAt ho16_5 hm3_3 hG203 Dc
 replace ho17_5 := OwT.grownAt ho17_5 hm3_3 hG203 Dc
 replace hm3_3 := hm204
 replace hm3_3 : At _ _ #[_, _, _] _ := hm3_3
 refine Td <| hK42 _ _ <| WC_region <| Zi rfl <| Zv (r_addI rfl rfl Om Om) <| Zi rfl <| WL_nil ?_
 exact hJ36 _ _ ((o + 1, v16_5, v17_5)) Za ⟨rfl, trivial⟩ ⟨hB, hm0_0, hm0_1, (by exact hm3_3), (by rw [onTo_succ]; exact ho16_5), (by rw [mayTo_succ]; exact ho17_5), (Apart.symm hap201), Om, (upTo_succ hq (clash_no hr hcl)), trivial⟩ (by show T.no.toNat - (o + 1) < T.no.toNat - o; omega)
 replace ho7_1 := OwT.made encB_len false rfl Dc ho7_1
 replace hB := Ze hB hE52
 replace hm0_0 := hE52.at hm0_0
 replace hm0_1 := hE52.at hm0_1
 replace hm3_3 := hE52.at hm3_3
 replace hon := hE52.ow hon
 replace hmay := hE52.ow hmay
 replace hS := hS.trans hE52
 rw [setF_zero (fun p => (mayT T o).testBit p)] at ho7_1
 refine To 0 rfl (Y_make (n := 256) (N := W51.heap.size) rfl rfl tb_el61 tb_z4 Dc Dc (Nat.le_refl _) fun v7_0 W205 hE206 ho7_0 => ⟨.inl (hS.trans hE206), ?_⟩)
 replace ho7_0 := OwT.made encB_len false rfl Dc ho7_0
 have olt207 := OwT.lt2 ho7_1
 have hap209 : Apart v7_1 v7_0 := Apart.new olt207 ho7_0
 replace ho7_0 := OwT.mono ho7_0 (Below.size hB)
 replace hB := Ze hB hE206
 replace hm0_0 := hE206.at hm0_0
 replace hm0_1 := hE206.at hm0_1
 replace hm3_3 := hE206.at hm3_3
 replace hon := hE206.ow hon
 replace hmay := hE206.ow hmay
 replace ho7_1 := hE206.ow ho7_1
 replace hS := hS.trans hE206
 rw [setF_zero (fun p => (mkS T o 1).testBit p)] at ho7_0
 refine Tw 2 v7_0 rfl rfl hS <| Tw 3 v7_1 rfl rfl hS <| Td <| WC_seq fun K210 hK211 => Zr <| Zi rfl <| WL_nil <| WC_block ?_
 refine WC_loop (σ := (Nat)) [3, 8, 9, 10, 11, 27, 28, 29, 30, 31, 32, 33, 34, 35, 36, 37, 38, 39, 40, 41, 42, 43, 44, 45, 46, 47, 48, 49, 50, 51, 52, 53, 54, 55, 56, 57, 58, 59, 60, 61, 62, 63, 64, 65, 66, 67, 68, 69, 70, 71, 72, 73, 74, 75, 76, 77, 78, 79, 80] (fun p => [(8, .int .i64 (p : Int))]) (fun p W => (Below w.heap.size w W) ∧ (At W b0_0 _ 24) ∧ (At W b0_1 _ 29) ∧ (At W b3_3 _ 29) ∧ (OwT encS 4 51 W w.heap.size onv _) ∧ (OwT encS 4 51 W w.heap.size mayv _) ∧ (Apart onv mayv) ∧ (OwT encB 1 4 W w.heap.size v7_0 (setF (fun p => (mkS T o 1).testBit p) p)) ∧ (OwT encB 1 4 W w.heap.size v7_1 (setF (fun p => (mayT T o).testBit p) p)) ∧ (Apart v7_0 v7_1) ∧ (p ≤ 2 ^ T.ni.toNat) ∧ (∀ q, q < p → 2 ≤ T.kind → ((mkS T o 1).testBit q && (mkS T o 0).testBit q) = false) ∧ (True)) (fun p => 2 ^ T.ni.toNat - p) (0) ⟨rfl, trivial⟩ ⟨hB, hm0_0, hm0_1, hm3_3, hon, hmay, hap, ho7_0, ho7_1, (Apart.symm hap209), (Nat.zero_le _), upTo_zero, trivial⟩ ?_
 clear hB hm0_0 hm0_1 hm3_3 hon hmay hap ho7_1 hap209 ho7_0
 rintro p g215 W214 ⟨hB, hm0_0, hm0_1, hm3_3, hon, hmay, hap, hoa, hob, hapb, hp, hcl, _⟩ J216 hJ217
 refine WC_seq fun K218 hK219 => Zr <| Zi rfl <| Zf rfl tb_fo24_1 <| Zl rfl tb_sc3 hm0_0 rfl <| ZC tb_c23 (C_drawkniferef04_size _ _ (by first | assumption | omega) (by first | assumption | omega)) rfl fun v9_3 W222 hE223 hP9_3 => ?_
 replace hB := Ze hB hE223
 replace hm0_0 := hE223.at hm0_0
 replace hm0_1 := hE223.at hm0_1
 replace hm3_3 := hE223.at hm3_3
 replace hon := hE223.ow hon
 replace hmay := hE223.ow hmay
 replace hoa := hE223.ow hoa
 replace hob := hE223.ow hob
 obtain rfl := hP9_3
 refine Zv (r_lss rfl rfl) <| WL_nil <| ZQ rfl (fun hc2 => ?_) fun hc2 => ?_
 refine WC_skip <| hK219 _ _ <| WC_seq fun K225 hK226 => WC_block ?_
 have hpp : p < 2 ^ T.ni.toNat := by omega
 refine Zd Ext fun W229 hE230 => ?_
 replace hB := Ze hB hE230
 replace hm0_0 := hE230.at hm0_0
 replace hm0_1 := hE230.at hm0_1
 replace hm3_3 := hE230.at hm3_3
 replace hon := hE230.ow hon
 replace hmay := hE230.ow hmay
 replace hoa := hE230.ow hoa
 replace hob := hE230.ow hob
 have hS := Ext.refl W229
 refine Tk 0 rfl (fun _ hq => r_loadW rfl tb_ag24 rfl (hq.at hm0_0)) hS <| Ti 1 rfl rfl hS <| Ti 2 rfl rfl hS <| Tk 4 rfl (fun _ hq => r_loadW rfl tb_ag24 rfl (hq.at hm0_0)) hS <| Ti 5 rfl rfl hS <| Ti 6 rfl rfl hS <| Tk 8 rfl (fun _ hq => r_loadW rfl tb_ag24 rfl (hq.at hm0_0)) hS <| Ti 9 rfl rfl hS <| Ti 10 rfl rfl hS <| To 3 rfl (TC tb_c24 (C_drawkniferef04_Marked T _ vs p o 1 _ (Below.slT hB hlv) (LsAt.below hB hls) hmb hr hpp Om) rfl fun v11_3 W231 hE232 hP11_3 => ⟨.inl (hS.trans hE232), ?_⟩)
 replace hB := Ze hB hE232
 replace hm0_0 := hE232.at hm0_0
 replace hm0_1 := hE232.at hm0_1
 replace hm3_3 := hE232.at hm3_3
 replace hon := hE232.ow hon
 replace hmay := hE232.ow hmay
 replace hoa := hE232.ow hoa
 replace hob := hE232.ow hob
 replace hS := hS.trans hE232
 obtain rfl := hP11_3
 refine To 7 rfl (TC tb_c24 (C_drawkniferef04_Marked T _ vs p o 0 _ (Below.slT hB hlv) (LsAt.below hB hls) hmb hr hpp Om) rfl fun v11_7 W235 hE236 hP11_7 => ⟨.inl (hS.trans hE236), ?_⟩)
 replace hB := Ze hB hE236
 replace hm0_0 := hE236.at hm0_0
 replace hm0_1 := hE236.at hm0_1
 replace hm3_3 := hE236.at hm3_3
 replace hon := hE236.ow hon
 replace hmay := hE236.ow hmay
 replace hoa := hE236.ow hoa
 replace hob := hE236.ow hob
 replace hS := hS.trans hE236
 obtain rfl := hP11_7
 refine To 11 rfl (TC tb_c24 (C_drawkniferef04_Marked T _ vs p o 2 _ (Below.slT hB hlv) (LsAt.below hB hls) hmb hr hpp Om) rfl fun v11_11 W238 hE239 hP11_11 => ⟨.inl (hS.trans hE239), ?_⟩)
 replace hB := Ze hB hE239
 replace hm0_0 := hE239.at hm0_0
 replace hm0_1 := hE239.at hm0_1
 replace hm3_3 := hE239.at hm3_3
 replace hon := hE239.ow hon
 replace hmay := hE239.ow hmay
 replace hoa := hE239.ow hoa
 replace hob := hE239.ow hob
 replace hS := hS.trans hE239
 obtain rfl := hP11_11
 refine Ty 12 rfl rfl hS <| Ty 13 rfl rfl hS <| Ty 14 rfl rfl hS <| Td <| WC_seq fun K241 hK242 => Zr <| Zf rfl tb_fo24_0 <| Zl rfl tb_sc3 hm0_0 rfl <| Zv (r_geq rfl rfl) <| ZX rfl (fun hs12_3 => ?_) fun hs12_3 => ?_
 refine Zb rfl <| Zb rfl <| ZX rfl (fun hs12_6 => ?_) fun hs12_6 => ?_
 refine Zb rfl <| Zb rfl <| WL_nil <| ZQ rfl (fun hc3 => ?_) fun hc3 => ?_
 refine Zr <| Zv (tb_build29_ ) <| Zy (Y_storeW rfl rfl tb_ag29 rfl hm0_1 rfl rfl fun W247 hG248 hm249 => ?_)
 replace hB := Zg hB hG248 lo_b0_1
 replace hm0_0 := At.grownAt hm0_0 hm0_1 hG248 Dc
 replace hm3_3 := At.grownNe hm3_3 (Ne.symm ne_b0_1_b3_3) hG248
 replace hon := OwT.grownAt hon hm0_1 hG248 Dc
 replace hmay := OwT.grownAt hmay hm0_1 hG248 Dc
 replace hoa := OwT.grownAt hoa hm0_1 hG248 Dc
 replace hob := OwT.grownAt hob hm0_1 hG248 Dc
 replace hm0_1 := hm249
 refine Zi rfl <| WL_nil <| Zt <| ret_ct rfl tb_ag29 hm0_1 rfl (v1 := .int .i64 4) rfl ⟨hB, ?_⟩
 first | (rw [ofE_1 (by simpa using hc0)]; exact .inr ⟨by decide, rfl⟩) | (rw [ofE_4 (o := o) hr (by omega) (clash_y hs12_3 hs12_6 hc3)]; exact .inr ⟨by decide, rfl⟩) | (have ho2 : o = T.no.toNat := (by omega); subst ho2; exact .inl ⟨ofE_0 hr hq, onv, mayv, rfl, hon, hmay⟩)
 refine WC_skip <| hK242 _ _ <| Zr <| Zw v7_0 rfl <| Zi rfl <| Zb rfl <| Zv (r_idxS (v := v7_0) rfl hoa.sl rfl tb_el61 Om (by first | omega | (simp only [onTo_len, mayTo_len_, setF_len, flagsTo_len]; omega))) <| Zy (Y_storeE (v := v7_0) (u := .bool _) (a := _) (j := _) rfl rfl (.inl ⟨tb_sc4, rfl⟩) encB_len rfl rfl hoa Om (by first | omega | (simp only [onTo_len, mayTo_len_, setF_len, flagsTo_len]; omega)) fun W252 hG253 hm254 => ?_)
 replace hB := ZG hB hG253 hoa
 replace hm0_0 := At.grownOw hm0_0 hoa hG253 Dc
 replace hm0_1 := At.grownOw hm0_1 hoa hG253 Dc
 replace hm3_3 := At.grownOw hm3_3 hoa hG253 Dc
 replace hon := OwT.grownOw hon hoa hG253 Dc
 replace hmay := OwT.grownOw hmay hoa hG253 Dc
 replace hob := OwT.grownAp hob hapb hG253
 clear hG253 hoa
 replace hoa := hm254
 rw [setF_put (f := fun p => (mkS T o 1).testBit p) (by first | rfl | exact hs12_6.symm | exact hs15_3.symm)] at hoa
 refine WL_nil <| WC_region <| Zw v7_1 rfl <| Zi rfl <| Zb rfl <| ZX rfl (fun hs15_3 => ?_) fun hs15_3 => ?_
 refine Zs <| Zs <| Zs <| Zs <| Zs <| Zs <| Zb rfl <| Zb rfl <| Zs <| Zs <| Zs <| Zs <| Zs <| Zs ?_
 refine Zs <| Zb rfl <| Zv (r_idxS (v := v7_1) rfl hob.sl rfl tb_el61 Om (by first | omega | (simp only [onTo_len, mayTo_len_, setF_len, flagsTo_len]; omega))) <| Zy (Y_storeE (v := v7_1) (u := .bool true) (a := _) (j := _) rfl rfl (.inl ⟨tb_sc4, rfl⟩) encB_len rfl rfl hob Om (by first | omega | (simp only [onTo_len, mayTo_len_, setF_len, flagsTo_len]; omega)) fun W255 hG256 hm257 => ?_)
 replace hB := ZG hB hG256 hob
 replace hm0_0 := At.grownOw hm0_0 hob hG256 Dc
 replace hm0_1 := At.grownOw hm0_1 hob hG256 Dc
 replace hm3_3 := At.grownOw hm3_3 hob hG256 Dc
 replace hon := OwT.grownOw hon hob hG256 Dc
 replace hmay := OwT.grownOw hmay hob hG256 Dc
 replace hoa := OwT.grownAp hoa (Apart.symm hapb) hG256
 clear hG256 hob
 replace hob := hm257
 rw [setF_put (f := fun p => (mayT T o).testBit p) (by first | exact Bool.noConfusion (hs12_6.symm.trans hs15_3) | exact Bool.noConfusion (hs15_3.symm.trans hs12_6) | exact my_1a hr hpp hs15_3 hs12_3 | exact my_1b hr hpp hs15_3 hc3 | exact my_1a hr hpp hs12_6 hs12_3 | exact my_1b hr hpp hs12_6 hc3 | exact hs15_11.symm.trans (my_2 hr hpp hs15_3 hs15_7) | exact my_4 hr hpp hs15_15 | exact my_5 hr hpp hs15_3 hs15_7 hs15_15)] at hob
 refine WL_nil <| hK226 _ _ <| WC_region <| Zi rfl <| Zv (r_addI rfl rfl Om Om) <| Zi rfl <| WL_nil ?_
 exact hJ217 _ _ (p + 1) Za ⟨rfl, trivial⟩ ⟨hB, hm0_0, hm0_1, hm3_3, hon, hmay, hap, (by exact hoa), (by exact hob), hapb, Om, (upTo_succ hcl (by first | exact ncl_k hs12_3 | exact ncl_1 hs12_6 | exact ncl_0 hc3)), trivial⟩ Zo
 refine Zf rfl tb_fo24_0 <| Zl rfl tb_sc3 hm0_0 rfl <| Zv (r_eql rfl rfl) <| ZX rfl (fun hs15_7 => ?_) fun hs15_7 => ?_
 refine Zb rfl <| Zb rfl <| Zb rfl <| ZX rfl (fun hs15_11 => ?_) fun hs15_11 => ?_
 refine Zs <| Zs <| Zs <| Zs <| Zs <| Zs <| Zs <| Zb rfl <| Zv (r_idxS (v := v7_1) rfl hob.sl rfl tb_el61 Om (by first | omega | (simp only [onTo_len, mayTo_len_, setF_len, flagsTo_len]; omega))) <| Zy (Y_storeE (v := v7_1) (u := .bool true) (a := _) (j := _) rfl rfl (.inl ⟨tb_sc4, rfl⟩) encB_len rfl rfl hob Om (by first | omega | (simp only [onTo_len, mayTo_len_, setF_len, flagsTo_len]; omega)) fun W258 hG259 hm260 => ?_)
 replace hB := ZG hB hG259 hob
 replace hm0_0 := At.grownOw hm0_0 hob hG259 Dc
 replace hm0_1 := At.grownOw hm0_1 hob hG259 Dc
 replace hm3_3 := At.grownOw hm3_3 hob hG259 Dc
 replace hon := OwT.grownOw hon hob hG259 Dc
 replace hmay := OwT.grownOw hmay hob hG259 Dc
 replace hoa := OwT.grownAp hoa (Apart.symm hapb) hG259
 clear hG259 hob
 replace hob := hm260
 rw [setF_put (f := fun p => (mayT T o).testBit p) (by first | exact Bool.noConfusion (hs12_6.symm.trans hs15_3) | exact Bool.noConfusion (hs15_3.symm.trans hs12_6) | exact my_1a hr hpp hs15_3 hs12_3 | exact my_1b hr hpp hs15_3 hc3 | exact my_1a hr hpp hs12_6 hs12_3 | exact my_1b hr hpp hs12_6 hc3 | exact hs15_11.symm.trans (my_2 hr hpp hs15_3 hs15_7) | exact my_4 hr hpp hs15_15 | exact my_5 hr hpp hs15_3 hs15_7 hs15_15)] at hob
 refine WL_nil <| hK226 _ _ <| WC_region <| Zi rfl <| Zv (r_addI rfl rfl Om Om) <| Zi rfl <| WL_nil ?_
 exact hJ217 _ _ (p + 1) Za ⟨rfl, trivial⟩ ⟨hB, hm0_0, hm0_1, hm3_3, hon, hmay, hap, (by exact hoa), (by exact hob), hapb, Om, (upTo_succ hcl (by first | exact ncl_k hs12_3 | exact ncl_1 hs12_6 | exact ncl_0 hc3)), trivial⟩ Zo
 refine Zf rfl tb_fo24_0 <| Zl rfl tb_sc3 hm0_0 rfl <| Zv (r_geq rfl rfl) <| ZX rfl (fun hs15_15 => ?_) fun hs15_15 => ?_
 refine Zb rfl <| Zv (r_not rfl) <| Zb rfl <| Zb rfl <| Zv (r_idxS (v := v7_1) rfl hob.sl rfl tb_el61 Om (by first | omega | (simp only [onTo_len, mayTo_len_, setF_len, flagsTo_len]; omega))) <| Zy (Y_storeE (v := v7_1) (u := .bool _) (a := _) (j := _) rfl rfl (.inl ⟨tb_sc4, rfl⟩) encB_len rfl rfl hob Om (by first | omega | (simp only [onTo_len, mayTo_len_, setF_len, flagsTo_len]; omega)) fun W261 hG262 hm263 => ?_)
 replace hB := ZG hB hG262 hob
 replace hm0_0 := At.grownOw hm0_0 hob hG262 Dc
 replace hm0_1 := At.grownOw hm0_1 hob hG262 Dc
 replace hm3_3 := At.grownOw hm3_3 hob hG262 Dc
 replace hon := OwT.grownOw hon hob hG262 Dc
 replace hmay := OwT.grownOw hmay hob hG262 Dc
 replace hoa := OwT.grownAp hoa (Apart.symm hapb) hG262
 clear hG262 hob
 replace hob := hm263
 rw [setF_put (f := fun p => (mayT T o).testBit p) (by first | exact Bool.noConfusion (hs12_6.symm.trans hs15_3) | exact Bool.noConfusion (hs15_3.symm.trans hs12_6) | exact my_1a hr hpp hs15_3 hs12_3 | exact my_1b hr hpp hs15_3 hc3 | exact my_1a hr hpp hs12_6 hs12_3 | exact my_1b hr hpp hs12_6 hc3 | exact hs15_11.symm.trans (my_2 hr hpp hs15_3 hs15_7) | exact my_4 hr hpp hs15_15 | exact my_5 hr hpp hs15_3 hs15_7 hs15_15)] at hob
 refine WL_nil <| hK226 _ _ <| WC_region <| Zi rfl <| Zv (r_addI rfl rfl Om Om) <| Zi rfl <| WL_nil ?_
 exact hJ217 _ _ (p + 1) Za ⟨rfl, trivial⟩ ⟨hB, hm0_0, hm0_1, hm3_3, hon, hmay, hap, (by exact hoa), (by exact hob), hapb, Om, (upTo_succ hcl (by first | exact ncl_k hs12_3 | exact ncl_1 hs12_6 | exact ncl_0 hc3)), trivial⟩ Zo
 refine Zs <| Zs <| Zb rfl <| Zb rfl <| Zv (r_idxS (v := v7_1) rfl hob.sl rfl tb_el61 Om (by first | omega | (simp only [onTo_len, mayTo_len_, setF_len, flagsTo_len]; omega))) <| Zy (Y_storeE (v := v7_1) (u := .bool false) (a := _) (j := _) rfl rfl (.inl ⟨tb_sc4, rfl⟩) encB_len rfl rfl hob Om (by first | omega | (simp only [onTo_len, mayTo_len_, setF_len, flagsTo_len]; omega)) fun W264 hG265 hm266 => ?_)
 replace hB := ZG hB hG265 hob
 replace hm0_0 := At.grownOw hm0_0 hob hG265 Dc
 replace hm0_1 := At.grownOw hm0_1 hob hG265 Dc
 replace hm3_3 := At.grownOw hm3_3 hob hG265 Dc
 replace hon := OwT.grownOw hon hob hG265 Dc
 replace hmay := OwT.grownOw hmay hob hG265 Dc
 replace hoa := OwT.grownAp hoa (Apart.symm hapb) hG265
 clear hG265 hob
 replace hob := hm266
 rw [setF_put (f := fun p => (mayT T o).testBit p) (by first | exact Bool.noConfusion (hs12_6.symm.trans hs15_3) | exact Bool.noConfusion (hs15_3.symm.trans hs12_6) | exact my_1a hr hpp hs15_3 hs12_3 | exact my_1b hr hpp hs15_3 hc3 | exact my_1a hr hpp hs12_6 hs12_3 | exact my_1b hr hpp hs12_6 hc3 | exact hs15_11.symm.trans (my_2 hr hpp hs15_3 hs15_7) | exact my_4 hr hpp hs15_15 | exact my_5 hr hpp hs15_3 hs15_7 hs15_15)] at hob
 refine WL_nil <| hK226 _ _ <| WC_region <| Zi rfl <| Zv (r_addI rfl rfl Om Om) <| Zi rfl <| WL_nil ?_
 exact hJ217 _ _ (p + 1) Za ⟨rfl, trivial⟩ ⟨hB, hm0_0, hm0_1, hm3_3, hon, hmay, hap, (by exact hoa), (by exact hob), hapb, Om, (upTo_succ hcl (by first | exact ncl_k hs12_3 | exact ncl_1 hs12_6 | exact ncl_0 hc3)), trivial⟩ Zo
 refine Zs <| Zb rfl <| Zb rfl <| Zb rfl <| Zf rfl tb_fo24_0 <| Zl rfl tb_sc3 hm0_0 rfl <| Zv (r_geq rfl rfl) <| ZX rfl (fun hs15_15 => ?_) fun hs15_15 => ?_
 refine Zb rfl <| Zv (r_not rfl) <| Zb rfl <| Zb rfl <| Zv (r_idxS (v := v7_1) rfl hob.sl rfl tb_el61 Om (by first | omega | (simp only [onTo_len, mayTo_len_, setF_len, flagsTo_len]; omega))) <| Zy (Y_storeE (v := v7_1) (u := .bool _) (a := _) (j := _) rfl rfl (.inl ⟨tb_sc4, rfl⟩) encB_len rfl rfl hob Om (by first | omega | (simp only [onTo_len, mayTo_len_, setF_len, flagsTo_len]; omega)) fun W267 hG268 hm269 => ?_)
 replace hB := ZG hB hG268 hob
 replace hm0_0 := At.grownOw hm0_0 hob hG268 Dc
 replace hm0_1 := At.grownOw hm0_1 hob hG268 Dc
 replace hm3_3 := At.grownOw hm3_3 hob hG268 Dc
 replace hon := OwT.grownOw hon hob hG268 Dc
 replace hmay := OwT.grownOw hmay hob hG268 Dc
 replace hoa := OwT.grownAp hoa (Apart.symm hapb) hG268
 clear hG268 hob
 replace hob := hm269
 rw [setF_put (f := fun p => (mayT T o).testBit p) (by first | exact Bool.noConfusion (hs12_6.symm.trans hs15_3) | exact Bool.noConfusion (hs15_3.symm.trans hs12_6) | exact my_1a hr hpp hs15_3 hs12_3 | exact my_1b hr hpp hs15_3 hc3 | exact my_1a hr hpp hs12_6 hs12_3 | exact my_1b hr hpp hs12_6 hc3 | exact hs15_11.symm.trans (my_2 hr hpp hs15_3 hs15_7) | exact my_4 hr hpp hs15_15 | exact my_5 hr hpp hs15_3 hs15_7 hs15_15)] at hob
 refine WL_nil <| hK226 _ _ <| WC_region <| Zi rfl <| Zv (r_addI rfl rfl Om Om) <| Zi rfl <| WL_nil ?_
 exact hJ217 _ _ (p + 1) Za ⟨rfl, trivial⟩ ⟨hB, hm0_0, hm0_1, hm3_3, hon, hmay, hap, (by exact hoa), (by exact hob), hapb, Om, (upTo_succ hcl (by first | exact ncl_k hs12_3 | exact ncl_1 hs12_6 | exact ncl_0 hc3)), trivial⟩ Zo
 refine Zs <| Zs <| Zb rfl <| Zb rfl <| Zv (r_idxS (v := v7_1) rfl hob.sl rfl tb_el61 Om (by first | omega | (simp only [onTo_len, mayTo_len_, setF_len, flagsTo_len]; omega))) <| Zy (Y_storeE (v := v7_1) (u := .bool false) (a := _) (j := _) rfl rfl (.inl ⟨tb_sc4, rfl⟩) encB_len rfl rfl hob Om (by first | omega | (simp only [onTo_len, mayTo_len_, setF_len, flagsTo_len]; omega)) fun W270 hG271 hm272 => ?_)
 replace hB := ZG hB hG271 hob
 replace hm0_0 := At.grownOw hm0_0 hob hG271 Dc
 replace hm0_1 := At.grownOw hm0_1 hob hG271 Dc
 replace hm3_3 := At.grownOw hm3_3 hob hG271 Dc
 replace hon := OwT.grownOw hon hob hG271 Dc
 replace hmay := OwT.grownOw hmay hob hG271 Dc
 replace hoa := OwT.grownAp hoa (Apart.symm hapb) hG271
 clear hG271 hob
 replace hob := hm272
 rw [setF_put (f := fun p => (mayT T o).testBit p) (by first | exact Bool.noConfusion (hs12_6.symm.trans hs15_3) | exact Bool.noConfusion (hs15_3.symm.trans hs12_6) | exact my_1a hr hpp hs15_3 hs12_3 | exact my_1b hr hpp hs15_3 hc3 | exact my_1a hr hpp hs12_6 hs12_3 | exact my_1b hr hpp hs12_6 hc3 | exact hs15_11.symm.trans (my_2 hr hpp hs15_3 hs15_7) | exact my_4 hr hpp hs15_15 | exact my_5 hr hpp hs15_3 hs15_7 hs15_15)] at hob
 refine WL_nil <| hK226 _ _ <| WC_region <| Zi rfl <| Zv (r_addI rfl rfl Om Om) <| Zi rfl <| WL_nil ?_
 exact hJ217 _ _ (p + 1) Za ⟨rfl, trivial⟩ ⟨hB, hm0_0, hm0_1, hm3_3, hon, hmay, hap, (by exact hoa), (by exact hob), hapb, Om, (upTo_succ hcl (by first | exact ncl_k hs12_3 | exact ncl_1 hs12_6 | exact ncl_0 hc3)), trivial⟩ Zo
 refine Zs <| Zb rfl <| WL_nil <| WC_cond_false rfl <| WC_skip <| hK242 _ _ <| Zr <| Zw v7_0 rfl <| Zi rfl <| Zb rfl <| Zv (r_idxS (v := v7_0) rfl hoa.sl rfl tb_el61 Om (by first | omega | (simp only [onTo_len, mayTo_len_, setF_len, flagsTo_len]; omega))) <| Zy (Y_storeE (v := v7_0) (u := .bool _) (a := _) (j := _) rfl rfl (.inl ⟨tb_sc4, rfl⟩) encB_len rfl rfl hoa Om (by first | omega | (simp only [onTo_len, mayTo_len_, setF_len, flagsTo_len]; omega)) fun W275 hG276 hm277 => ?_)
 replace hB := ZG hB hG276 hoa
 replace hm0_0 := At.grownOw hm0_0 hoa hG276 Dc
 replace hm0_1 := At.grownOw hm0_1 hoa hG276 Dc
 replace hm3_3 := At.grownOw hm3_3 hoa hG276 Dc
 replace hon := OwT.grownOw hon hoa hG276 Dc
 replace hmay := OwT.grownOw hmay hoa hG276 Dc
 replace hob := OwT.grownAp hob hapb hG276
 clear hG276 hoa
 replace hoa := hm277
 rw [setF_put (f := fun p => (mkS T o 1).testBit p) (by first | rfl | exact hs12_6.symm | exact hs15_3.symm)] at hoa
 refine WL_nil <| WC_region <| Zw v7_1 rfl <| Zi rfl <| Zb rfl <| ZX rfl (fun hs15_3 => ?_) fun hs15_3 => ?_
 refine Zs <| Zs <| Zs <| Zs <| Zs <| Zs <| Zb rfl <| Zb rfl <| Zs <| Zs <| Zs <| Zs <| Zs <| Zs ?_
 refine Zs <| Zb rfl <| Zv (r_idxS (v := v7_1) rfl hob.sl rfl tb_el61 Om (by first | omega | (simp only [onTo_len, mayTo_len_, setF_len, flagsTo_len]; omega))) <| Zy (Y_storeE (v := v7_1) (u := .bool true) (a := _) (j := _) rfl rfl (.inl ⟨tb_sc4, rfl⟩) encB_len rfl rfl hob Om (by first | omega | (simp only [onTo_len, mayTo_len_, setF_len, flagsTo_len]; omega)) fun W278 hG279 hm280 => ?_)
 replace hB := ZG hB hG279 hob
 replace hm0_0 := At.grownOw hm0_0 hob hG279 Dc
 replace hm0_1 := At.grownOw hm0_1 hob hG279 Dc
 replace hm3_3 := At.grownOw hm3_3 hob hG279 Dc
 replace hon := OwT.grownOw hon hob hG279 Dc
 replace hmay := OwT.grownOw hmay hob hG279 Dc
 replace hoa := OwT.grownAp hoa (Apart.symm hapb) hG279
 clear hG279 hob
 replace hob := hm280
 rw [setF_put (f := fun p => (mayT T o).testBit p) (by first | exact Bool.noConfusion (hs12_6.symm.trans hs15_3) | exact Bool.noConfusion (hs15_3.symm.trans hs12_6) | exact my_1a hr hpp hs15_3 hs12_3 | exact my_1b hr hpp hs15_3 hc3 | exact my_1a hr hpp hs12_6 hs12_3 | exact my_1b hr hpp hs12_6 hc3 | exact hs15_11.symm.trans (my_2 hr hpp hs15_3 hs15_7) | exact my_4 hr hpp hs15_15 | exact my_5 hr hpp hs15_3 hs15_7 hs15_15)] at hob
 refine WL_nil <| hK226 _ _ <| WC_region <| Zi rfl <| Zv (r_addI rfl rfl Om Om) <| Zi rfl <| WL_nil ?_
 exact hJ217 _ _ (p + 1) Za ⟨rfl, trivial⟩ ⟨hB, hm0_0, hm0_1, hm3_3, hon, hmay, hap, (by exact hoa), (by exact hob), hapb, Om, (upTo_succ hcl (by first | exact ncl_k hs12_3 | exact ncl_1 hs12_6 | exact ncl_0 hc3)), trivial⟩ Zo
 refine Zf rfl tb_fo24_0 <| Zl rfl tb_sc3 hm0_0 rfl <| Zv (r_eql rfl rfl) <| ZX rfl (fun hs15_7 => ?_) fun hs15_7 => ?_
 refine Zb rfl <| Zb rfl <| Zb rfl <| ZX rfl (fun hs15_11 => ?_) fun hs15_11 => ?_
 refine Zs <| Zs <| Zs <| Zs <| Zs <| Zs <| Zs <| Zb rfl <| Zv (r_idxS (v := v7_1) rfl hob.sl rfl tb_el61 Om (by first | omega | (simp only [onTo_len, mayTo_len_, setF_len, flagsTo_len]; omega))) <| Zy (Y_storeE (v := v7_1) (u := .bool true) (a := _) (j := _) rfl rfl (.inl ⟨tb_sc4, rfl⟩) encB_len rfl rfl hob Om (by first | omega | (simp only [onTo_len, mayTo_len_, setF_len, flagsTo_len]; omega)) fun W281 hG282 hm283 => ?_)
 replace hB := ZG hB hG282 hob
 replace hm0_0 := At.grownOw hm0_0 hob hG282 Dc
 replace hm0_1 := At.grownOw hm0_1 hob hG282 Dc
 replace hm3_3 := At.grownOw hm3_3 hob hG282 Dc
 replace hon := OwT.grownOw hon hob hG282 Dc
 replace hmay := OwT.grownOw hmay hob hG282 Dc
 replace hoa := OwT.grownAp hoa (Apart.symm hapb) hG282
 clear hG282 hob
 replace hob := hm283
 rw [setF_put (f := fun p => (mayT T o).testBit p) (by first | exact Bool.noConfusion (hs12_6.symm.trans hs15_3) | exact Bool.noConfusion (hs15_3.symm.trans hs12_6) | exact my_1a hr hpp hs15_3 hs12_3 | exact my_1b hr hpp hs15_3 hc3 | exact my_1a hr hpp hs12_6 hs12_3 | exact my_1b hr hpp hs12_6 hc3 | exact hs15_11.symm.trans (my_2 hr hpp hs15_3 hs15_7) | exact my_4 hr hpp hs15_15 | exact my_5 hr hpp hs15_3 hs15_7 hs15_15)] at hob
 refine WL_nil <| hK226 _ _ <| WC_region <| Zi rfl <| Zv (r_addI rfl rfl Om Om) <| Zi rfl <| WL_nil ?_
 exact hJ217 _ _ (p + 1) Za ⟨rfl, trivial⟩ ⟨hB, hm0_0, hm0_1, hm3_3, hon, hmay, hap, (by exact hoa), (by exact hob), hapb, Om, (upTo_succ hcl (by first | exact ncl_k hs12_3 | exact ncl_1 hs12_6 | exact ncl_0 hc3)), trivial⟩ Zo
 refine Zf rfl tb_fo24_0 <| Zl rfl tb_sc3 hm0_0 rfl <| Zv (r_geq rfl rfl) <| ZX rfl (fun hs15_15 => ?_) fun hs15_15 => ?_
 refine Zb rfl <| Zv (r_not rfl) <| Zb rfl <| Zb rfl <| Zv (r_idxS (v := v7_1) rfl hob.sl rfl tb_el61 Om (by first | omega | (simp only [onTo_len, mayTo_len_, setF_len, flagsTo_len]; omega))) <| Zy (Y_storeE (v := v7_1) (u := .bool _) (a := _) (j := _) rfl rfl (.inl ⟨tb_sc4, rfl⟩) encB_len rfl rfl hob Om (by first | omega | (simp only [onTo_len, mayTo_len_, setF_len, flagsTo_len]; omega)) fun W284 hG285 hm286 => ?_)
 replace hB := ZG hB hG285 hob
 replace hm0_0 := At.grownOw hm0_0 hob hG285 Dc
 replace hm0_1 := At.grownOw hm0_1 hob hG285 Dc
 replace hm3_3 := At.grownOw hm3_3 hob hG285 Dc
 replace hon := OwT.grownOw hon hob hG285 Dc
 replace hmay := OwT.grownOw hmay hob hG285 Dc
 replace hoa := OwT.grownAp hoa (Apart.symm hapb) hG285
 clear hG285 hob
 replace hob := hm286
 rw [setF_put (f := fun p => (mayT T o).testBit p) (by first | exact Bool.noConfusion (hs12_6.symm.trans hs15_3) | exact Bool.noConfusion (hs15_3.symm.trans hs12_6) | exact my_1a hr hpp hs15_3 hs12_3 | exact my_1b hr hpp hs15_3 hc3 | exact my_1a hr hpp hs12_6 hs12_3 | exact my_1b hr hpp hs12_6 hc3 | exact hs15_11.symm.trans (my_2 hr hpp hs15_3 hs15_7) | exact my_4 hr hpp hs15_15 | exact my_5 hr hpp hs15_3 hs15_7 hs15_15)] at hob
 refine WL_nil <| hK226 _ _ <| WC_region <| Zi rfl <| Zv (r_addI rfl rfl Om Om) <| Zi rfl <| WL_nil ?_
 exact hJ217 _ _ (p + 1) Za ⟨rfl, trivial⟩ ⟨hB, hm0_0, hm0_1, hm3_3, hon, hmay, hap, (by exact hoa), (by exact hob), hapb, Om, (upTo_succ hcl (by first | exact ncl_k hs12_3 | exact ncl_1 hs12_6 | exact ncl_0 hc3)), trivial⟩ Zo
 refine Zs <| Zs <| Zb rfl <| Zb rfl <| Zv (r_idxS (v := v7_1) rfl hob.sl rfl tb_el61 Om (by first | omega | (simp only [onTo_len, mayTo_len_, setF_len, flagsTo_len]; omega))) <| Zy (Y_storeE (v := v7_1) (u := .bool false) (a := _) (j := _) rfl rfl (.inl ⟨tb_sc4, rfl⟩) encB_len rfl rfl hob Om (by first | omega | (simp only [onTo_len, mayTo_len_, setF_len, flagsTo_len]; omega)) fun W287 hG288 hm289 => ?_)
 replace hB := ZG hB hG288 hob
 replace hm0_0 := At.grownOw hm0_0 hob hG288 Dc
 replace hm0_1 := At.grownOw hm0_1 hob hG288 Dc
 replace hm3_3 := At.grownOw hm3_3 hob hG288 Dc
 replace hon := OwT.grownOw hon hob hG288 Dc
 replace hmay := OwT.grownOw hmay hob hG288 Dc
 replace hoa := OwT.grownAp hoa (Apart.symm hapb) hG288
 clear hG288 hob
 replace hob := hm289
 rw [setF_put (f := fun p => (mayT T o).testBit p) (by first | exact Bool.noConfusion (hs12_6.symm.trans hs15_3) | exact Bool.noConfusion (hs15_3.symm.trans hs12_6) | exact my_1a hr hpp hs15_3 hs12_3 | exact my_1b hr hpp hs15_3 hc3 | exact my_1a hr hpp hs12_6 hs12_3 | exact my_1b hr hpp hs12_6 hc3 | exact hs15_11.symm.trans (my_2 hr hpp hs15_3 hs15_7) | exact my_4 hr hpp hs15_15 | exact my_5 hr hpp hs15_3 hs15_7 hs15_15)] at hob
 refine WL_nil <| hK226 _ _ <| WC_region <| Zi rfl <| Zv (r_addI rfl rfl Om Om) <| Zi rfl <| WL_nil ?_
 exact hJ217 _ _ (p + 1) Za ⟨rfl, trivial⟩ ⟨hB, hm0_0, hm0_1, hm3_3, hon, hmay, hap, (by exact hoa), (by exact hob), hapb, Om, (upTo_succ hcl (by first | exact ncl_k hs12_3 | exact ncl_1 hs12_6 | exact ncl_0 hc3)), trivial⟩ Zo
 refine Zs <| Zb rfl <| Zb rfl <| Zb rfl <| Zf rfl tb_fo24_0 <| Zl rfl tb_sc3 hm0_0 rfl <| Zv (r_geq rfl rfl) <| ZX rfl (fun hs15_15 => ?_) fun hs15_15 => ?_
 refine Zb rfl <| Zv (r_not rfl) <| Zb rfl <| Zb rfl <| Zv (r_idxS (v := v7_1) rfl hob.sl rfl tb_el61 Om (by first | omega | (simp only [onTo_len, mayTo_len_, setF_len, flagsTo_len]; omega))) <| Zy (Y_storeE (v := v7_1) (u := .bool _) (a := _) (j := _) rfl rfl (.inl ⟨tb_sc4, rfl⟩) encB_len rfl rfl hob Om (by first | omega | (simp only [onTo_len, mayTo_len_, setF_len, flagsTo_len]; omega)) fun W290 hG291 hm292 => ?_)
 replace hB := ZG hB hG291 hob
 replace hm0_0 := At.grownOw hm0_0 hob hG291 Dc
 replace hm0_1 := At.grownOw hm0_1 hob hG291 Dc
 replace hm3_3 := At.grownOw hm3_3 hob hG291 Dc
 replace hon := OwT.grownOw hon hob hG291 Dc
 replace hmay := OwT.grownOw hmay hob hG291 Dc
 replace hoa := OwT.grownAp hoa (Apart.symm hapb) hG291
 clear hG291 hob
 replace hob := hm292
 rw [setF_put (f := fun p => (mayT T o).testBit p) (by first | exact Bool.noConfusion (hs12_6.symm.trans hs15_3) | exact Bool.noConfusion (hs15_3.symm.trans hs12_6) | exact my_1a hr hpp hs15_3 hs12_3 | exact my_1b hr hpp hs15_3 hc3 | exact my_1a hr hpp hs12_6 hs12_3 | exact my_1b hr hpp hs12_6 hc3 | exact hs15_11.symm.trans (my_2 hr hpp hs15_3 hs15_7) | exact my_4 hr hpp hs15_15 | exact my_5 hr hpp hs15_3 hs15_7 hs15_15)] at hob
 refine WL_nil <| hK226 _ _ <| WC_region <| Zi rfl <| Zv (r_addI rfl rfl Om Om) <| Zi rfl <| WL_nil ?_
 exact hJ217 _ _ (p + 1) Za ⟨rfl, trivial⟩ ⟨hB, hm0_0, hm0_1, hm3_3, hon, hmay, hap, (by exact hoa), (by exact hob), hapb, Om, (upTo_succ hcl (by first | exact ncl_k hs12_3 | exact ncl_1 hs12_6 | exact ncl_0 hc3)), trivial⟩ Zo
 refine Zs <| Zs <| Zb rfl <| Zb rfl <| Zv (r_idxS (v := v7_1) rfl hob.sl rfl tb_el61 Om (by first | omega | (simp only [onTo_len, mayTo_len_, setF_len, flagsTo_len]; omega))) <| Zy (Y_storeE (v := v7_1) (u := .bool false) (a := _) (j := _) rfl rfl (.inl ⟨tb_sc4, rfl⟩) encB_len rfl rfl hob Om (by first | omega | (simp only [onTo_len, mayTo_len_, setF_len, flagsTo_len]; omega)) fun W293 hG294 hm295 => ?_)
 replace hB := ZG hB hG294 hob
 replace hm0_0 := At.grownOw hm0_0 hob hG294 Dc
 replace hm0_1 := At.grownOw hm0_1 hob hG294 Dc
 replace hm3_3 := At.grownOw hm3_3 hob hG294 Dc
 replace hon := OwT.grownOw hon hob hG294 Dc
 replace hmay := OwT.grownOw hmay hob hG294 Dc
 replace hoa := OwT.grownAp hoa (Apart.symm hapb) hG294
 clear hG294 hob
 replace hob := hm295
 rw [setF_put (f := fun p => (mayT T o).testBit p) (by first | exact Bool.noConfusion (hs12_6.symm.trans hs15_3) | exact Bool.noConfusion (hs15_3.symm.trans hs12_6) | exact my_1a hr hpp hs15_3 hs12_3 | exact my_1b hr hpp hs15_3 hc3 | exact my_1a hr hpp hs12_6 hs12_3 | exact my_1b hr hpp hs12_6 hc3 | exact hs15_11.symm.trans (my_2 hr hpp hs15_3 hs15_7) | exact my_4 hr hpp hs15_15 | exact my_5 hr hpp hs15_3 hs15_7 hs15_15)] at hob
 refine WL_nil <| hK226 _ _ <| WC_region <| Zi rfl <| Zv (r_addI rfl rfl Om Om) <| Zi rfl <| WL_nil ?_
 exact hJ217 _ _ (p + 1) Za ⟨rfl, trivial⟩ ⟨hB, hm0_0, hm0_1, hm3_3, hon, hmay, hap, (by exact hoa), (by exact hob), hapb, Om, (upTo_succ hcl (by first | exact ncl_k hs12_3 | exact ncl_1 hs12_6 | exact ncl_0 hc3)), trivial⟩ Zo
 refine Zs <| Zb rfl <| Zb rfl <| Zs <| Zb rfl <| WL_nil <| WC_cond_false rfl <| WC_skip <| hK242 _ _ <| Zr <| Zw v7_0 rfl <| Zi rfl <| Zb rfl <| Zv (r_idxS (v := v7_0) rfl hoa.sl rfl tb_el61 Om (by first | omega | (simp only [onTo_len, mayTo_len_, setF_len, flagsTo_len]; omega))) ?_
 refine Zy (Y_storeE (v := v7_0) (u := .bool _) (a := _) (j := _) rfl rfl (.inl ⟨tb_sc4, rfl⟩) encB_len rfl rfl hoa Om (by first | omega | (simp only [onTo_len, mayTo_len_, setF_len, flagsTo_len]; omega)) fun W298 hG299 hm300 => ?_)
 replace hB := ZG hB hG299 hoa
 replace hm0_0 := At.grownOw hm0_0 hoa hG299 Dc
 replace hm0_1 := At.grownOw hm0_1 hoa hG299 Dc
 replace hm3_3 := At.grownOw hm3_3 hoa hG299 Dc
 replace hon := OwT.grownOw hon hoa hG299 Dc
 replace hmay := OwT.grownOw hmay hoa hG299 Dc
 replace hob := OwT.grownAp hob hapb hG299
 clear hG299 hoa
 replace hoa := hm300
 rw [setF_put (f := fun p => (mkS T o 1).testBit p) (by first | rfl | exact hs12_6.symm | exact hs15_3.symm)] at hoa
 refine WL_nil <| WC_region <| Zw v7_1 rfl <| Zi rfl <| Zb rfl <| ZX rfl (fun hs15_3 => ?_) fun hs15_3 => ?_
 refine Zs <| Zs <| Zs <| Zs <| Zs <| Zs <| Zb rfl <| Zb rfl <| Zs <| Zs <| Zs <| Zs <| Zs <| Zs ?_
 refine Zs <| Zb rfl <| Zv (r_idxS (v := v7_1) rfl hob.sl rfl tb_el61 Om (by first | omega | (simp only [onTo_len, mayTo_len_, setF_len, flagsTo_len]; omega))) <| Zy (Y_storeE (v := v7_1) (u := .bool true) (a := _) (j := _) rfl rfl (.inl ⟨tb_sc4, rfl⟩) encB_len rfl rfl hob Om (by first | omega | (simp only [onTo_len, mayTo_len_, setF_len, flagsTo_len]; omega)) fun W301 hG302 hm303 => ?_)
 replace hB := ZG hB hG302 hob
 replace hm0_0 := At.grownOw hm0_0 hob hG302 Dc
 replace hm0_1 := At.grownOw hm0_1 hob hG302 Dc
 replace hm3_3 := At.grownOw hm3_3 hob hG302 Dc
 replace hon := OwT.grownOw hon hob hG302 Dc
 replace hmay := OwT.grownOw hmay hob hG302 Dc
 replace hoa := OwT.grownAp hoa (Apart.symm hapb) hG302
 clear hG302 hob
 replace hob := hm303
 rw [setF_put (f := fun p => (mayT T o).testBit p) (by first | exact Bool.noConfusion (hs12_6.symm.trans hs15_3) | exact Bool.noConfusion (hs15_3.symm.trans hs12_6) | exact my_1a hr hpp hs15_3 hs12_3 | exact my_1b hr hpp hs15_3 hc3 | exact my_1a hr hpp hs12_6 hs12_3 | exact my_1b hr hpp hs12_6 hc3 | exact hs15_11.symm.trans (my_2 hr hpp hs15_3 hs15_7) | exact my_4 hr hpp hs15_15 | exact my_5 hr hpp hs15_3 hs15_7 hs15_15)] at hob
 refine WL_nil <| hK226 _ _ <| WC_region <| Zi rfl <| Zv (r_addI rfl rfl Om Om) <| Zi rfl <| WL_nil ?_
 exact hJ217 _ _ (p + 1) Za ⟨rfl, trivial⟩ ⟨hB, hm0_0, hm0_1, hm3_3, hon, hmay, hap, (by exact hoa), (by exact hob), hapb, Om, (upTo_succ hcl (by first | exact ncl_k hs12_3 | exact ncl_1 hs12_6 | exact ncl_0 hc3)), trivial⟩ Zo
 refine Zf rfl tb_fo24_0 <| Zl rfl tb_sc3 hm0_0 rfl <| Zv (r_eql rfl rfl) <| ZX rfl (fun hs15_7 => ?_) fun hs15_7 => ?_
 refine Zb rfl <| Zb rfl <| Zb rfl <| ZX rfl (fun hs15_11 => ?_) fun hs15_11 => ?_
 refine Zs <| Zs <| Zs <| Zs <| Zs <| Zs <| Zs <| Zb rfl <| Zv (r_idxS (v := v7_1) rfl hob.sl rfl tb_el61 Om (by first | omega | (simp only [onTo_len, mayTo_len_, setF_len, flagsTo_len]; omega))) <| Zy (Y_storeE (v := v7_1) (u := .bool true) (a := _) (j := _) rfl rfl (.inl ⟨tb_sc4, rfl⟩) encB_len rfl rfl hob Om (by first | omega | (simp only [onTo_len, mayTo_len_, setF_len, flagsTo_len]; omega)) fun W304 hG305 hm306 => ?_)
 replace hB := ZG hB hG305 hob
 replace hm0_0 := At.grownOw hm0_0 hob hG305 Dc
 replace hm0_1 := At.grownOw hm0_1 hob hG305 Dc
 replace hm3_3 := At.grownOw hm3_3 hob hG305 Dc
 replace hon := OwT.grownOw hon hob hG305 Dc
 replace hmay := OwT.grownOw hmay hob hG305 Dc
 replace hoa := OwT.grownAp hoa (Apart.symm hapb) hG305
 clear hG305 hob
 replace hob := hm306
 rw [setF_put (f := fun p => (mayT T o).testBit p) (by first | exact Bool.noConfusion (hs12_6.symm.trans hs15_3) | exact Bool.noConfusion (hs15_3.symm.trans hs12_6) | exact my_1a hr hpp hs15_3 hs12_3 | exact my_1b hr hpp hs15_3 hc3 | exact my_1a hr hpp hs12_6 hs12_3 | exact my_1b hr hpp hs12_6 hc3 | exact hs15_11.symm.trans (my_2 hr hpp hs15_3 hs15_7) | exact my_4 hr hpp hs15_15 | exact my_5 hr hpp hs15_3 hs15_7 hs15_15)] at hob
 refine WL_nil <| hK226 _ _ <| WC_region <| Zi rfl <| Zv (r_addI rfl rfl Om Om) <| Zi rfl <| WL_nil ?_
 exact hJ217 _ _ (p + 1) Za ⟨rfl, trivial⟩ ⟨hB, hm0_0, hm0_1, hm3_3, hon, hmay, hap, (by exact hoa), (by exact hob), hapb, Om, (upTo_succ hcl (by first | exact ncl_k hs12_3 | exact ncl_1 hs12_6 | exact ncl_0 hc3)), trivial⟩ Zo
 refine Zf rfl tb_fo24_0 <| Zl rfl tb_sc3 hm0_0 rfl <| Zv (r_geq rfl rfl) <| ZX rfl (fun hs15_15 => ?_) fun hs15_15 => ?_
 refine Zb rfl <| Zv (r_not rfl) <| Zb rfl <| Zb rfl <| Zv (r_idxS (v := v7_1) rfl hob.sl rfl tb_el61 Om (by first | omega | (simp only [onTo_len, mayTo_len_, setF_len, flagsTo_len]; omega))) <| Zy (Y_storeE (v := v7_1) (u := .bool _) (a := _) (j := _) rfl rfl (.inl ⟨tb_sc4, rfl⟩) encB_len rfl rfl hob Om (by first | omega | (simp only [onTo_len, mayTo_len_, setF_len, flagsTo_len]; omega)) fun W307 hG308 hm309 => ?_)
 replace hB := ZG hB hG308 hob
 replace hm0_0 := At.grownOw hm0_0 hob hG308 Dc
 replace hm0_1 := At.grownOw hm0_1 hob hG308 Dc
 replace hm3_3 := At.grownOw hm3_3 hob hG308 Dc
 replace hon := OwT.grownOw hon hob hG308 Dc
 replace hmay := OwT.grownOw hmay hob hG308 Dc
 replace hoa := OwT.grownAp hoa (Apart.symm hapb) hG308
 clear hG308 hob
 replace hob := hm309
 rw [setF_put (f := fun p => (mayT T o).testBit p) (by first | exact Bool.noConfusion (hs12_6.symm.trans hs15_3) | exact Bool.noConfusion (hs15_3.symm.trans hs12_6) | exact my_1a hr hpp hs15_3 hs12_3 | exact my_1b hr hpp hs15_3 hc3 | exact my_1a hr hpp hs12_6 hs12_3 | exact my_1b hr hpp hs12_6 hc3 | exact hs15_11.symm.trans (my_2 hr hpp hs15_3 hs15_7) | exact my_4 hr hpp hs15_15 | exact my_5 hr hpp hs15_3 hs15_7 hs15_15)] at hob
 refine WL_nil <| hK226 _ _ <| WC_region <| Zi rfl <| Zv (r_addI rfl rfl Om Om) <| Zi rfl <| WL_nil ?_
 exact hJ217 _ _ (p + 1) Za ⟨rfl, trivial⟩ ⟨hB, hm0_0, hm0_1, hm3_3, hon, hmay, hap, (by exact hoa), (by exact hob), hapb, Om, (upTo_succ hcl (by first | exact ncl_k hs12_3 | exact ncl_1 hs12_6 | exact ncl_0 hc3)), trivial⟩ Zo
 refine Zs <| Zs <| Zb rfl <| Zb rfl <| Zv (r_idxS (v := v7_1) rfl hob.sl rfl tb_el61 Om (by first | omega | (simp only [onTo_len, mayTo_len_, setF_len, flagsTo_len]; omega))) <| Zy (Y_storeE (v := v7_1) (u := .bool false) (a := _) (j := _) rfl rfl (.inl ⟨tb_sc4, rfl⟩) encB_len rfl rfl hob Om (by first | omega | (simp only [onTo_len, mayTo_len_, setF_len, flagsTo_len]; omega)) fun W310 hG311 hm312 => ?_)
 replace hB := ZG hB hG311 hob
 replace hm0_0 := At.grownOw hm0_0 hob hG311 Dc
 replace hm0_1 := At.grownOw hm0_1 hob hG311 Dc
 replace hm3_3 := At.grownOw hm3_3 hob hG311 Dc
 replace hon := OwT.grownOw hon hob hG311 Dc
 replace hmay := OwT.grownOw hmay hob hG311 Dc
 replace hoa := OwT.grownAp hoa (Apart.symm hapb) hG311
 clear hG311 hob
 replace hob := hm312
 rw [setF_put (f := fun p => (mayT T o).testBit p) (by first | exact Bool.noConfusion (hs12_6.symm.trans hs15_3) | exact Bool.noConfusion (hs15_3.symm.trans hs12_6) | exact my_1a hr hpp hs15_3 hs12_3 | exact my_1b hr hpp hs15_3 hc3 | exact my_1a hr hpp hs12_6 hs12_3 | exact my_1b hr hpp hs12_6 hc3 | exact hs15_11.symm.trans (my_2 hr hpp hs15_3 hs15_7) | exact my_4 hr hpp hs15_15 | exact my_5 hr hpp hs15_3 hs15_7 hs15_15)] at hob
 refine WL_nil <| hK226 _ _ <| WC_region <| Zi rfl <| Zv (r_addI rfl rfl Om Om) <| Zi rfl <| WL_nil ?_
 exact hJ217 _ _ (p + 1) Za ⟨rfl, trivial⟩ ⟨hB, hm0_0, hm0_1, hm3_3, hon, hmay, hap, (by exact hoa), (by exact hob), hapb, Om, (upTo_succ hcl (by first | exact ncl_k hs12_3 | exact ncl_1 hs12_6 | exact ncl_0 hc3)), trivial⟩ Zo
 refine Zs <| Zb rfl <| Zb rfl <| Zb rfl <| Zf rfl tb_fo24_0 <| Zl rfl tb_sc3 hm0_0 rfl <| Zv (r_geq rfl rfl) <| ZX rfl (fun hs15_15 => ?_) fun hs15_15 => ?_
 refine Zb rfl <| Zv (r_not rfl) <| Zb rfl <| Zb rfl <| Zv (r_idxS (v := v7_1) rfl hob.sl rfl tb_el61 Om (by first | omega | (simp only [onTo_len, mayTo_len_, setF_len, flagsTo_len]; omega))) <| Zy (Y_storeE (v := v7_1) (u := .bool _) (a := _) (j := _) rfl rfl (.inl ⟨tb_sc4, rfl⟩) encB_len rfl rfl hob Om (by first | omega | (simp only [onTo_len, mayTo_len_, setF_len, flagsTo_len]; omega)) fun W313 hG314 hm315 => ?_)
 replace hB := ZG hB hG314 hob
 replace hm0_0 := At.grownOw hm0_0 hob hG314 Dc
 replace hm0_1 := At.grownOw hm0_1 hob hG314 Dc
 replace hm3_3 := At.grownOw hm3_3 hob hG314 Dc
 replace hon := OwT.grownOw hon hob hG314 Dc
 replace hmay := OwT.grownOw hmay hob hG314 Dc
 replace hoa := OwT.grownAp hoa (Apart.symm hapb) hG314
 clear hG314 hob
 replace hob := hm315
 rw [setF_put (f := fun p => (mayT T o).testBit p) (by first | exact Bool.noConfusion (hs12_6.symm.trans hs15_3) | exact Bool.noConfusion (hs15_3.symm.trans hs12_6) | exact my_1a hr hpp hs15_3 hs12_3 | exact my_1b hr hpp hs15_3 hc3 | exact my_1a hr hpp hs12_6 hs12_3 | exact my_1b hr hpp hs12_6 hc3 | exact hs15_11.symm.trans (my_2 hr hpp hs15_3 hs15_7) | exact my_4 hr hpp hs15_15 | exact my_5 hr hpp hs15_3 hs15_7 hs15_15)] at hob
 refine WL_nil <| hK226 _ _ <| WC_region <| Zi rfl <| Zv (r_addI rfl rfl Om Om) <| Zi rfl <| WL_nil ?_
 exact hJ217 _ _ (p + 1) Za ⟨rfl, trivial⟩ ⟨hB, hm0_0, hm0_1, hm3_3, hon, hmay, hap, (by exact hoa), (by exact hob), hapb, Om, (upTo_succ hcl (by first | exact ncl_k hs12_3 | exact ncl_1 hs12_6 | exact ncl_0 hc3)), trivial⟩ Zo
 refine Zs <| Zs <| Zb rfl <| Zb rfl <| Zv (r_idxS (v := v7_1) rfl hob.sl rfl tb_el61 Om (by first | omega | (simp only [onTo_len, mayTo_len_, setF_len, flagsTo_len]; omega))) <| Zy (Y_storeE (v := v7_1) (u := .bool false) (a := _) (j := _) rfl rfl (.inl ⟨tb_sc4, rfl⟩) encB_len rfl rfl hob Om (by first | omega | (simp only [onTo_len, mayTo_len_, setF_len, flagsTo_len]; omega)) fun W316 hG317 hm318 => ?_)
 replace hB := ZG hB hG317 hob
 replace hm0_0 := At.grownOw hm0_0 hob hG317 Dc
 replace hm0_1 := At.grownOw hm0_1 hob hG317 Dc
 replace hm3_3 := At.grownOw hm3_3 hob hG317 Dc
 replace hon := OwT.grownOw hon hob hG317 Dc
 replace hmay := OwT.grownOw hmay hob hG317 Dc
 replace hoa := OwT.grownAp hoa (Apart.symm hapb) hG317
 clear hG317 hob
 replace hob := hm318
 rw [setF_put (f := fun p => (mayT T o).testBit p) (by first | exact Bool.noConfusion (hs12_6.symm.trans hs15_3) | exact Bool.noConfusion (hs15_3.symm.trans hs12_6) | exact my_1a hr hpp hs15_3 hs12_3 | exact my_1b hr hpp hs15_3 hc3 | exact my_1a hr hpp hs12_6 hs12_3 | exact my_1b hr hpp hs12_6 hc3 | exact hs15_11.symm.trans (my_2 hr hpp hs15_3 hs15_7) | exact my_4 hr hpp hs15_15 | exact my_5 hr hpp hs15_3 hs15_7 hs15_15)] at hob
 refine WL_nil <| hK226 _ _ <| WC_region <| Zi rfl <| Zv (r_addI rfl rfl Om Om) <| Zi rfl <| WL_nil ?_
 exact hJ217 _ _ (p + 1) Za ⟨rfl, trivial⟩ ⟨hB, hm0_0, hm0_1, hm3_3, hon, hmay, hap, (by exact hoa), (by exact hob), hapb, Om, (upTo_succ hcl (by first | exact ncl_k hs12_3 | exact ncl_1 hs12_6 | exact ncl_0 hc3)), trivial⟩ Zo
 refine WC_exit <| hK211 _ _ ?_
 obtain rfl : p = 2 ^ T.ni.toNat := by omega
 rw [setF_two h256 (mkS_n hr)] at hoa
 rw [setF_two h256 (mayT_n hr)] at hob
 refine Zd (fun a b => a.grownBy b onv.ownBlock) fun W321 hE322 => ?_
 replace hB := Ze hB hE322
 replace hm0_0 := hE322.at hm0_0
 replace hm0_1 := hE322.at hm0_1
 replace hm3_3 := hE322.at hm3_3
 replace hon := hE322.ow hon
 replace hmay := hE322.ow hmay
 replace hoa := hE322.ow hoa
 replace hob := hE322.ow hob
 have hrow323 := hon
 have hS := World.grownBy.refl W321 onv.ownBlock
 refine Tf 0 rfl rfl tb_fo29_1 hS <| Tk 1 rfl (fun _ hq => r_load1 (v := onv) rfl tb_sc27 (At.cell (At.grownOw hm3_3 hrow323 hq Dc) rfl)) hS <| Tw 2 v7_0 rfl rfl hS <| To 3 rfl (TC tb_c25 (C_drawkniferef01_Set _ (flagsS (mkS T o 1)) _ hoa.sl (flagsTo_len _ _)) rfl fun v16_3 W324 hE325 hP16_3 => ⟨.inl (grownBy_trans hS (Ext.grown hE325 onv.ownBlock)), ?_⟩)
 replace hB := Ze hB hE325
 replace hm0_0 := hE325.at hm0_0
 replace hm0_1 := hE325.at hm0_1
 replace hm3_3 := hE325.at hm3_3
 replace hon := hE325.ow hon
 replace hmay := hE325.ow hmay
 replace hoa := hE325.ow hoa
 replace hob := hE325.ow hob
 replace hS := grownBy_trans hS (Ext.grown hE325 onv.ownBlock)
 rw [setV_flags] at hP16_3
 obtain rfl := hP16_3
 refine To 4 rfl (Y_lit1 (u := .agg #[_, _, _, _]) rfl tb_el27 tb_zs51 rfl Dc Dc fun b16_4 W328 hb329 hE330 hm16_4 => ⟨.inl (grownBy_trans hS (Ext.grown hE330 onv.ownBlock)), ?_⟩)
 have lo_b16_4 := ZO hb329 hB
 have no_onv_b16_4 := OwT.neB (b := b16_4) hon (Nat.le_of_eq hb329.symm)
 have no_mayv_b16_4 := OwT.neB (b := b16_4) hmay (Nat.le_of_eq hb329.symm)
 clear hb329
 replace hB := Ze hB hE330
 replace hm0_0 := hE330.at hm0_0
 replace hm0_1 := hE330.at hm0_1
 replace hm3_3 := hE330.at hm3_3
 replace hon := hE330.ow hon
 replace hmay := hE330.ow hmay
 replace hoa := hE330.ow hoa
 replace hob := hE330.ow hob
 replace hS := grownBy_trans hS (Ext.grown hE330 onv.ownBlock)
 refine To 5 rfl (Y_appendA (v := onv) (v2 := .slice (some ⟨b16_4, 0, none⟩) 1 1) rfl rfl tb_el27 tb_zs51 Dc hon (sl_lit1 hm16_4 rfl) rfl (by have := Below.size hB; omega) (by first | omega | (simp; omega) | (simp only [onTo_len, mayTo_len_, setF_len, flagsTo_len]; omega)) (by first | omega | (simp; omega) | (simp only [onTo_len, mayTo_len_, setF_len, flagsTo_len]; omega)) fun v16_5 W331 hG332 ho16_5 hob333 => ⟨.inl (grownBy_trans hS hG332), ?_⟩)
 replace hS := grownBy_trans hS hG332
 have hap334 := Apart.app hap hob333 hmay
 replace ho16_5 := OwT.snoc (enc := encS) (x := (mkS T o 1)) rfl rfl rfl rfl ho16_5
 replace hB := ZG hB hG332 hon
 replace hm0_0 := At.grownOw hm0_0 hon hG332 Dc
 replace hm0_1 := At.grownOw hm0_1 hon hG332 Dc
 replace hm3_3 := At.grownOw hm3_3 hon hG332 Dc
 replace hmay := OwT.grownAp hmay hap hG332
 replace hoa := OwT.grownOw hoa hon hG332 Dc
 replace hob := OwT.grownOw hob hon hG332 Dc
 clear hon
 refine Tf 6 rfl rfl tb_fo29_1 hS <| To 7 rfl (Y_store1 (v := v16_5) rfl rfl tb_sc27 (SlT.one ho16_5.sl) hm3_3 (by simp) fun W335 hG336 hm337 => ⟨.inr (by kernel_rfl), ?_⟩)
 replace hB := Zg hB hG336 lo_b3_3
 replace hm0_0 := At.grownAt hm0_0 hm3_3 hG336 Dc
 replace hm0_1 := At.grownNe hm0_1 ne_b0_1_b3_3 hG336
 replace hmay := OwT.grownAt hmay hm3_3 hG336 Dc
 replace hoa := OwT.grownAt hoa hm3_3 hG336 Dc
 replace hob := OwT.grownAt hob hm3_3 hG336 Dc
 replace ho16_5 := OwT.grownAt ho16_5 hm3_3 hG336 Dc
 replace hm3_3 := hm337
 replace hm3_3 : At _ _ #[_, _, _] _ := hm3_3
 refine Td ?_
 refine WC_draw (fun a b => a.grownBy b mayv.ownBlock) tb_mix (fun W338 hE339 => ?_)
 replace hB := Ze hB hE339
 replace hm0_0 := hE339.at hm0_0
 replace hm0_1 := hE339.at hm0_1
 replace hm3_3 := hE339.at hm3_3
 replace hmay := hE339.ow hmay
 replace hoa := hE339.ow hoa
 replace hob := hE339.ow hob
 replace ho16_5 := hE339.ow ho16_5
 have hrow340 := hmay
 have hS := World.grownBy.refl W338 mayv.ownBlock
 refine Tf 0 rfl rfl tb_fo29_2 hS <| Tk 1 rfl (fun _ hq => r_load1 (v := mayv) rfl tb_sc27 (At.cell (At.grownOw hm3_3 hrow340 hq Dc) rfl)) hS <| Tw 2 v7_1 rfl rfl hS <| To 3 rfl (TC tb_c25 (C_drawkniferef01_Set _ (flagsS (mayT T o)) _ hob.sl (flagsTo_len _ _)) rfl fun v17_3 W341 hE342 hP17_3 => ⟨.inl (grownBy_trans hS (Ext.grown hE342 mayv.ownBlock)), ?_⟩)
 replace hB := Ze hB hE342
 replace hm0_0 := hE342.at hm0_0
 replace hm0_1 := hE342.at hm0_1
 replace hm3_3 := hE342.at hm3_3
 replace hmay := hE342.ow hmay
 replace hoa := hE342.ow hoa
 replace hob := hE342.ow hob
 replace ho16_5 := hE342.ow ho16_5
 replace hS := grownBy_trans hS (Ext.grown hE342 mayv.ownBlock)
 rw [setV_flags] at hP17_3
 obtain rfl := hP17_3
 refine To 4 rfl (Y_lit1 (u := .agg #[_, _, _, _]) rfl tb_el27 tb_zs51 rfl Dc Dc fun b17_4 W345 hb346 hE347 hm17_4 => ⟨.inl (grownBy_trans hS (Ext.grown hE347 mayv.ownBlock)), ?_⟩)
 have lo_b17_4 := ZO hb346 hB
 have no_mayv_b17_4 := OwT.neB (b := b17_4) hmay (Nat.le_of_eq hb346.symm)
 have no_v16_5_b17_4 := OwT.neB (b := b17_4) ho16_5 (Nat.le_of_eq hb346.symm)
 clear hb346
 replace hB := Ze hB hE347
 replace hm0_0 := hE347.at hm0_0
 replace hm0_1 := hE347.at hm0_1
 replace hm3_3 := hE347.at hm3_3
 replace hmay := hE347.ow hmay
 replace hoa := hE347.ow hoa
 replace hob := hE347.ow hob
 replace ho16_5 := hE347.ow ho16_5
 replace hS := grownBy_trans hS (Ext.grown hE347 mayv.ownBlock)
 refine To 5 rfl (Y_appendA (v := mayv) (v2 := .slice (some ⟨b17_4, 0, none⟩) 1 1) rfl rfl tb_el27 tb_zs51 Dc hmay (sl_lit1 hm17_4 rfl) rfl (by have := Below.size hB; omega) (by first | omega | (simp; omega) | (simp only [onTo_len, mayTo_len_, setF_len, flagsTo_len]; omega)) (by first | omega | (simp; omega) | (simp only [onTo_len, mayTo_len_, setF_len, flagsTo_len]; omega)) fun v17_5 W348 hG349 ho17_5 hob350 => ⟨.inl (grownBy_trans hS hG349), ?_⟩)
 replace hS := grownBy_trans hS hG349
 have hap351 := Apart.app (Apart.symm hap334) hob350 ho16_5
 replace ho17_5 := OwT.snoc (enc := encS) (x := (mayT T o)) rfl rfl rfl rfl ho17_5
 replace hB := ZG hB hG349 hmay
 replace hm0_0 := At.grownOw hm0_0 hmay hG349 Dc
 replace hm0_1 := At.grownOw hm0_1 hmay hG349 Dc
 replace hm3_3 := At.grownOw hm3_3 hmay hG349 Dc
 replace hoa := OwT.grownOw hoa hmay hG349 Dc
 replace hob := OwT.grownOw hob hmay hG349 Dc
 replace ho16_5 := OwT.grownAp ho16_5 (Apart.symm hap334) hG349
 clear hmay
 refine Tf 6 rfl rfl tb_fo29_2 hS <| To 7 rfl (Y_store1 (v := v17_5) rfl rfl tb_sc27 (SlT.one ho17_5.sl) hm3_3 (by simp) fun W352 hG353 hm354 => ⟨.inr (by kernel_rfl), ?_⟩)
 replace hB := Zg hB hG353 lo_b3_3
 replace hm0_0 := At.grownAt hm0_0 hm3_3 hG353 Dc
 replace hm0_1 := At.grownNe hm0_1 ne_b0_1_b3_3 hG353
 replace hoa := OwT.grownAt hoa hm3_3 hG353 Dc
 replace hob := OwT.grownAt hob hm3_3 hG353 Dc
 replace ho16_5 := OwT.grownAt ho16_5 hm3_3 hG353 Dc
 replace ho17_5 := OwT.grownAt ho17_5 hm3_3 hG353 Dc
 replace hm3_3 := hm354
 replace hm3_3 : At _ _ #[_, _, _] _ := hm3_3
 refine Td <| hK42 _ _ <| WC_region <| Zi rfl <| Zv (r_addI rfl rfl Om Om) <| Zi rfl <| WL_nil ?_
 exact hJ36 _ _ ((o + 1, v16_5, v17_5)) Za ⟨rfl, trivial⟩ ⟨hB, hm0_0, hm0_1, (by exact hm3_3), (by rw [onTo_succ]; exact ho16_5), (by rw [mayTo_succ]; exact ho17_5), (Apart.symm hap351), Om, (upTo_succ hq (clash_no hr hcl)), trivial⟩ (by show T.no.toNat - (o + 1) < T.no.toNat - o; omega)
 refine WC_exit <| hK30 _ _ <| Zr <| Zv (r_loadW rfl tb_ag29 rfl hm3_3) <| Zy (Y_storeW rfl rfl tb_ag29 rfl hm0_1 rfl (by exact one_sp (SlT.one (OwT.sl hon)) (SlT.one (OwT.sl hmay))) fun W357 hG358 hm359 => ?_)
 replace hB := Zg hB hG358 lo_b0_1
 replace hm0_0 := At.grownAt hm0_0 hm0_1 hG358 Dc
 replace hm3_3 := At.grownNe hm3_3 (Ne.symm ne_b0_1_b3_3) hG358
 replace hon := OwT.grownAt hon hm0_1 hG358 Dc
 replace hmay := OwT.grownAt hmay hm0_1 hG358 Dc
 replace hm0_1 := hm359
 refine Zi rfl <| WL_nil <| Zt <| ret_ct rfl tb_ag29 hm0_1 rfl (v1 := .int .i64 0) rfl ⟨hB, ?_⟩
 first | (rw [ofE_1 (by simpa using hc0)]; exact .inr ⟨by decide, rfl⟩) | (rw [ofE_4 (o := o) hr (by omega) (clash_y hs12_3 hs12_6 hc3)]; exact .inr ⟨by decide, rfl⟩) | (have ho2 : o = T.no.toNat := (by omega); subst ho2; exact .inl ⟨ofE_0 hr hq, onv, mayv, rfl, hon, hmay⟩)

end Go.Proofs.YtnkaebjaeaecmaaGreatDoor
