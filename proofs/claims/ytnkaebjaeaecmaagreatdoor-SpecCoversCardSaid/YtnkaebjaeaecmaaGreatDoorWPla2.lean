/-
  The walks of package pla: its tables.
-/
import Derived.Test.YtnkaebjaeaecmaaGreatDoorProg
import Derived.Test.YtnkaebjaeaecmaaGreatDoorWPla
import Derived.Test.YtnkaebjaeaecmaaGreatDoorWCube
import Derived.Test.YtnkaebjaeaecmaaGreatDoorZip
namespace Go.Proofs.YtnkaebjaeaecmaaGreatDoor
set_option linter.unusedVariables false
set_option linter.unusedSimpArgs false
open Go Go.RowKit

theorem tb_fo24_0 : fieldO Tryz.prog 24 0 = some 0 := by kernel_rfl
theorem tb_fo24_1 : fieldO Tryz.prog 24 1 = some 1 := by kernel_rfl
theorem tb_fo24_2 : fieldO Tryz.prog 24 2 = some 2 := by kernel_rfl
theorem tb_fo24_3 : fieldO Tryz.prog 24 3 = some 3 := by kernel_rfl
theorem tb_sc22 : scalarB Tryz.prog 22 = true := by kernel_rfl
theorem tb_el22 : elemI Tryz.prog 22 = some (44, 3, 32) := by kernel_rfl
theorem tb_ag44 : aggN Tryz.prog 44 = some 3 := by kernel_rfl
theorem tb_z44 : zeroI Tryz.prog 44 = some (.agg #[.int .u8 0, .int .u8 0, .slice none 0 0]) := by kernel_rfl
theorem tb_fo44_0 : fieldO Tryz.prog 44 0 = some 0 := by kernel_rfl
theorem tb_fo44_1 : fieldO Tryz.prog 44 1 = some 2 := by kernel_rfl
theorem tb_sc42 : scalarB Tryz.prog 42 = true := by kernel_rfl
theorem tb_c47 : callB Tryz.prog 47 = true := by kernel_rfl

theorem C_pla_Right (T : Tb) (lv : Value) (vs : List LnV) (w : World) (hlv : SlT encLn 3 w lv vs) (hls : LsAt w vs T.ls) (hmb : ∀ i, i < T.ls.length → (T.ls.getD i ln0).c.m < 256 ∧ (T.ls.getD i ln0).c.v < 256) :
    Fn Tryz.prog 17 #[.agg #[.int .i64 T.kind, .int .i64 T.ni, .int .i64 T.no, lv]] w fun v w' => v = .bool (rightT T) := by
 refine Fn_intro (n := 77) Tryz.func17 rfl rfl (Nat.le_of_ble_eq_true rfl) ?_
 have hB : Below w.heap.size w w := Below.refl _ _
 have hle := hls.len
 refine Zr <| Zy (Y_box (c := #[_, _, _, _]) rfl rfl fun b0_0 W3 hb4 hE5 hm0_0 => ?_)
 have lo_b0_0 := ZO hb4 hB
 clear hb4
 replace hB := Ze hB hE5
 refine Zb rfl <| WL_nil <| WC_seq fun K6 hK7 => Zr <| Zf rfl tb_fo24_0 <| Zl rfl tb_sc3 hm0_0 rfl <| Zv (r_lss rfl rfl) <| ZX rfl (fun hs1_3 => ?_) fun hs1_3 => ?_
 refine Zs <| Zs <| Zs <| Zb rfl <| Zb rfl <| Zs <| Zs <| Zs <| Zb rfl <| Zb rfl <| Zs <| Zs <| Zs <| Zb rfl ?_
 refine Zb rfl <| Zs <| Zs <| Zs <| Zb rfl <| Zb rfl <| Zs <| Zs <| Zs <| Zb rfl <| Zb rfl <| Zs <| Zs <| Zs ?_
 refine Zs <| Zb rfl <| WL_nil <| WC_cond_true rfl <| Zr <| Zb rfl <| WL_nil <| Zt <| ret_t (v := .bool false) rfl ⟨hB, ?_⟩
 first | exact rightT_f (by omega) | exact rightT_k (k := k) (by omega) (ln_1 (by rw [← hck]; exact bool_t hs6_6)) | exact rightT_k (k := k) (by omega) (ln_2 hc2) | exact rightT_k (k := k) (by omega) (ln_3 (j := j) (by omega) (by have h1 : (T.ls.getD k ln0).os.getD j 0 < 0 := hs11_2; omega)) | exact rightT_k (k := k) (by omega) (ln_3 (j := j) (by omega) (by have h1 : (T.ls.getD k ln0).os.getD j 0 ≥ 3 := hc4; omega)) | exact rightT_t (by omega) (fun q hq' => hq q (by omega))
 refine Zf rfl tb_fo24_0 <| Zl rfl tb_sc3 hm0_0 rfl <| Zv (r_gtr rfl rfl) <| Zb rfl <| ZX rfl (fun hs1_8 => ?_) fun hs1_8 => ?_
 refine Zs <| Zs <| Zs <| Zb rfl <| Zb rfl <| Zs <| Zs <| Zs <| Zb rfl <| Zb rfl <| Zs <| Zs <| Zs <| Zb rfl ?_
 refine Zb rfl <| Zs <| Zs <| Zs <| Zb rfl <| Zb rfl <| Zs <| Zs <| Zs <| Zs <| Zb rfl <| WL_nil <| WC_cond_true rfl <| Zr ?_
 refine Zb rfl <| WL_nil <| Zt <| ret_t (v := .bool false) rfl ⟨hB, ?_⟩
 first | exact rightT_f (by omega) | exact rightT_k (k := k) (by omega) (ln_1 (by rw [← hck]; exact bool_t hs6_6)) | exact rightT_k (k := k) (by omega) (ln_2 hc2) | exact rightT_k (k := k) (by omega) (ln_3 (j := j) (by omega) (by have h1 : (T.ls.getD k ln0).os.getD j 0 < 0 := hs11_2; omega)) | exact rightT_k (k := k) (by omega) (ln_3 (j := j) (by omega) (by have h1 : (T.ls.getD k ln0).os.getD j 0 ≥ 3 := hc4; omega)) | exact rightT_t (by omega) (fun q hq' => hq q (by omega))
 refine Zf rfl tb_fo24_1 <| Zl rfl tb_sc3 hm0_0 rfl <| Zv (r_lss rfl rfl) <| Zb rfl <| ZX rfl (fun hs1_13 => ?_) fun hs1_13 => ?_
 refine Zs <| Zs <| Zs <| Zb rfl <| Zb rfl <| Zs <| Zs <| Zs <| Zb rfl <| Zb rfl <| Zs <| Zs <| Zs <| Zb rfl ?_
 refine Zb rfl <| Zs <| Zs <| Zs <| Zs <| Zb rfl <| WL_nil <| WC_cond_true rfl <| Zr <| Zb rfl <| WL_nil <| Zt <| ret_t (v := .bool false) rfl ⟨hB, ?_⟩
 first | exact rightT_f (by omega) | exact rightT_k (k := k) (by omega) (ln_1 (by rw [← hck]; exact bool_t hs6_6)) | exact rightT_k (k := k) (by omega) (ln_2 hc2) | exact rightT_k (k := k) (by omega) (ln_3 (j := j) (by omega) (by have h1 : (T.ls.getD k ln0).os.getD j 0 < 0 := hs11_2; omega)) | exact rightT_k (k := k) (by omega) (ln_3 (j := j) (by omega) (by have h1 : (T.ls.getD k ln0).os.getD j 0 ≥ 3 := hc4; omega)) | exact rightT_t (by omega) (fun q hq' => hq q (by omega))
 refine Zf rfl tb_fo24_1 <| Zl rfl tb_sc3 hm0_0 rfl <| Zv (r_gtr rfl rfl) <| Zb rfl <| ZX rfl (fun hs1_18 => ?_) fun hs1_18 => ?_
 refine Zs <| Zs <| Zs <| Zb rfl <| Zb rfl <| Zs <| Zs <| Zs <| Zb rfl <| Zb rfl <| Zs <| Zs <| Zs <| Zs ?_
 refine Zb rfl <| WL_nil <| WC_cond_true rfl <| Zr <| Zb rfl <| WL_nil <| Zt <| ret_t (v := .bool false) rfl ⟨hB, ?_⟩
 first | exact rightT_f (by omega) | exact rightT_k (k := k) (by omega) (ln_1 (by rw [← hck]; exact bool_t hs6_6)) | exact rightT_k (k := k) (by omega) (ln_2 hc2) | exact rightT_k (k := k) (by omega) (ln_3 (j := j) (by omega) (by have h1 : (T.ls.getD k ln0).os.getD j 0 < 0 := hs11_2; omega)) | exact rightT_k (k := k) (by omega) (ln_3 (j := j) (by omega) (by have h1 : (T.ls.getD k ln0).os.getD j 0 ≥ 3 := hc4; omega)) | exact rightT_t (by omega) (fun q hq' => hq q (by omega))
 refine Zf rfl tb_fo24_2 <| Zl rfl tb_sc3 hm0_0 rfl <| Zv (r_lss rfl rfl) <| Zb rfl <| ZX rfl (fun hs1_23 => ?_) fun hs1_23 => ?_
 refine Zs <| Zs <| Zs <| Zb rfl <| Zb rfl <| Zs <| Zs <| Zs <| Zs <| Zb rfl <| WL_nil <| WC_cond_true rfl <| Zr <| Zb rfl ?_
 refine WL_nil <| Zt <| ret_t (v := .bool false) rfl ⟨hB, ?_⟩
 first | exact rightT_f (by omega) | exact rightT_k (k := k) (by omega) (ln_1 (by rw [← hck]; exact bool_t hs6_6)) | exact rightT_k (k := k) (by omega) (ln_2 hc2) | exact rightT_k (k := k) (by omega) (ln_3 (j := j) (by omega) (by have h1 : (T.ls.getD k ln0).os.getD j 0 < 0 := hs11_2; omega)) | exact rightT_k (k := k) (by omega) (ln_3 (j := j) (by omega) (by have h1 : (T.ls.getD k ln0).os.getD j 0 ≥ 3 := hc4; omega)) | exact rightT_t (by omega) (fun q hq' => hq q (by omega))
 refine Zf rfl tb_fo24_2 <| Zl rfl tb_sc3 hm0_0 rfl <| Zv (r_gtr rfl rfl) <| Zb rfl <| ZX rfl (fun hs1_28 => ?_) fun hs1_28 => ?_
 refine Zs <| Zs <| Zs <| Zs <| Zb rfl <| WL_nil <| WC_cond_true rfl <| Zr <| Zb rfl <| WL_nil <| Zt <| ret_t (v := .bool false) rfl ⟨hB, ?_⟩
 first | exact rightT_f (by omega) | exact rightT_k (k := k) (by omega) (ln_1 (by rw [← hck]; exact bool_t hs6_6)) | exact rightT_k (k := k) (by omega) (ln_2 hc2) | exact rightT_k (k := k) (by omega) (ln_3 (j := j) (by omega) (by have h1 : (T.ls.getD k ln0).os.getD j 0 < 0 := hs11_2; omega)) | exact rightT_k (k := k) (by omega) (ln_3 (j := j) (by omega) (by have h1 : (T.ls.getD k ln0).os.getD j 0 ≥ 3 := hc4; omega)) | exact rightT_t (by omega) (fun q hq' => hq q (by omega))
 refine Zf rfl tb_fo24_3 <| ZL lv rfl tb_sc22 hm0_0 rfl <| Zv (r_lenS (v := lv) rfl (Below.slT hB hlv) tb_el22) <| Zv (r_gtr rfl rfl) <| Zb rfl <| WL_nil <| ZQ rfl (fun hc0 => ?_) fun hc0 => ?_
 refine Zr <| Zb rfl <| WL_nil <| Zt <| ret_t (v := .bool false) rfl ⟨hB, ?_⟩
 first | exact rightT_f (by omega) | exact rightT_k (k := k) (by omega) (ln_1 (by rw [← hck]; exact bool_t hs6_6)) | exact rightT_k (k := k) (by omega) (ln_2 hc2) | exact rightT_k (k := k) (by omega) (ln_3 (j := j) (by omega) (by have h1 : (T.ls.getD k ln0).os.getD j 0 < 0 := hs11_2; omega)) | exact rightT_k (k := k) (by omega) (ln_3 (j := j) (by omega) (by have h1 : (T.ls.getD k ln0).os.getD j 0 ≥ 3 := hc4; omega)) | exact rightT_t (by omega) (fun q hq' => hq q (by omega))
 refine WC_skip <| hK7 _ _ <| WC_seq fun K24 hK25 => Zr <| Zf rfl tb_fo24_3 <| ZL lv rfl tb_sc22 hm0_0 rfl <| Zv (r_lenS (v := lv) rfl (Below.slT hB hlv) tb_el22) <| Zi rfl <| WL_nil <| WC_block ?_
 refine WC_loop (σ := (Nat)) [2, 4, 6, 44, 45, 46, 47, 48, 49, 50, 51, 52, 53, 54, 55, 56, 57, 58, 59, 60, 61, 62, 63, 64, 65, 66, 67, 68, 69, 70, 71, 72, 73, 74, 75, 76] (fun k => [(44, .int .i64 (k : Int))]) (fun k W => (Below w.heap.size w W) ∧ (At W b0_0 _ 24) ∧ (k ≤ T.ls.length) ∧ (∀ q, q < k → lnOk T.ni T.no (T.ls.getD q ln0) = true) ∧ (True)) (fun k => T.ls.length - k) (0) ⟨rfl, trivial⟩ ⟨hB, hm0_0, (Nat.zero_le _), upTo_zero, trivial⟩ ?_
 clear hB hm0_0
 rintro k g29 W28 ⟨hB, hm0_0, hk, hq, _⟩ J30 hJ31
 refine Zr <| Zv (r_lss rfl rfl) <| WL_nil <| WC_seq fun K34 hK35 => ZQ rfl (fun hc1 => ?_) fun hc1 => ?_
 refine WC_skip <| hK35 _ _ <| WC_seq fun K36 hK37 => WC_block ?_
 have hck := hls.c k (by omega)
 have hbk := hmb k (by omega)
 have hb1 : (vs.getD k lv0).c.m < 256 ∧ (vs.getD k lv0).c.v < 256 := by rw [hck]; exact hbk
 refine Zr <| Zv (r_idxS (v := lv) rfl (Below.slT hB hlv) rfl tb_el22 Om Om) <| Zv (r_load3 rfl tb_ag44 (SlT.cell (Below.slT hB hlv) encLn_len lv0 Om Om 0 rfl) (SlT.cell (Below.slT hB hlv) encLn_len lv0 Om Om 1 rfl) (SlT.cell (Below.slT hB hlv) encLn_len lv0 Om Om 2 rfl)) ?_
 have hp5_1 : SlT encI 1 w ((vs.getD k lv0).o) ((T.ls.getD k ln0).os) := hls.o k (by omega)
 refine Zy (Y_alloc tb_z44 rfl fun b5_2 W40 hb41 hE42 hm5_2 => ?_)
 have lo_b5_2 := ZO hb41 hB
 clear hb41
 replace hB := Ze hB hE42
 replace hm0_0 := hE42.at hm0_0
 refine Zy (Y_storeW rfl rfl tb_ag44 rfl hm5_2 rfl (by exact one_ln (SlT.one hp5_1)) fun W43 hG44 hm45 => ?_)
 replace hB := Zg hB hG44 lo_b5_2
 replace hm0_0 := At.grownAt hm0_0 hm5_2 hG44 Dc
 replace hm5_2 := hm45
 refine WL_nil <| WC_seq fun K46 hK47 => Zr <| Zf rfl tb_fo44_0 <| Zv (r_load2 rfl tb_ag41 (At.cell hm5_2 rfl) (At.cell hm5_2 rfl)) <| Zf rfl tb_fo24_1 <| Zl rfl tb_sc3 hm0_0 rfl <| ZC tb_c37 (C_cube_Right (vs.getD k lv0).c.m (vs.getD k lv0).c.v _ _ hb1.1 hb1.2) rfl fun v6_4 W50 hE51 hP6_4 => ?_
 replace hB := Ze hB hE51
 replace hm0_0 := hE51.at hm0_0
 replace hm5_2 := hE51.at hm5_2
 obtain rfl := hP6_4
 refine Zv (r_not rfl) <| ZX rfl (fun hs6_6 => ?_) fun hs6_6 => ?_
 refine Zs <| Zs <| Zs <| Zs <| Zs <| Zs <| Zb rfl <| WL_nil <| WC_cond_true rfl <| Zr <| Zb rfl <| WL_nil <| Zt <| ret_t (v := .bool false) rfl ?_
 refine ⟨hB, ?_⟩
 first | exact rightT_f (by omega) | exact rightT_k (k := k) (by omega) (ln_1 (by rw [← hck]; exact bool_t hs6_6)) | exact rightT_k (k := k) (by omega) (ln_2 hc2) | exact rightT_k (k := k) (by omega) (ln_3 (j := j) (by omega) (by have h1 : (T.ls.getD k ln0).os.getD j 0 < 0 := hs11_2; omega)) | exact rightT_k (k := k) (by omega) (ln_3 (j := j) (by omega) (by have h1 : (T.ls.getD k ln0).os.getD j 0 ≥ 3 := hc4; omega)) | exact rightT_t (by omega) (fun q hq' => hq q (by omega))
 refine Zf rfl tb_fo44_1 <| ZL ((vs.getD k lv0).o) rfl tb_sc42 hm5_2 rfl <| Zv (r_lenS (v := (vs.getD k lv0).o) rfl (Below.slT hB hp5_1) tb_el42) <| Zf rfl tb_fo24_2 <| Zl rfl tb_sc3 hm0_0 rfl <| Zv (r_neq rfl rfl) <| Zb rfl <| WL_nil <| ZQ rfl (fun hc2 => ?_) fun hc2 => ?_
 refine Zr <| Zb rfl <| WL_nil <| Zt <| ret_t (v := .bool false) rfl ⟨hB, ?_⟩
 first | exact rightT_f (by omega) | exact rightT_k (k := k) (by omega) (ln_1 (by rw [← hck]; exact bool_t hs6_6)) | exact rightT_k (k := k) (by omega) (ln_2 hc2) | exact rightT_k (k := k) (by omega) (ln_3 (j := j) (by omega) (by have h1 : (T.ls.getD k ln0).os.getD j 0 < 0 := hs11_2; omega)) | exact rightT_k (k := k) (by omega) (ln_3 (j := j) (by omega) (by have h1 : (T.ls.getD k ln0).os.getD j 0 ≥ 3 := hc4; omega)) | exact rightT_t (by omega) (fun q hq' => hq q (by omega))
 refine WC_skip <| hK47 _ _ <| Zr <| Zf rfl tb_fo44_1 <| ZL ((vs.getD k lv0).o) rfl tb_sc42 hm5_2 rfl <| Zv (r_lenS (v := (vs.getD k lv0).o) rfl (Below.slT hB hp5_1) tb_el42) <| Zi rfl <| WL_nil <| WC_block ?_
 refine WC_loop (σ := (Nat)) [2, 6, 65, 66, 67, 68, 69, 70, 71, 72, 73, 74, 75] (fun j => [(65, .int .i64 (j : Int))]) (fun j W => (Below w.heap.size w W) ∧ (At W b0_0 _ 24) ∧ (At W b5_2 _ 44) ∧ (j ≤ (T.ls.getD k ln0).os.length) ∧ (∀ q, q < j → 0 ≤ (T.ls.getD k ln0).os.getD q 0 ∧ (T.ls.getD k ln0).os.getD q 0 < 3) ∧ (True)) (fun j => (T.ls.getD k ln0).os.length - j) (0) ⟨rfl, trivial⟩ ⟨hB, hm0_0, hm5_2, (Nat.zero_le _), upTo_zero, trivial⟩ ?_
 clear hB hm0_0 hm5_2
 rintro j g60 W59 ⟨hB, hm0_0, hm5_2, hj, hqj, _⟩ J61 hJ62
 refine Zr <| Zv (r_lss rfl rfl) <| WL_nil <| WC_seq fun K65 hK66 => ZQ rfl (fun hc3 => ?_) fun hc3 => ?_
 refine WC_skip <| hK66 _ _ <| WC_seq fun K67 hK68 => WC_block <| Zr <| Zv (r_idxS (v := (vs.getD k lv0).o) rfl (Below.slT hB hp5_1) rfl tb_el42 Om Om) <| Zv (r_load1 (v := .int .i64 _) rfl tb_sc3 (SlT.cell (Below.slT hB hp5_1) encI_len 0 Om Om 0 rfl)) <| Zi rfl <| WL_nil <| Zr <| Zi rfl <| Zv (r_lss rfl rfl) <| ZX rfl (fun hs11_2 => ?_) fun hs11_2 => ?_
 refine Zs <| Zs <| Zb rfl <| WL_nil <| WC_cond_true rfl <| Zr <| Zb rfl <| WL_nil <| Zt <| ret_t (v := .bool false) rfl ⟨hB, ?_⟩
 first | exact rightT_f (by omega) | exact rightT_k (k := k) (by omega) (ln_1 (by rw [← hck]; exact bool_t hs6_6)) | exact rightT_k (k := k) (by omega) (ln_2 hc2) | exact rightT_k (k := k) (by omega) (ln_3 (j := j) (by omega) (by have h1 : (T.ls.getD k ln0).os.getD j 0 < 0 := hs11_2; omega)) | exact rightT_k (k := k) (by omega) (ln_3 (j := j) (by omega) (by have h1 : (T.ls.getD k ln0).os.getD j 0 ≥ 3 := hc4; omega)) | exact rightT_t (by omega) (fun q hq' => hq q (by omega))
 refine Zi rfl <| Zv (r_geq rfl rfl) <| Zb rfl <| WL_nil <| ZQ rfl (fun hc4 => ?_) fun hc4 => ?_
 refine Zr <| Zb rfl <| WL_nil <| Zt <| ret_t (v := .bool false) rfl ⟨hB, ?_⟩
 first | exact rightT_f (by omega) | exact rightT_k (k := k) (by omega) (ln_1 (by rw [← hck]; exact bool_t hs6_6)) | exact rightT_k (k := k) (by omega) (ln_2 hc2) | exact rightT_k (k := k) (by omega) (ln_3 (j := j) (by omega) (by have h1 : (T.ls.getD k ln0).os.getD j 0 < 0 := hs11_2; omega)) | exact rightT_k (k := k) (by omega) (ln_3 (j := j) (by omega) (by have h1 : (T.ls.getD k ln0).os.getD j 0 ≥ 3 := hc4; omega)) | exact rightT_t (by omega) (fun q hq' => hq q (by omega))
 refine WC_skip <| hK68 _ _ ?_
 have hs1 : ¬ (T.ls.getD k ln0).os.getD j 0 < 0 := hs11_2
 have hs2 : ¬ (T.ls.getD k ln0).os.getD j 0 ≥ 3 := hc4
 refine WC_region <| Zv (r_addI rfl rfl Om Om) <| Zi rfl <| WL_nil ?_
 exact hJ62 _ _ (j + 1) Za ⟨rfl, trivial⟩ ⟨hB, hm0_0, hm5_2, Om, (upTo_succ hqj Om), trivial⟩ (by show (T.ls.getD k ln0).os.length - (j + 1) < (T.ls.getD k ln0).os.length - j; omega)
 refine WC_exit <| hK37 _ _ ?_
 have hqj2 : ∀ q, q < (T.ls.getD k ln0).os.length → 0 ≤ (T.ls.getD k ln0).os.getD q 0 ∧ (T.ls.getD k ln0).os.getD q 0 < 3 := fun q hq' => hqj q (by omega)
 refine WC_region <| Zv (r_addI rfl rfl Om Om) <| Zi rfl <| WL_nil ?_
 exact hJ31 _ _ (k + 1) Za ⟨rfl, trivial⟩ ⟨hB, hm0_0, Om, (upTo_succ hq (ln_4 (by rw [← hck]; exact bool_f hs6_6) (Decidable.of_not_not hc2) hqj2)), trivial⟩ Zo
 refine WC_exit <| hK25 _ _ <| Zr <| Zb rfl <| WL_nil <| Zt <| ret_t (v := .bool true) rfl ⟨hB, ?_⟩
 first | exact rightT_f (by omega) | exact rightT_k (k := k) (by omega) (ln_1 (by rw [← hck]; exact bool_t hs6_6)) | exact rightT_k (k := k) (by omega) (ln_2 hc2) | exact rightT_k (k := k) (by omega) (ln_3 (j := j) (by omega) (by have h1 : (T.ls.getD k ln0).os.getD j 0 < 0 := hs11_2; omega)) | exact rightT_k (k := k) (by omega) (ln_3 (j := j) (by omega) (by have h1 : (T.ls.getD k ln0).os.getD j 0 ≥ 3 := hc4; omega)) | exact rightT_t (by omega) (fun q hq' => hq q (by omega))

theorem C_drawknifelaw03_Great (T : Tb) (lv : Value) (vs : List LnV) (w : World) (hlv : SlT encLn 3 w lv vs) (hls : LsAt w vs T.ls) (hmb : ∀ i, i < T.ls.length → (T.ls.getD i ln0).c.m < 256 ∧ (T.ls.getD i ln0).c.v < 256) (hvl : vs.length ≤ 9223372036854775807) :
    Fn Tryz.prog 5 #[.agg #[.int .i64 T.kind, .int .i64 T.ni, .int .i64 T.no, lv]] w fun v w' => v = .bool (greatT T) := by
 refine Fn_intro (n := 23) Tryz.func5 rfl rfl (Nat.le_of_ble_eq_true rfl) ?_
 have hB : Below w.heap.size w w := Below.refl _ _
 have hle := hls.len
 refine Zr <| Zy (Y_box (c := #[_, _, _, _]) rfl rfl fun b0_0 W3 hb4 hE5 hm0_0 => ?_)
 have lo_b0_0 := ZO hb4 hB
 clear hb4
 replace hB := Ze hB hE5
 refine Zb rfl <| WL_nil <| WC_seq fun K6 hK7 => Zr <| Zi rfl <| WL_nil <| WC_block ?_
 refine WC_loop (σ := (Nat)) [2, 3, 4, 5, 6, 7, 8, 9, 10, 11, 12, 13, 14, 15, 16, 17, 18] (fun k => [(3, .int .i64 (k : Int))]) (fun k W => (Below w.heap.size w W) ∧ (At W b0_0 _ 24) ∧ (k ≤ T.ls.length) ∧ (∀ q, q < k → ¬ ((T.ls.getD q ln0).os.length : Int) > 20) ∧ (True)) (fun k => T.ls.length - k) (0) ⟨rfl, trivial⟩ ⟨hB, hm0_0, (Nat.zero_le _), upTo_zero, trivial⟩ ?_
 clear hB hm0_0
 rintro k g11 W10 ⟨hB, hm0_0, hk, hq, _⟩ J12 hJ13
 refine WC_seq fun K14 hK15 => Zr <| Zi rfl <| Zf rfl tb_fo24_3 <| ZL lv rfl tb_sc22 hm0_0 rfl <| Zv (r_lenS (v := lv) rfl (Below.slT hB hlv) tb_el22) <| Zv (r_lss rfl rfl) <| WL_nil <| ZQ rfl (fun hc0 => ?_) fun hc0 => ?_
 refine WC_skip <| hK15 _ _ <| WC_seq fun K18 hK19 => WC_block <| Zr <| Zf rfl tb_fo24_3 <| ZL lv rfl tb_sc22 hm0_0 rfl <| Zi rfl <| Zv (r_idxS (v := lv) rfl (Below.slT hB hlv) rfl tb_el22 Om Om) <| Zf rfl tb_fo44_1 <| Zv (r_load1 (v := (vs.getD k lv0).o) rfl tb_sc42 (SlT.cell (Below.slT hB hlv) encLn_len lv0 Om Om 2 rfl)) ?_
 have hp4_5 : SlT encI 1 w ((vs.getD k lv0).o) ((T.ls.getD k ln0).os) := hls.o k (by omega)
 refine Zv (r_lenS (v := (vs.getD k lv0).o) rfl (Below.slT hB hp4_5) tb_el42) <| Zv (r_gtr rfl rfl) <| WL_nil <| ZQ rfl (fun hc1 => ?_) fun hc1 => ?_
 refine Zr <| Zb rfl <| WL_nil <| Zt <| ret_t (v := .bool true) rfl ⟨hB, ?_⟩
 first | exact greatT_y (k := k) (by omega) hc1 | exact greatT_n hle (fun q hq' => hq q (by omega))
 refine WC_skip <| hK19 _ _ <| WC_region <| Zi rfl <| Zv (r_addI rfl rfl Om Om) <| Zi rfl <| WL_nil ?_
 exact hJ13 _ _ (k + 1) Za ⟨rfl, trivial⟩ ⟨hB, hm0_0, Om, (upTo_succ hq hc1), trivial⟩ Zo
 refine WC_exit <| hK7 _ _ <| Zr <| Zf rfl tb_fo24_3 <| ZL lv rfl tb_sc22 hm0_0 rfl <| Zv (r_lenS (v := lv) rfl (Below.slT hB hlv) tb_el22) <| Zv (r_gtr rfl rfl) <| Zb rfl <| WL_nil <| Zt <| ret_t (v := .bool _) rfl ⟨hB, ?_⟩
 first | exact greatT_y (k := k) (by omega) hc1 | exact greatT_n hle (fun q hq' => hq q (by omega))

theorem C_drawkniferef03_Right (T : Tb) (lv : Value) (vs : List LnV) (w : World) (hlv : SlT encLn 3 w lv vs) (hls : LsAt w vs T.ls) (hmb : ∀ i, i < T.ls.length → (T.ls.getD i ln0).c.m < 256 ∧ (T.ls.getD i ln0).c.v < 256) :
    Fn Tryz.prog 22 #[.agg #[.int .i64 T.kind, .int .i64 T.ni, .int .i64 T.no, lv]] w fun v w' => v = .bool (rightT T) := by
 refine Fn_intro (n := 95) Tryz.func22 rfl rfl (Nat.le_of_ble_eq_true rfl) ?_
 have hB : Below w.heap.size w w := Below.refl _ _
 have hle := hls.len
 refine Zr <| Zy (Y_box (c := #[_, _, _, _]) rfl rfl fun b0_0 W3 hb4 hE5 hm0_0 => ?_)
 have lo_b0_0 := ZO hb4 hB
 clear hb4
 replace hB := Ze hB hE5
 refine Zb rfl <| WL_nil <| WC_seq fun K6 hK7 => Zr <| Zf rfl tb_fo24_0 <| Zl rfl tb_sc3 hm0_0 rfl <| Zv (r_lss rfl rfl) <| ZX rfl (fun hs1_3 => ?_) fun hs1_3 => ?_
 refine Zs <| Zs <| Zs <| Zb rfl <| Zb rfl <| Zs <| Zs <| Zs <| Zb rfl <| Zb rfl <| Zs <| Zs <| Zs <| Zb rfl ?_
 refine Zb rfl <| Zs <| Zs <| Zs <| Zb rfl <| Zb rfl <| Zs <| Zs <| Zs <| Zb rfl <| Zb rfl <| Zs <| Zs <| Zs ?_
 refine Zs <| Zb rfl <| WL_nil <| WC_cond_true rfl <| Zr <| Zb rfl <| WL_nil <| Zt <| ret_t (v := .bool false) rfl ⟨hB, ?_⟩
 first | exact rightT_f (by omega) | exact rightT_k (k := k) (by omega) (ln_1 (by rw [← hck]; exact bool_t hs7_6)) | exact rightT_k (k := k) (by omega) (ln_2 hc2) | exact rightT_k (k := k) (by omega) (ln_3 (j := j) (by omega) (by have h1 : ¬ (T.ls.getD k ln0).os.getD j 0 = 0 := hs12_6; have h2 : ¬ (T.ls.getD k ln0).os.getD j 0 = 1 := hs12_14; have h3 : ¬ (T.ls.getD k ln0).os.getD j 0 = 2 := hc4; omega)) | exact rightT_t (by omega) (fun q hq' => hq q (by omega))
 refine Zf rfl tb_fo24_0 <| Zl rfl tb_sc3 hm0_0 rfl <| Zv (r_gtr rfl rfl) <| Zb rfl <| ZX rfl (fun hs1_8 => ?_) fun hs1_8 => ?_
 refine Zs <| Zs <| Zs <| Zb rfl <| Zb rfl <| Zs <| Zs <| Zs <| Zb rfl <| Zb rfl <| Zs <| Zs <| Zs <| Zb rfl ?_
 refine Zb rfl <| Zs <| Zs <| Zs <| Zb rfl <| Zb rfl <| Zs <| Zs <| Zs <| Zs <| Zb rfl <| WL_nil <| WC_cond_true rfl <| Zr ?_
 refine Zb rfl <| WL_nil <| Zt <| ret_t (v := .bool false) rfl ⟨hB, ?_⟩
 first | exact rightT_f (by omega) | exact rightT_k (k := k) (by omega) (ln_1 (by rw [← hck]; exact bool_t hs7_6)) | exact rightT_k (k := k) (by omega) (ln_2 hc2) | exact rightT_k (k := k) (by omega) (ln_3 (j := j) (by omega) (by have h1 : ¬ (T.ls.getD k ln0).os.getD j 0 = 0 := hs12_6; have h2 : ¬ (T.ls.getD k ln0).os.getD j 0 = 1 := hs12_14; have h3 : ¬ (T.ls.getD k ln0).os.getD j 0 = 2 := hc4; omega)) | exact rightT_t (by omega) (fun q hq' => hq q (by omega))
 refine Zf rfl tb_fo24_1 <| Zl rfl tb_sc3 hm0_0 rfl <| Zv (r_lss rfl rfl) <| Zb rfl <| ZX rfl (fun hs1_13 => ?_) fun hs1_13 => ?_
 refine Zs <| Zs <| Zs <| Zb rfl <| Zb rfl <| Zs <| Zs <| Zs <| Zb rfl <| Zb rfl <| Zs <| Zs <| Zs <| Zb rfl ?_
 refine Zb rfl <| Zs <| Zs <| Zs <| Zs <| Zb rfl <| WL_nil <| WC_cond_true rfl <| Zr <| Zb rfl <| WL_nil <| Zt <| ret_t (v := .bool false) rfl ⟨hB, ?_⟩
 first | exact rightT_f (by omega) | exact rightT_k (k := k) (by omega) (ln_1 (by rw [← hck]; exact bool_t hs7_6)) | exact rightT_k (k := k) (by omega) (ln_2 hc2) | exact rightT_k (k := k) (by omega) (ln_3 (j := j) (by omega) (by have h1 : ¬ (T.ls.getD k ln0).os.getD j 0 = 0 := hs12_6; have h2 : ¬ (T.ls.getD k ln0).os.getD j 0 = 1 := hs12_14; have h3 : ¬ (T.ls.getD k ln0).os.getD j 0 = 2 := hc4; omega)) | exact rightT_t (by omega) (fun q hq' => hq q (by omega))
 refine Zf rfl tb_fo24_1 <| Zl rfl tb_sc3 hm0_0 rfl <| Zv (r_gtr rfl rfl) <| Zb rfl <| ZX rfl (fun hs1_18 => ?_) fun hs1_18 => ?_
 refine Zs <| Zs <| Zs <| Zb rfl <| Zb rfl <| Zs <| Zs <| Zs <| Zb rfl <| Zb rfl <| Zs <| Zs <| Zs <| Zs ?_
 refine Zb rfl <| WL_nil <| WC_cond_true rfl <| Zr <| Zb rfl <| WL_nil <| Zt <| ret_t (v := .bool false) rfl ⟨hB, ?_⟩
 first | exact rightT_f (by omega) | exact rightT_k (k := k) (by omega) (ln_1 (by rw [← hck]; exact bool_t hs7_6)) | exact rightT_k (k := k) (by omega) (ln_2 hc2) | exact rightT_k (k := k) (by omega) (ln_3 (j := j) (by omega) (by have h1 : ¬ (T.ls.getD k ln0).os.getD j 0 = 0 := hs12_6; have h2 : ¬ (T.ls.getD k ln0).os.getD j 0 = 1 := hs12_14; have h3 : ¬ (T.ls.getD k ln0).os.getD j 0 = 2 := hc4; omega)) | exact rightT_t (by omega) (fun q hq' => hq q (by omega))
 refine Zf rfl tb_fo24_2 <| Zl rfl tb_sc3 hm0_0 rfl <| Zv (r_lss rfl rfl) <| Zb rfl <| ZX rfl (fun hs1_23 => ?_) fun hs1_23 => ?_
 refine Zs <| Zs <| Zs <| Zb rfl <| Zb rfl <| Zs <| Zs <| Zs <| Zs <| Zb rfl <| WL_nil <| WC_cond_true rfl <| Zr <| Zb rfl ?_
 refine WL_nil <| Zt <| ret_t (v := .bool false) rfl ⟨hB, ?_⟩
 first | exact rightT_f (by omega) | exact rightT_k (k := k) (by omega) (ln_1 (by rw [← hck]; exact bool_t hs7_6)) | exact rightT_k (k := k) (by omega) (ln_2 hc2) | exact rightT_k (k := k) (by omega) (ln_3 (j := j) (by omega) (by have h1 : ¬ (T.ls.getD k ln0).os.getD j 0 = 0 := hs12_6; have h2 : ¬ (T.ls.getD k ln0).os.getD j 0 = 1 := hs12_14; have h3 : ¬ (T.ls.getD k ln0).os.getD j 0 = 2 := hc4; omega)) | exact rightT_t (by omega) (fun q hq' => hq q (by omega))
 refine Zf rfl tb_fo24_2 <| Zl rfl tb_sc3 hm0_0 rfl <| Zv (r_gtr rfl rfl) <| Zb rfl <| ZX rfl (fun hs1_28 => ?_) fun hs1_28 => ?_
 refine Zs <| Zs <| Zs <| Zs <| Zb rfl <| WL_nil <| WC_cond_true rfl <| Zr <| Zb rfl <| WL_nil <| Zt <| ret_t (v := .bool false) rfl ⟨hB, ?_⟩
 first | exact rightT_f (by omega) | exact rightT_k (k := k) (by omega) (ln_1 (by rw [← hck]; exact bool_t hs7_6)) | exact rightT_k (k := k) (by omega) (ln_2 hc2) | exact rightT_k (k := k) (by omega) (ln_3 (j := j) (by omega) (by have h1 : ¬ (T.ls.getD k ln0).os.getD j 0 = 0 := hs12_6; have h2 : ¬ (T.ls.getD k ln0).os.getD j 0 = 1 := hs12_14; have h3 : ¬ (T.ls.getD k ln0).os.getD j 0 = 2 := hc4; omega)) | exact rightT_t (by omega) (fun q hq' => hq q (by omega))
 refine Zf rfl tb_fo24_3 <| ZL lv rfl tb_sc22 hm0_0 rfl <| Zv (r_lenS (v := lv) rfl (Below.slT hB hlv) tb_el22) <| Zv (r_gtr rfl rfl) <| Zb rfl <| WL_nil <| ZQ rfl (fun hc0 => ?_) fun hc0 => ?_
 refine Zr <| Zb rfl <| WL_nil <| Zt <| ret_t (v := .bool false) rfl ⟨hB, ?_⟩
 first | exact rightT_f (by omega) | exact rightT_k (k := k) (by omega) (ln_1 (by rw [← hck]; exact bool_t hs7_6)) | exact rightT_k (k := k) (by omega) (ln_2 hc2) | exact rightT_k (k := k) (by omega) (ln_3 (j := j) (by omega) (by have h1 : ¬ (T.ls.getD k ln0).os.getD j 0 = 0 := hs12_6; have h2 : ¬ (T.ls.getD k ln0).os.getD j 0 = 1 := hs12_14; have h3 : ¬ (T.ls.getD k ln0).os.getD j 0 = 2 := hc4; omega)) | exact rightT_t (by omega) (fun q hq' => hq q (by omega))
 refine WC_skip <| hK7 _ _ <| WC_seq fun K24 hK25 => Zr <| Zi rfl <| WL_nil <| WC_block ?_
 refine WC_loop (σ := (Nat)) [2, 3, 4, 5, 40, 41, 42, 43, 44, 45, 46, 47, 48, 49, 50, 51, 52, 53, 54, 55, 56, 57, 58, 59, 60, 61, 62, 63, 64, 65, 66, 67, 68, 69, 70, 71, 72, 73, 74, 75, 76, 77, 78, 79, 80, 81, 82, 83, 84, 85, 86, 87, 88, 89, 90, 91, 92, 93, 94] (fun k => [(3, .int .i64 (k : Int))]) (fun k W => (Below w.heap.size w W) ∧ (At W b0_0 _ 24) ∧ (k ≤ T.ls.length) ∧ (∀ q, q < k → lnOk T.ni T.no (T.ls.getD q ln0) = true) ∧ (True)) (fun k => T.ls.length - k) (0) ⟨rfl, trivial⟩ ⟨hB, hm0_0, (Nat.zero_le _), upTo_zero, trivial⟩ ?_
 clear hB hm0_0
 rintro k g29 W28 ⟨hB, hm0_0, hk, hq, _⟩ J30 hJ31
 refine WC_seq fun K32 hK33 => Zr <| Zi rfl <| Zf rfl tb_fo24_3 <| ZL lv rfl tb_sc22 hm0_0 rfl <| Zv (r_lenS (v := lv) rfl (Below.slT hB hlv) tb_el22) <| Zv (r_lss rfl rfl) <| WL_nil <| ZQ rfl (fun hc1 => ?_) fun hc1 => ?_
 refine WC_skip <| hK33 _ _ <| WC_seq fun K36 hK37 => WC_block ?_
 have hck := hls.c k (by omega)
 have hbk := hmb k (by omega)
 have hb1 : (vs.getD k lv0).c.m < 256 ∧ (vs.getD k lv0).c.v < 256 := by rw [hck]; exact hbk
 refine Zr <| Zf rfl tb_fo24_3 <| ZL lv rfl tb_sc22 hm0_0 rfl <| Zi rfl <| Zv (r_idxS (v := lv) rfl (Below.slT hB hlv) rfl tb_el22 Om Om) <| Zv (r_load3 rfl tb_ag44 (SlT.cell (Below.slT hB hlv) encLn_len lv0 Om Om 0 rfl) (SlT.cell (Below.slT hB hlv) encLn_len lv0 Om Om 1 rfl) (SlT.cell (Below.slT hB hlv) encLn_len lv0 Om Om 2 rfl)) ?_
 have hp6_4 : SlT encI 1 w ((vs.getD k lv0).o) ((T.ls.getD k ln0).os) := hls.o k (by omega)
 refine Zy (Y_alloc tb_z44 rfl fun b6_5 W40 hb41 hE42 hm6_5 => ?_)
 have lo_b6_5 := ZO hb41 hB
 clear hb41
 replace hB := Ze hB hE42
 replace hm0_0 := hE42.at hm0_0
 refine Zy (Y_storeW rfl rfl tb_ag44 rfl hm6_5 rfl (by exact one_ln (SlT.one hp6_4)) fun W43 hG44 hm45 => ?_)
 replace hB := Zg hB hG44 lo_b6_5
 replace hm0_0 := At.grownAt hm0_0 hm6_5 hG44 Dc
 replace hm6_5 := hm45
 refine WL_nil <| WC_seq fun K46 hK47 => Zr <| Zf rfl tb_fo44_0 <| Zv (r_load2 rfl tb_ag41 (At.cell hm6_5 rfl) (At.cell hm6_5 rfl)) <| Zf rfl tb_fo24_1 <| Zl rfl tb_sc3 hm0_0 rfl <| ZC tb_c47 (C_drawkniferef02_Right (vs.getD k lv0).c.m (vs.getD k lv0).c.v _ _ hb1.1 hb1.2) rfl fun v7_4 W50 hE51 hP7_4 => ?_
 replace hB := Ze hB hE51
 replace hm0_0 := hE51.at hm0_0
 replace hm6_5 := hE51.at hm6_5
 obtain rfl := hP7_4
 refine Zv (r_not rfl) <| ZX rfl (fun hs7_6 => ?_) fun hs7_6 => ?_
 refine Zs <| Zs <| Zs <| Zs <| Zs <| Zs <| Zb rfl <| WL_nil <| WC_cond_true rfl <| Zr <| Zb rfl <| WL_nil <| Zt <| ret_t (v := .bool false) rfl ?_
 refine ⟨hB, ?_⟩
 first | exact rightT_f (by omega) | exact rightT_k (k := k) (by omega) (ln_1 (by rw [← hck]; exact bool_t hs7_6)) | exact rightT_k (k := k) (by omega) (ln_2 hc2) | exact rightT_k (k := k) (by omega) (ln_3 (j := j) (by omega) (by have h1 : ¬ (T.ls.getD k ln0).os.getD j 0 = 0 := hs12_6; have h2 : ¬ (T.ls.getD k ln0).os.getD j 0 = 1 := hs12_14; have h3 : ¬ (T.ls.getD k ln0).os.getD j 0 = 2 := hc4; omega)) | exact rightT_t (by omega) (fun q hq' => hq q (by omega))
 refine Zf rfl tb_fo44_1 <| ZL ((vs.getD k lv0).o) rfl tb_sc42 hm6_5 rfl <| Zv (r_lenS (v := (vs.getD k lv0).o) rfl (Below.slT hB hp6_4) tb_el42) <| Zf rfl tb_fo24_2 <| Zl rfl tb_sc3 hm0_0 rfl <| Zv (r_neq rfl rfl) <| Zb rfl <| WL_nil <| ZQ rfl (fun hc2 => ?_) fun hc2 => ?_
 refine Zr <| Zb rfl <| WL_nil <| Zt <| ret_t (v := .bool false) rfl ⟨hB, ?_⟩
 first | exact rightT_f (by omega) | exact rightT_k (k := k) (by omega) (ln_1 (by rw [← hck]; exact bool_t hs7_6)) | exact rightT_k (k := k) (by omega) (ln_2 hc2) | exact rightT_k (k := k) (by omega) (ln_3 (j := j) (by omega) (by have h1 : ¬ (T.ls.getD k ln0).os.getD j 0 = 0 := hs12_6; have h2 : ¬ (T.ls.getD k ln0).os.getD j 0 = 1 := hs12_14; have h3 : ¬ (T.ls.getD k ln0).os.getD j 0 = 2 := hc4; omega)) | exact rightT_t (by omega) (fun q hq' => hq q (by omega))
 refine WC_skip <| hK47 _ _ <| Zr <| Zi rfl <| WL_nil <| WC_block ?_
 refine WC_loop (σ := (Nat)) [2, 5, 66, 67, 68, 69, 70, 71, 72, 73, 74, 75, 76, 77, 78, 79, 80, 81, 82, 83, 84, 85, 86, 87, 88, 89, 90, 91, 92, 93, 94] (fun j => [(5, .int .i64 (j : Int))]) (fun j W => (Below w.heap.size w W) ∧ (At W b0_0 _ 24) ∧ (At W b6_5 _ 44) ∧ (j ≤ (T.ls.getD k ln0).os.length) ∧ (∀ q, q < j → 0 ≤ (T.ls.getD k ln0).os.getD q 0 ∧ (T.ls.getD k ln0).os.getD q 0 < 3) ∧ (True)) (fun j => (T.ls.getD k ln0).os.length - j) (0) ⟨rfl, trivial⟩ ⟨hB, hm0_0, hm6_5, (Nat.zero_le _), upTo_zero, trivial⟩ ?_
 clear hB hm0_0 hm6_5
 rintro j g60 W59 ⟨hB, hm0_0, hm6_5, hj, hqj, _⟩ J61 hJ62
 refine WC_seq fun K63 hK64 => Zr <| Zi rfl <| Zf rfl tb_fo44_1 <| ZL ((vs.getD k lv0).o) rfl tb_sc42 hm6_5 rfl <| Zv (r_lenS (v := (vs.getD k lv0).o) rfl (Below.slT hB hp6_4) tb_el42) <| Zv (r_lss rfl rfl) <| WL_nil <| ZQ rfl (fun hc3 => ?_) fun hc3 => ?_
 refine WC_skip <| hK64 _ _ <| WC_seq fun K67 hK68 => WC_block <| Zr <| Zf rfl tb_fo44_1 <| ZL ((vs.getD k lv0).o) rfl tb_sc42 hm6_5 rfl <| Zi rfl <| Zv (r_idxS (v := (vs.getD k lv0).o) rfl (Below.slT hB hp6_4) rfl tb_el42 Om Om) <| Zv (r_load1 (v := .int .i64 _) rfl tb_sc3 (SlT.cell (Below.slT hB hp6_4) encI_len 0 Om Om 0 rfl)) <| Zv (r_neq rfl rfl) <| ZX rfl (fun hs12_6 => ?_) fun hs12_6 => ?_
 refine Zf rfl tb_fo44_1 <| ZL ((vs.getD k lv0).o) rfl tb_sc42 hm6_5 rfl <| Zi rfl <| Zv (r_idxS (v := (vs.getD k lv0).o) rfl (Below.slT hB hp6_4) rfl tb_el42 Om Om) <| Zv (r_load1 (v := .int .i64 _) rfl tb_sc3 (SlT.cell (Below.slT hB hp6_4) encI_len 0 Om Om 0 rfl)) <| Zv (r_neq rfl rfl) <| Zb rfl <| ZX rfl (fun hs12_14 => ?_) fun hs12_14 => ?_
 refine Zf rfl tb_fo44_1 <| ZL ((vs.getD k lv0).o) rfl tb_sc42 hm6_5 rfl <| Zi rfl <| Zv (r_idxS (v := (vs.getD k lv0).o) rfl (Below.slT hB hp6_4) rfl tb_el42 Om Om) <| Zv (r_load1 (v := .int .i64 _) rfl tb_sc3 (SlT.cell (Below.slT hB hp6_4) encI_len 0 Om Om 0 rfl)) <| Zv (r_neq rfl rfl) <| Zb rfl <| WL_nil <| ZQ rfl (fun hc4 => ?_) fun hc4 => ?_
 refine Zr <| Zb rfl <| WL_nil <| Zt <| ret_t (v := .bool false) rfl ⟨hB, ?_⟩
 first | exact rightT_f (by omega) | exact rightT_k (k := k) (by omega) (ln_1 (by rw [← hck]; exact bool_t hs7_6)) | exact rightT_k (k := k) (by omega) (ln_2 hc2) | exact rightT_k (k := k) (by omega) (ln_3 (j := j) (by omega) (by have h1 : ¬ (T.ls.getD k ln0).os.getD j 0 = 0 := hs12_6; have h2 : ¬ (T.ls.getD k ln0).os.getD j 0 = 1 := hs12_14; have h3 : ¬ (T.ls.getD k ln0).os.getD j 0 = 2 := hc4; omega)) | exact rightT_t (by omega) (fun q hq' => hq q (by omega))
 refine WC_skip <| hK68 _ _ ?_
 have hsj : (T.ls.getD k ln0).os.getD j 0 = 2 := Decidable.of_not_not hc4
 refine WC_region <| Zi rfl <| Zv (r_addI rfl rfl Om Om) <| Zi rfl <| WL_nil ?_
 exact hJ62 _ _ (j + 1) Za ⟨rfl, trivial⟩ ⟨hB, hm0_0, hm6_5, Om, (upTo_succ hqj Om), trivial⟩ (by show (T.ls.getD k ln0).os.length - (j + 1) < (T.ls.getD k ln0).os.length - j; omega)
 refine Zs <| Zs <| Zs <| Zs <| Zs <| Zs <| Zb rfl <| WL_nil <| WC_cond_false rfl <| WC_skip <| hK68 _ _ ?_
 have hsj : (T.ls.getD k ln0).os.getD j 0 = 1 := Decidable.of_not_not hs12_14
 refine WC_region <| Zi rfl <| Zv (r_addI rfl rfl Om Om) <| Zi rfl <| WL_nil ?_
 exact hJ62 _ _ (j + 1) Za ⟨rfl, trivial⟩ ⟨hB, hm0_0, hm6_5, Om, (upTo_succ hqj Om), trivial⟩ (by show (T.ls.getD k ln0).os.length - (j + 1) < (T.ls.getD k ln0).os.length - j; omega)
 refine Zs <| Zs <| Zs <| Zs <| Zs <| Zs <| Zb rfl <| Zb rfl <| Zs <| Zs <| Zs <| Zs <| Zs <| Zs ?_
 refine Zb rfl <| WL_nil <| WC_cond_false rfl <| WC_skip <| hK68 _ _ ?_
 have hsj : (T.ls.getD k ln0).os.getD j 0 = 0 := Decidable.of_not_not hs12_6
 refine WC_region <| Zi rfl <| Zv (r_addI rfl rfl Om Om) <| Zi rfl <| WL_nil ?_
 exact hJ62 _ _ (j + 1) Za ⟨rfl, trivial⟩ ⟨hB, hm0_0, hm6_5, Om, (upTo_succ hqj Om), trivial⟩ (by show (T.ls.getD k ln0).os.length - (j + 1) < (T.ls.getD k ln0).os.length - j; omega)
 refine WC_exit <| hK37 _ _ ?_
 have hqj2 : ∀ q, q < (T.ls.getD k ln0).os.length → 0 ≤ (T.ls.getD k ln0).os.getD q 0 ∧ (T.ls.getD k ln0).os.getD q 0 < 3 := fun q hq' => hqj q (by omega)
 refine WC_region <| Zi rfl <| Zv (r_addI rfl rfl Om Om) <| Zi rfl <| WL_nil ?_
 exact hJ31 _ _ (k + 1) Za ⟨rfl, trivial⟩ ⟨hB, hm0_0, Om, (upTo_succ hq (ln_4 (by rw [← hck]; exact bool_f hs7_6) (Decidable.of_not_not hc2) hqj2)), trivial⟩ Zo
 refine WC_exit <| hK25 _ _ <| Zr <| Zb rfl <| WL_nil <| Zt <| ret_t (v := .bool true) rfl ⟨hB, ?_⟩
 first | exact rightT_f (by omega) | exact rightT_k (k := k) (by omega) (ln_1 (by rw [← hck]; exact bool_t hs7_6)) | exact rightT_k (k := k) (by omega) (ln_2 hc2) | exact rightT_k (k := k) (by omega) (ln_3 (j := j) (by omega) (by have h1 : ¬ (T.ls.getD k ln0).os.getD j 0 = 0 := hs12_6; have h2 : ¬ (T.ls.getD k ln0).os.getD j 0 = 1 := hs12_14; have h3 : ¬ (T.ls.getD k ln0).os.getD j 0 = 2 := hc4; omega)) | exact rightT_t (by omega) (fun q hq' => hq q (by omega))

end Go.Proofs.YtnkaebjaeaecmaaGreatDoor
