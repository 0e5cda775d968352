/-
  The walks of package cube, and of the document's answer for primes.
-/
import Derived.Test.YtnkaebjaeaecmaaGreatDoorProg
import Derived.Test.YtnkaebjaeaecmaaGreatDoorPrime
import Derived.Test.YtnkaebjaeaecmaaGreatDoorWSet
import Derived.Test.YtnkaebjaeaecmaaGreatDoorWRef
import Derived.Test.YtnkaebjaeaecmaaGreatDoorZip
namespace Go.Proofs.YtnkaebjaeaecmaaGreatDoor
set_option linter.unusedVariables false
set_option linter.unusedSimpArgs false
open Go Go.RowKit

theorem tb_c37 : callB Tryz.prog 37 = true := by kernel_rfl

theorem C_cube_Right (m u : Nat) (n : Int) (w : World) (hm : m < 256) (hv : u < 256) :
    Fn Tryz.prog 37 #[.agg #[.int .u8 (m : Int), .int .u8 (u : Int)], .int .i64 n] w fun v w' => v = .bool (rightB m u n) := by
 refine Fn_intro (n := 27) Tryz.func37 rfl rfl (Nat.le_of_ble_eq_true rfl) ?_
 have hB : Below w.heap.size w w := Below.refl _ _
 refine Zr <| Zy (Y_box (c := #[_, _]) rfl rfl fun b0_0 W3 hb4 hE5 hm0_0 => ?_)
 have lo_b0_0 := ZO hb4 hB
 clear hb4
 replace hB := Ze hB hE5
 refine Zb rfl <| WL_nil ?_
 have h8 : n ≤ 8 → 2 ^ n.toNat ≤ 256 := two_pow_le
 refine Zd Ext fun W8 hE9 => ?_
 replace hB := Ze hB hE9
 replace hm0_0 := hE9.at hm0_0
 have hS := Ext.refl W8
 refine Ti 0 rfl rfl hS <| Tk 1 rfl (fun _ _ => r_geq rfl rfl) hS <| Tx 2 rfl (fun _ _ => r_move (v := .bool _) rfl) hS (fun hs1_2 => ?_) fun hs1_2 => ?_
 refine Ti 3 rfl rfl hS <| Tk 4 rfl (fun _ _ => r_leq rfl rfl) hS <| Ty 5 rfl rfl hS <| Tx 6 rfl (fun _ _ => r_move (v := .bool _) rfl) hS (fun hs1_6 => ?_) fun hs1_6 => ?_
 refine Tf 7 rfl rfl tb_fo41_0 hS <| Tk 8 rfl (fun _ hq => r_load1 (v := .int .u8 _) rfl tb_sc5 (At.cell (hq.at hm0_0) rfl)) hS <| Tk 9 rfl (fun _ _ => r_convN rfl Tryz.underlying5 Tryz.underlying3 (by simp only [topN]; omega)) hS <| Ti 10 rfl rfl hS <| Tk 11 rfl (fun _ _ => r_shl (m := 1) rfl rfl Om (by simp only [IntKind.bits]; omega) (by rw [Nat.one_mul]; have := h8 Om; simp only [topN]; omega)) hS <| Tk 12 rfl (fun _ _ => r_lss rfl rfl) hS <| Ty 13 rfl rfl hS <| Tx 14 rfl (fun _ _ => r_move (v := .bool _) rfl) hS (fun hs1_14 => ?_) fun hs1_14 => ?_
 refine Tf 15 rfl rfl tb_fo41_1 hS <| Tk 16 rfl (fun _ hq => r_load1 (v := .int .u8 _) rfl tb_sc5 (At.cell (hq.at hm0_0) rfl)) hS <| Tf 17 rfl rfl tb_fo41_0 hS <| Tk 18 rfl (fun _ hq => r_load1 (v := .int .u8 _) rfl tb_sc5 (At.cell (hq.at hm0_0) rfl)) hS <| Tk 19 rfl (fun _ _ => r_andNot (n := _) rfl rfl rfl (by first | assumption | (simp only [topN]; omega) | (simp only [topN]; decide)) (by first | assumption | (simp only [topN]; omega) | (simp only [topN]; decide))) hS <| Tk 20 rfl (fun _ _ => r_eql rfl rfl) hS <| Ty 21 rfl rfl hS <| Ty 22 rfl rfl hS <| Td <| Zt <| ret_t (v := .bool _) rfl ⟨hB, ?_⟩
 first | exact congrArg Value.bool (right_v1 hs1_2 hs1_6 hs1_14) | exact congrArg Value.bool (right_v2 hs1_14) | exact congrArg Value.bool (right_neg (by omega)).symm
 refine Tp 15 rfl hS <| Tp 16 rfl hS <| Tp 17 rfl hS <| Tp 18 rfl hS <| Tp 19 rfl hS <| Tp 20 rfl hS <| Ty 21 rfl rfl hS <| Ty 22 rfl rfl hS <| Td <| Zt <| ret_t (v := .bool false) rfl ⟨hB, ?_⟩
 first | exact congrArg Value.bool (right_v1 hs1_2 hs1_6 hs1_14) | exact congrArg Value.bool (right_v2 hs1_14) | exact congrArg Value.bool (right_neg (by omega)).symm
 refine Tp 7 rfl hS <| Tp 8 rfl hS <| Tp 9 rfl hS <| Tp 10 rfl hS <| Tp 11 rfl hS <| Tp 12 rfl hS <| Ty 13 rfl rfl hS <| Ty 14 rfl rfl hS <| Tp 15 rfl hS <| Tp 16 rfl hS <| Tp 17 rfl hS <| Tp 18 rfl hS <| Tp 19 rfl hS <| Tp 20 rfl hS ?_
 refine Ty 21 rfl rfl hS <| Ty 22 rfl rfl hS <| Td <| Zt <| ret_t (v := .bool false) rfl ⟨hB, ?_⟩
 first | exact congrArg Value.bool (right_v1 hs1_2 hs1_6 hs1_14) | exact congrArg Value.bool (right_v2 hs1_14) | exact congrArg Value.bool (right_neg (by omega)).symm
 refine Tp 3 rfl hS <| Tp 4 rfl hS <| Ty 5 rfl rfl hS <| Ty 6 rfl rfl hS <| Tp 7 rfl hS <| Tp 8 rfl hS <| Tp 9 rfl hS <| Tp 10 rfl hS <| Tp 11 rfl hS <| Tp 12 rfl hS <| Ty 13 rfl rfl hS <| Ty 14 rfl rfl hS <| Tp 15 rfl hS <| Tp 16 rfl hS ?_
 refine Tp 17 rfl hS <| Tp 18 rfl hS <| Tp 19 rfl hS <| Tp 20 rfl hS <| Ty 21 rfl rfl hS <| Ty 22 rfl rfl hS <| Td <| Zt <| ret_t (v := .bool false) rfl ⟨hB, ?_⟩
 first | exact congrArg Value.bool (right_v1 hs1_2 hs1_6 hs1_14) | exact congrArg Value.bool (right_v2 hs1_14) | exact congrArg Value.bool (right_neg (by omega)).symm

theorem C_cube_Points (m u : Nat) (n : Int) (w : World) (hm : m < 256) (hv : u < 256) :
    Fn Tryz.prog 44 #[.agg #[.int .u8 (m : Int), .int .u8 (u : Int)], .int .i64 n] w fun v w' => v = if rightB m u n = true then .tuple #[setV (ptsS m u n.toNat), .int .i64 0] else .tuple #[setV 0, .int .i64 1] := by
 refine Fn_intro (n := 31) Tryz.func44 rfl rfl (Nat.le_of_ble_eq_true rfl) ?_
 have hB : Below w.heap.size w w := Below.refl _ _
 refine Zr <| Zy (Y_box (c := #[_, _]) rfl rfl fun b0_0 W3 hb4 hE5 hm0_0 => ?_)
 have lo_b0_0 := ZO hb4 hB
 clear hb4
 replace hB := Ze hB hE5
 refine Zy (Y_alloc tb_z51 rfl fun b0_1 W6 hb7 hE8 hm0_1 => ?_)
 have lo_b0_1 := ZO hb7 hB
 clear hb7
 replace hB := Ze hB hE8
 replace hm0_0 := hE8.at hm0_0
 replace hm0_1 : At W6 b0_1 #[wv 0 0, wv 0 1, wv 0 2, wv 0 3] 51 := hm0_1
 refine Zi rfl <| WL_nil <| WC_seq fun K9 hK10 => Zr <| Zv (r_loadW rfl tb_ag41 rfl hm0_0) <| Zi rfl <| ZC tb_c37 (C_cube_Right _ _ _ _ (by first | assumption | omega) (by first | assumption | omega)) rfl fun v1_2 W13 hE14 hP1_2 => ?_
 replace hB := Ze hB hE14
 replace hm0_0 := hE14.at hm0_0
 replace hm0_1 := hE14.at hm0_1
 obtain rfl := hP1_2
 refine Zv (r_not rfl) <| WL_nil <| ZQ rfl (fun hc0 => ?_) fun hc0 => ?_
 refine Zr <| Zv (v := setV 0) (tb_build51_ ) <| Zy (Y_storeW rfl rfl tb_ag51 rfl hm0_1 rfl rfl fun W18 hG19 hm20 => ?_)
 replace hB := Zg hB hG19 lo_b0_1
 replace hm0_0 := At.grownAt hm0_0 hm0_1 hG19 Dc
 replace hm0_1 := hm20
 refine Zi rfl <| WL_nil <| Zt <| ret_ct rfl tb_ag51 hm0_1 rfl (v1 := .int .i64 1) rfl ⟨hB, ?_⟩
 rw [if_neg (by simpa using hc0)]
 refine WC_skip <| hK10 _ _ ?_
 have hr : rightB m u n = true := by simpa using hc0
 obtain ⟨hn0, hn8, hmn, hvm⟩ := rightB_iff.1 hr
 have hp := two_pow_le hn8
 refine Zr <| Zy (Y_alloc tb_z51 rfl fun b3_0 W23 hb24 hE25 hm3_0 => ?_)
 have lo_b3_0 := ZO hb24 hB
 have ne_b0_1_b3_0 := Zn hb24 hm0_1
 clear hb24
 replace hB := Ze hB hE25
 replace hm0_0 := hE25.at hm0_0
 replace hm0_1 := hE25.at hm0_1
 replace hm3_0 : At W23 b3_0 #[wv 0 0, wv 0 1, wv 0 2, wv 0 3] 51 := hm3_0
 refine WL_nil <| WC_seq fun K26 hK27 => Zr <| Zi rfl <| Zv (r_shl (m := 1) rfl rfl Om (by simp only [IntKind.bits]; omega) (by rw [Nat.one_mul]; simp only [topN]; omega)) <| Zi rfl <| WL_nil <| WC_block ?_
 refine WC_loop (σ := (Nat)) [7, 15, 16, 17, 18, 19, 20, 21, 22, 23, 24, 25, 26, 27, 28, 29] (fun k => [(15, .int .i64 (k : Int))]) (fun k W => (Below w.heap.size w W) ∧ (At W b0_0 _ 41) ∧ (At W b0_1 _ 51) ∧ (At W b3_0 #[wv (ptsTo m u k) 0, wv (ptsTo m u k) 1, wv (ptsTo m u k) 2, wv (ptsTo m u k) 3] 51) ∧ (k ≤ 2 ^ n.toNat) ∧ (True)) (fun k => 2 ^ n.toNat - k) (0) ⟨rfl, trivial⟩ ⟨hB, hm0_0, hm0_1, hm3_0, (Nat.zero_le _), trivial⟩ ?_
 clear hB hm0_0 hm0_1 hm3_0
 rintro k g31 W30 ⟨hB, hm0_0, hm0_1, hm3_0, hk, _⟩ J32 hJ33
 refine Zr <| Zv (r_lss rfl rfl) <| WL_nil <| WC_seq fun K36 hK37 => ZQ rfl (fun hc1 => ?_) fun hc1 => ?_
 refine WC_skip <| hK37 _ _ <| WC_seq fun K38 hK39 => WC_block <| Zr <| Zi rfl <| Zi rfl <| WL_nil <| Zr <| Zi rfl <| Zv (r_convN rfl Tryz.underlying3 Tryz.underlying5 (by simp only [topN]; omega)) <| Zf rfl tb_fo41_0 <| Zl rfl tb_sc5 hm0_0 rfl <| Zv (r_and (n := _) rfl rfl rfl (by first | assumption | (simp only [topN]; omega) | (simp only [topN]; decide)) (by first | assumption | (simp only [topN]; omega) | (simp only [topN]; decide))) ?_
 refine Zf rfl tb_fo41_1 <| Zl rfl tb_sc5 hm0_0 rfl <| Zv (r_eql rfl rfl) <| WL_nil <| ZQ rfl (fun hc2 => ?_) fun hc2 => ?_
 refine WC_region <| Zv (r_loadW rfl tb_ag51 rfl hm3_0) <| Zi rfl <| ZC tb_c38 (C_set_With _ _ _) rfl fun v8_2 W44 hE45 hP8_2 => ?_
 replace hB := Ze hB hE45
 replace hm0_0 := hE45.at hm0_0
 replace hm0_1 := hE45.at hm0_1
 replace hm3_0 := hE45.at hm3_0
 obtain rfl := hP8_2
 refine Zy (Y_storeW rfl rfl tb_ag51 rfl hm3_0 rfl rfl fun W47 hG48 hm49 => ?_)
 replace hB := Zg hB hG48 lo_b3_0
 replace hm0_0 := At.grownAt hm0_0 hm3_0 hG48 Dc
 replace hm0_1 := At.grownNe hm0_1 ne_b0_1_b3_0 hG48
 replace hm3_0 := hm49
 refine WL_nil <| hK39 _ _ <| WC_region <| Zv (r_addI rfl rfl Om Om) <| Zi rfl <| WL_nil ?_
 exact hJ33 _ _ (k + 1) Za ⟨rfl, trivial⟩ ⟨hB, hm0_0, hm0_1, (by first | (rw [ptsTo_t hc2]; exact hm3_0) | (rw [ptsTo_f hc2]; exact hm3_0)), (by simp only [Nat.one_mul] at *; omega), trivial⟩ (by simp only [Nat.one_mul] at *; omega)
 refine WC_skip <| hK39 _ _ <| WC_region <| Zv (r_addI rfl rfl Om Om) <| Zi rfl <| WL_nil ?_
 exact hJ33 _ _ (k + 1) Za ⟨rfl, trivial⟩ ⟨hB, hm0_0, hm0_1, (by first | (rw [ptsTo_t hc2]; exact hm3_0) | (rw [ptsTo_f hc2]; exact hm3_0)), (by simp only [Nat.one_mul] at *; omega), trivial⟩ (by simp only [Nat.one_mul] at *; omega)
 refine WC_exit <| hK27 _ _ <| Zr <| Zv (r_loadW rfl tb_ag51 rfl hm3_0) <| Zy (Y_storeW rfl rfl tb_ag51 rfl hm0_1 rfl rfl fun W52 hG53 hm54 => ?_)
 replace hB := Zg hB hG53 lo_b0_1
 replace hm0_0 := At.grownAt hm0_0 hm0_1 hG53 Dc
 replace hm3_0 := At.grownNe hm3_0 (Ne.symm ne_b0_1_b3_0) hG53
 replace hm0_1 := hm54
 refine Zi rfl <| WL_nil <| Zt <| ret_ct rfl tb_ag51 hm0_1 rfl (v1 := .int .i64 0) rfl ⟨hB, ?_⟩
 have hk2 : k = 2 ^ n.toNat := by simp only [Nat.one_mul] at *; omega
 subst hk2
 rw [if_pos hr]; rfl

end Go.Proofs.YtnkaebjaeaecmaaGreatDoor
