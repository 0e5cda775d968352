/-
  The walks of package cube, and of the document's answer for primes.
-/
import Derived.Test.YtnkaebjaeaecmaaDoorProg
import Derived.Test.YtnkaebjaeaecmaaDoorPrime
import Derived.Test.YtnkaebjaeaecmaaDoorWSet
import Derived.Test.YtnkaebjaeaecmaaDoorWRef
namespace Go.Proofs.YtnkaebjaeaecmaaDoor
set_option linter.unusedVariables false
set_option linter.unusedSimpArgs false
open Go Go.RowKit

theorem tb_c27 : callB Tryd.prog 27 = true := by kernel_rfl

theorem C_cube_Right (m u : Nat) (n : Int) (w : World) (hm : m < 256) (hv : u < 256) :
    Fn Tryd.prog 27 #[.agg #[.int .u8 (m : Int), .int .u8 (u : Int)], .int .i64 n] w fun v w' => v = .bool (rightB m u n) := by
  refine Fn_intro (n := 27) Tryd.func27 rfl rfl (Nat.le_of_ble_eq_true rfl) ?_
  have hB : Below w.heap.size w w := Below.refl _ _
  refine WC_seq (fun K1 hK2 => ?_)
  refine WC_region ?_
  refine WL_step (dd := some 2) rfl rfl rfl (Y_box (c := #[_, _]) rfl rfl (fun b0_0 W3 hb4 hE5 hm0_0 => ?_))
  have lo_b0_0 : w.heap.size ≤ b0_0 := hb4 ▸ (Below.size hB)
  clear hb4
  replace hB := below_ext hB hE5 (Nat.le_refl _)
  clear hE5
  refine WL_val (dd := some 4) rfl rfl rfl (r_assign (v := .bool false) rfl) ?_
  refine WL_nil ?_
  refine hK2 _ _ ?_
  clear hK2 K1
  refine WC_seq (fun K6 hK7 => ?_)
  have h8 : n ≤ 8 → 2 ^ n.toNat ≤ 256 := two_pow_le
  refine WC_draw Ext tb_mix (fun W8 hE9 => ?_)
  replace hB := below_ext hB hE9 (Nat.le_refl _)
  replace hm0_0 := hE9.at hm0_0
  have hS := Ext.refl W8
  refine WT_take (dd := some 5) 0 rfl (by kernel_rfl) (by kernel_rfl) (by kernel_rfl) rfl rfl rfl (fun _wq _hq => r_move (v := .int .i64 _) rfl) hS ?_
  refine WT_take (dd := some 6) 1 rfl (by kernel_rfl) (by kernel_rfl) (by kernel_rfl) rfl rfl rfl (fun _wq _hq => r_geq rfl rfl) hS ?_
  refine WT_split (dd := some 7) 2 rfl (by kernel_rfl) (by kernel_rfl) (by kernel_rfl) rfl rfl rfl (fun wq hq => r_move (v := .bool _) rfl) hS (fun hs1_2 => ?_) (fun hs1_2 => ?_)
  ·
    try with_reducible replace hs1_2 := dec_t hs1_2
    refine WT_take (dd := some 8) 3 rfl (by kernel_rfl) (by kernel_rfl) (by kernel_rfl) rfl rfl rfl (fun _wq _hq => r_move (v := .int .i64 _) rfl) hS ?_
    refine WT_take (dd := some 9) 4 rfl (by kernel_rfl) (by kernel_rfl) (by kernel_rfl) rfl rfl rfl (fun _wq _hq => r_leq rfl rfl) hS ?_
    refine WT_take (dd := some 10) 5 rfl (by kernel_rfl) (by kernel_rfl) (by kernel_rfl) rfl rfl rfl (fun _wq _hq => r_pick_t rfl (v := .bool _) rfl) hS ?_
    refine WT_split (dd := some 11) 6 rfl (by kernel_rfl) (by kernel_rfl) (by kernel_rfl) rfl rfl rfl (fun wq hq => r_move (v := .bool _) rfl) hS (fun hs1_6 => ?_) (fun hs1_6 => ?_)
    ·
      try with_reducible replace hs1_6 := dec_t hs1_6
      refine WT_take (dd := some 12) 7 rfl (by kernel_rfl) (by kernel_rfl) (by kernel_rfl) rfl rfl rfl (fun _wq _hq => r_fieldAddr (b := _) (o := _) rfl tb_fo42_0) hS ?_
      refine WT_take (dd := some 13) 8 rfl (by kernel_rfl) (by kernel_rfl) (by kernel_rfl) rfl rfl rfl (fun _wq hq => r_load1 (v := .int .u8 _) rfl tb_sc5 (At.cell (hq.at hm0_0) rfl)) hS ?_
      refine WT_take (dd := some 14) 9 rfl (by kernel_rfl) (by kernel_rfl) (by kernel_rfl) rfl rfl rfl (fun _wq _hq => r_convN rfl Tryd.underlying5 Tryd.underlying3 (by simp only [topN]; omega)) hS ?_
      refine WT_take (dd := some 15) 10 rfl (by kernel_rfl) (by kernel_rfl) (by kernel_rfl) rfl rfl rfl (fun _wq _hq => r_move (v := .int .i64 _) rfl) hS ?_
      refine WT_take (dd := some 16) 11 rfl (by kernel_rfl) (by kernel_rfl) (by kernel_rfl) rfl rfl rfl (fun _wq _hq => r_shl (m := 1) rfl rfl (by omega) (by simp only [IntKind.bits]; omega) (by rw [Nat.one_mul]; have := h8 (by omega); simp only [topN]; omega)) hS ?_
      refine WT_take (dd := some 17) 12 rfl (by kernel_rfl) (by kernel_rfl) (by kernel_rfl) rfl rfl rfl (fun _wq _hq => r_lss rfl rfl) hS ?_
      refine WT_take (dd := some 18) 13 rfl (by kernel_rfl) (by kernel_rfl) (by kernel_rfl) rfl rfl rfl (fun _wq _hq => r_pick_t rfl (v := .bool _) rfl) hS ?_
      refine WT_split (dd := some 19) 14 rfl (by kernel_rfl) (by kernel_rfl) (by kernel_rfl) rfl rfl rfl (fun wq hq => r_move (v := .bool _) rfl) hS (fun hs1_14 => ?_) (fun hs1_14 => ?_)
      ·
        try with_reducible replace hs1_14 := dec_t hs1_14
        refine WT_take (dd := some 20) 15 rfl (by kernel_rfl) (by kernel_rfl) (by kernel_rfl) rfl rfl rfl (fun _wq _hq => r_fieldAddr (b := _) (o := _) rfl tb_fo42_1) hS ?_
        refine WT_take (dd := some 21) 16 rfl (by kernel_rfl) (by kernel_rfl) (by kernel_rfl) rfl rfl rfl (fun _wq hq => r_load1 (v := .int .u8 _) rfl tb_sc5 (At.cell (hq.at hm0_0) rfl)) hS ?_
        refine WT_take (dd := some 22) 17 rfl (by kernel_rfl) (by kernel_rfl) (by kernel_rfl) rfl rfl rfl (fun _wq _hq => r_fieldAddr (b := _) (o := _) rfl tb_fo42_0) hS ?_
        refine WT_take (dd := some 23) 18 rfl (by kernel_rfl) (by kernel_rfl) (by kernel_rfl) rfl rfl rfl (fun _wq hq => r_load1 (v := .int .u8 _) rfl tb_sc5 (At.cell (hq.at hm0_0) rfl)) hS ?_
        refine WT_take (dd := some 24) 19 rfl (by kernel_rfl) (by kernel_rfl) (by kernel_rfl) rfl rfl rfl (fun _wq _hq => r_andNot (n := _) rfl rfl rfl (by first | assumption | (simp only [topN]; omega) | (simp only [topN]; decide)) (by first | assumption | (simp only [topN]; omega) | (simp only [topN]; decide))) hS ?_
        refine WT_take (dd := some 25) 20 rfl (by kernel_rfl) (by kernel_rfl) (by kernel_rfl) rfl rfl rfl (fun _wq _hq => r_eql rfl rfl) hS ?_
        refine WT_take (dd := some 26) 21 rfl (by kernel_rfl) (by kernel_rfl) (by kernel_rfl) rfl rfl rfl (fun _wq _hq => r_pick_t rfl (v := .bool _) rfl) hS ?_
        refine WT_take (dd := some 4) 22 rfl (by kernel_rfl) (by kernel_rfl) (by kernel_rfl) rfl rfl rfl (fun _wq _hq => r_assign (v := .bool _) rfl) hS ?_
        refine WT_done (by kernel_rfl) ?_
        refine hK7 _ _ ?_
        clear hK7 K6
        refine WC_ret ?_
        repeat (first | refine thenQ_ret ?_ | refine blockQ_ret ?_)
        refine ret_t (v := .bool _) rfl ?_
        refine ⟨hB, ?_⟩
        first | exact congrArg Value.bool (right_v1 hs1_2 hs1_6 hs1_14) | exact congrArg Value.bool (right_v2 hs1_14) | exact congrArg Value.bool (right_neg (by omega)).symm
      ·
        try with_reducible replace hs1_14 := dec_f hs1_14
        refine WT_pass (dd := some 20) 15 rfl (by kernel_rfl) (by kernel_rfl) (by kernel_rfl) rfl rfl rfl hS ?_
        refine WT_pass (dd := some 21) 16 rfl (by kernel_rfl) (by kernel_rfl) (by kernel_rfl) rfl rfl rfl hS ?_
        refine WT_pass (dd := some 22) 17 rfl (by kernel_rfl) (by kernel_rfl) (by kernel_rfl) rfl rfl rfl hS ?_
        refine WT_pass (dd := some 23) 18 rfl (by kernel_rfl) (by kernel_rfl) (by kernel_rfl) rfl rfl rfl hS ?_
        refine WT_pass (dd := some 24) 19 rfl (by kernel_rfl) (by kernel_rfl) (by kernel_rfl) rfl rfl rfl hS ?_
        refine WT_pass (dd := some 25) 20 rfl (by kernel_rfl) (by kernel_rfl) (by kernel_rfl) rfl rfl rfl hS ?_
        refine WT_take (dd := some 26) 21 rfl (by kernel_rfl) (by kernel_rfl) (by kernel_rfl) rfl rfl rfl (fun _wq _hq => r_pick_f rfl (v := .bool false) rfl) hS ?_
        refine WT_take (dd := some 4) 22 rfl (by kernel_rfl) (by kernel_rfl) (by kernel_rfl) rfl rfl rfl (fun _wq _hq => r_assign (v := .bool false) rfl) hS ?_
        refine WT_done (by kernel_rfl) ?_
        refine hK7 _ _ ?_
        clear hK7 K6
        refine WC_ret ?_
        repeat (first | refine thenQ_ret ?_ | refine blockQ_ret ?_)
        refine ret_t (v := .bool false) rfl ?_
        refine ⟨hB, ?_⟩
        first | exact congrArg Value.bool (right_v1 hs1_2 hs1_6 hs1_14) | exact congrArg Value.bool (right_v2 hs1_14) | exact congrArg Value.bool (right_neg (by omega)).symm
    ·
      try with_reducible replace hs1_6 := dec_f hs1_6
      refine WT_pass (dd := some 12) 7 rfl (by kernel_rfl) (by kernel_rfl) (by kernel_rfl) rfl rfl rfl hS ?_
      refine WT_pass (dd := some 13) 8 rfl (by kernel_rfl) (by kernel_rfl) (by kernel_rfl) rfl rfl rfl hS ?_
      refine WT_pass (dd := some 14) 9 rfl (by kernel_rfl) (by kernel_rfl) (by kernel_rfl) rfl rfl rfl hS ?_
      refine WT_pass (dd := some 15) 10 rfl (by kernel_rfl) (by kernel_rfl) (by kernel_rfl) rfl rfl rfl hS ?_
      refine WT_pass (dd := some 16) 11 rfl (by kernel_rfl) (by kernel_rfl) (by kernel_rfl) rfl rfl rfl hS ?_
      refine WT_pass (dd := some 17) 12 rfl (by kernel_rfl) (by kernel_rfl) (by kernel_rfl) rfl rfl rfl hS ?_
      refine WT_take (dd := some 18) 13 rfl (by kernel_rfl) (by kernel_rfl) (by kernel_rfl) rfl rfl rfl (fun _wq _hq => r_pick_f rfl (v := .bool false) rfl) hS ?_
      refine WT_take (dd := some 19) 14 rfl (by kernel_rfl) (by kernel_rfl) (by kernel_rfl) rfl rfl rfl (fun _wq _hq => r_move (v := .bool false) rfl) hS ?_
      refine WT_pass (dd := some 20) 15 rfl (by kernel_rfl) (by kernel_rfl) (by kernel_rfl) rfl rfl rfl hS ?_
      refine WT_pass (dd := some 21) 16 rfl (by kernel_rfl) (by kernel_rfl) (by kernel_rfl) rfl rfl rfl hS ?_
      refine WT_pass (dd := some 22) 17 rfl (by kernel_rfl) (by kernel_rfl) (by kernel_rfl) rfl rfl rfl hS ?_
      refine WT_pass (dd := some 23) 18 rfl (by kernel_rfl) (by kernel_rfl) (by kernel_rfl) rfl rfl rfl hS ?_
      refine WT_pass (dd := some 24) 19 rfl (by kernel_rfl) (by kernel_rfl) (by kernel_rfl) rfl rfl rfl hS ?_
      refine WT_pass (dd := some 25) 20 rfl (by kernel_rfl) (by kernel_rfl) (by kernel_rfl) rfl rfl rfl hS ?_
      refine WT_take (dd := some 26) 21 rfl (by kernel_rfl) (by kernel_rfl) (by kernel_rfl) rfl rfl rfl (fun _wq _hq => r_pick_f rfl (v := .bool false) rfl) hS ?_
      refine WT_take (dd := some 4) 22 rfl (by kernel_rfl) (by kernel_rfl) (by kernel_rfl) rfl rfl rfl (fun _wq _hq => r_assign (v := .bool false) rfl) hS ?_
      refine WT_done (by kernel_rfl) ?_
      refine hK7 _ _ ?_
      clear hK7 K6
      refine WC_ret ?_
      repeat (first | refine thenQ_ret ?_ | refine blockQ_ret ?_)
      refine ret_t (v := .bool false) rfl ?_
      refine ⟨hB, ?_⟩
      first | exact congrArg Value.bool (right_v1 hs1_2 hs1_6 hs1_14) | exact congrArg Value.bool (right_v2 hs1_14) | exact congrArg Value.bool (right_neg (by omega)).symm
  ·
    try with_reducible replace hs1_2 := dec_f hs1_2
    refine WT_pass (dd := some 8) 3 rfl (by kernel_rfl) (by kernel_rfl) (by kernel_rfl) rfl rfl rfl hS ?_
    refine WT_pass (dd := some 9) 4 rfl (by kernel_rfl) (by kernel_rfl) (by kernel_rfl) rfl rfl rfl hS ?_
    refine WT_take (dd := some 10) 5 rfl (by kernel_rfl) (by kernel_rfl) (by kernel_rfl) rfl rfl rfl (fun _wq _hq => r_pick_f rfl (v := .bool false) rfl) hS ?_
    refine WT_take (dd := some 11) 6 rfl (by kernel_rfl) (by kernel_rfl) (by kernel_rfl) rfl rfl rfl (fun _wq _hq => r_move (v := .bool false) rfl) hS ?_
    refine WT_pass (dd := some 12) 7 rfl (by kernel_rfl) (by kernel_rfl) (by kernel_rfl) rfl rfl rfl hS ?_
    refine WT_pass (dd := some 13) 8 rfl (by kernel_rfl) (by kernel_rfl) (by kernel_rfl) rfl rfl rfl hS ?_
    refine WT_pass (dd := some 14) 9 rfl (by kernel_rfl) (by kernel_rfl) (by kernel_rfl) rfl rfl rfl hS ?_
    refine WT_pass (dd := some 15) 10 rfl (by kernel_rfl) (by kernel_rfl) (by kernel_rfl) rfl rfl rfl hS ?_
    refine WT_pass (dd := some 16) 11 rfl (by kernel_rfl) (by kernel_rfl) (by kernel_rfl) rfl rfl rfl hS ?_
    refine WT_pass (dd := some 17) 12 rfl (by kernel_rfl) (by kernel_rfl) (by kernel_rfl) rfl rfl rfl hS ?_
    refine WT_take (dd := some 18) 13 rfl (by kernel_rfl) (by kernel_rfl) (by kernel_rfl) rfl rfl rfl (fun _wq _hq => r_pick_f rfl (v := .bool false) rfl) hS ?_
    refine WT_take (dd := some 19) 14 rfl (by kernel_rfl) (by kernel_rfl) (by kernel_rfl) rfl rfl rfl (fun _wq _hq => r_move (v := .bool false) rfl) hS ?_
    refine WT_pass (dd := some 20) 15 rfl (by kernel_rfl) (by kernel_rfl) (by kernel_rfl) rfl rfl rfl hS ?_
    refine WT_pass (dd := some 21) 16 rfl (by kernel_rfl) (by kernel_rfl) (by kernel_rfl) rfl rfl rfl hS ?_
    refine WT_pass (dd := some 22) 17 rfl (by kernel_rfl) (by kernel_rfl) (by kernel_rfl) rfl rfl rfl hS ?_
    refine WT_pass (dd := some 23) 18 rfl (by kernel_rfl) (by kernel_rfl) (by kernel_rfl) rfl rfl rfl hS ?_
    refine WT_pass (dd := some 24) 19 rfl (by kernel_rfl) (by kernel_rfl) (by kernel_rfl) rfl rfl rfl hS ?_
    refine WT_pass (dd := some 25) 20 rfl (by kernel_rfl) (by kernel_rfl) (by kernel_rfl) rfl rfl rfl hS ?_
    refine WT_take (dd := some 26) 21 rfl (by kernel_rfl) (by kernel_rfl) (by kernel_rfl) rfl rfl rfl (fun _wq _hq => r_pick_f rfl (v := .bool false) rfl) hS ?_
    refine WT_take (dd := some 4) 22 rfl (by kernel_rfl) (by kernel_rfl) (by kernel_rfl) rfl rfl rfl (fun _wq _hq => r_assign (v := .bool false) rfl) hS ?_
    refine WT_done (by kernel_rfl) ?_
    refine hK7 _ _ ?_
    clear hK7 K6
    refine WC_ret ?_
    repeat (first | refine thenQ_ret ?_ | refine blockQ_ret ?_)
    refine ret_t (v := .bool false) rfl ?_
    refine ⟨hB, ?_⟩
    first | exact congrArg Value.bool (right_v1 hs1_2 hs1_6 hs1_14) | exact congrArg Value.bool (right_v2 hs1_14) | exact congrArg Value.bool (right_neg (by omega)).symm

theorem C_cube_Points (m u : Nat) (n : Int) (w : World) (hm : m < 256) (hv : u < 256) :
    Fn Tryd.prog 39 #[.agg #[.int .u8 (m : Int), .int .u8 (u : Int)], .int .i64 n] w fun v w' => v = if rightB m u n = true then .tuple #[setV (ptsS m u n.toNat), .int .i64 0] else .tuple #[setV 0, .int .i64 1] := by
  refine Fn_intro (n := 31) Tryd.func39 rfl rfl (Nat.le_of_ble_eq_true rfl) ?_
  have hB : Below w.heap.size w w := Below.refl _ _
  refine WC_seq (fun K1 hK2 => ?_)
  refine WC_region ?_
  refine WL_step (dd := some 2) rfl rfl rfl (Y_box (c := #[_, _]) rfl rfl (fun b0_0 W3 hb4 hE5 hm0_0 => ?_))
  have lo_b0_0 : w.heap.size ≤ b0_0 := hb4 ▸ (Below.size hB)
  clear hb4
  replace hB := below_ext hB hE5 (Nat.le_refl _)
  clear hE5
  refine WL_step (dd := some 4) rfl rfl rfl (Y_alloc tb_z51 rfl (fun b0_1 W6 hb7 hE8 hm0_1 => ?_))
  have lo_b0_1 : w.heap.size ≤ b0_1 := hb7 ▸ (Below.size hB)
  clear hb7
  replace hB := below_ext hB hE8 (Nat.le_refl _)
  replace hm0_0 := hE8.at hm0_0
  clear hE8
  replace hm0_1 : At W6 b0_1 #[wv 0 0, wv 0 1, wv 0 2, wv 0 3] 51 := hm0_1
  refine WL_val (dd := some 5) rfl rfl rfl (r_assign (v := .int .i64 0) rfl) ?_
  refine WL_nil ?_
  refine hK2 _ _ ?_
  clear hK2 K1
  refine WC_seq (fun K9 hK10 => ?_)
  refine WC_seq (fun K11 hK12 => ?_)
  refine WC_region ?_
  refine WL_val (dd := some 8) rfl rfl rfl (r_loadW rfl tb_ag42 rfl hm0_0) ?_
  refine WL_val (dd := some 9) rfl rfl rfl (r_move (v := .int .i64 _) rfl) ?_
  refine WL_call (dd := some 10) rfl rfl rfl (r_call2 tb_c27 (v0 := .agg #[_, _]) rfl (v1 := .int .i64 _) rfl) (C_cube_Right _ _ _ _ (by first | assumption | omega) (by first | assumption | omega)) (fun v1_2 W13 hE14 hP1_2 => ?_)
  have hsz15 := (Below.size hB)
  replace hB := below_ext hB hE14 (Nat.le_refl _)
  replace hm0_0 := hE14.at hm0_0
  replace hm0_1 := hE14.at hm0_1
  clear hE14
  clear hsz15
  obtain rfl := hP1_2
  refine WL_val (dd := some 11) rfl rfl rfl (r_not rfl) ?_
  refine WL_nil ?_
  refine hK12 _ _ ?_
  clear hK12 K11
  refine WC_cond (b := _) rfl (fun hc0 => ?_) (fun hc0 => ?_)
  ·
    try with_reducible replace hc0 := dec_t hc0
    refine WC_seq (fun K16 hK17 => ?_)
    refine WC_region ?_
    refine WL_val (dd := some 12) (v := setV 0) rfl rfl rfl (tb_build51_ ) ?_
    refine WL_step (dd := none) rfl rfl rfl (Y_storeW rfl rfl tb_ag51 rfl hm0_1 rfl (by rfl) (fun W18 hG19 hm20 => ?_))
    replace hB := below_grown hB hG19 (Nat.le_refl _) (fun j hj => by cases hj; exact lo_b0_1)
    replace hm0_0 := At.grownAt hm0_0 hm0_1 hG19 (by decide)
    clear hG19 hm0_1
    have hm0_1 := hm20
    clear hm20
    refine WL_val (dd := some 5) rfl rfl rfl (r_assign (v := .int .i64 1) rfl) ?_
    refine WL_nil ?_
    refine hK17 _ _ ?_
    clear hK17 K16
    refine WC_ret ?_
    repeat (first | refine thenQ_ret ?_ | refine blockQ_ret ?_)
    try clear hK10 K9
    refine ret_ct rfl tb_ag51 hm0_1 rfl (v1 := .int .i64 1) rfl ?_
    refine ⟨hB, ?_⟩
    rw [if_neg (by simpa using hc0)]
  ·
    try with_reducible replace hc0 := dec_f hc0
    refine WC_skip ?_
    refine hK10 _ _ ?_
    clear hK10 K9
    refine WC_seq (fun K21 hK22 => ?_)
    have hr : rightB m u n = true := by simpa using hc0
    obtain ⟨hn0, hn8, hmn, hvm⟩ := rightB_iff.1 hr
    have hp := two_pow_le hn8
    refine WC_region ?_
    refine WL_step (dd := some 6) rfl rfl rfl (Y_alloc tb_z51 rfl (fun b3_0 W23 hb24 hE25 hm3_0 => ?_))
    have lo_b3_0 : w.heap.size ≤ b3_0 := hb24 ▸ (Below.size hB)
    have ne_b0_1_b3_0 : b0_1 ≠ b3_0 := Nat.ne_of_lt (hb24 ▸ hm0_1.lt)
    clear hb24
    replace hB := below_ext hB hE25 (Nat.le_refl _)
    replace hm0_0 := hE25.at hm0_0
    replace hm0_1 := hE25.at hm0_1
    clear hE25
    replace hm3_0 : At W23 b3_0 #[wv 0 0, wv 0 1, wv 0 2, wv 0 3] 51 := hm3_0
    refine WL_nil ?_
    refine hK22 _ _ ?_
    clear hK22 K21
    refine WC_seq (fun K26 hK27 => ?_)
    refine WC_seq (fun K28 hK29 => ?_)
    refine WC_region ?_
    refine WL_val (dd := some 13) rfl rfl rfl (r_move (v := .int .i64 _) rfl) ?_
    refine WL_val (dd := some 14) rfl rfl rfl (r_shl (m := 1) rfl rfl (by omega) (by simp only [IntKind.bits]; omega) (by rw [Nat.one_mul]; simp only [topN]; omega)) ?_
    refine WL_val (dd := some 15) rfl rfl rfl (r_move (v := .int .i64 0) rfl) ?_
    refine WL_nil ?_
    refine hK29 _ _ ?_
    clear hK29 K28
    refine WC_block ?_
    refine WC_loop (σ := (Nat)) [7, 15, 16, 17, 18, 19, 20, 21, 22, 23, 24, 25, 26, 27, 28, 29] (fun k => [(15, .int .i64 (k : Int))]) (fun k W => (Below w.heap.size w W) ∧ (At W b0_0 _ 42) ∧ (At W b0_1 _ 51) ∧ (At W b3_0 #[wv (ptsTo m u k) 0, wv (ptsTo m u k) 1, wv (ptsTo m u k) 2, wv (ptsTo m u k) 3] 51) ∧ (k ≤ 2 ^ n.toNat) ∧ (True)) (fun k => 2 ^ n.toNat - k) (0) ⟨rfl, trivial⟩ ⟨hB, hm0_0, hm0_1, hm3_0, (Nat.zero_le _), trivial⟩ ?_
    clear hB hm0_0 hm0_1 hm3_0
    rintro k g31 W30 ⟨hB, hm0_0, hm0_1, hm3_0, hk, _⟩ J32 hJ33
    refine WC_seq (fun K34 hK35 => ?_)
    refine WC_region ?_
    refine WL_val (dd := some 16) rfl rfl rfl (r_lss rfl rfl) ?_
    refine WL_nil ?_
    refine hK35 _ _ ?_
    clear hK35 K34
    refine WC_seq (fun K36 hK37 => ?_)
    refine WC_cond (b := _) rfl (fun hc1 => ?_) (fun hc1 => ?_)
    ·
      try with_reducible replace hc1 := dec_t hc1
      refine WC_skip ?_
      refine hK37 _ _ ?_
      clear hK37 K36
      refine WC_seq (fun K38 hK39 => ?_)
      refine WC_block ?_
      refine WC_seq (fun K40 hK41 => ?_)
      refine WC_region ?_
      refine WL_val (dd := some 17) rfl rfl rfl (r_move (v := .int .i64 _) rfl) ?_
      refine WL_val (dd := some 7) rfl rfl rfl (r_assign (v := .int .i64 _) rfl) ?_
      refine WL_nil ?_
      refine hK41 _ _ ?_
      clear hK41 K40
      refine WC_seq (fun K42 hK43 => ?_)
      refine WC_region ?_
      refine WL_val (dd := some 18) rfl rfl rfl (r_move (v := .int .i64 _) rfl) ?_
      refine WL_val (dd := some 19) rfl rfl rfl (r_convN rfl Tryd.underlying3 Tryd.underlying5 (by simp only [topN]; omega)) ?_
      refine WL_val (dd := some 20) rfl rfl rfl (r_fieldAddr (b := _) (o := _) rfl tb_fo42_0) ?_
      refine WL_val (dd := some 21) rfl rfl rfl (r_load1 (v := .int .u8 _) rfl tb_sc5 (At.cell hm0_0 rfl)) ?_
      refine WL_val (dd := some 22) rfl rfl rfl (r_and (n := _) rfl rfl rfl (by first | assumption | (simp only [topN]; omega) | (simp only [topN]; decide)) (by first | assumption | (simp only [topN]; omega) | (simp only [topN]; decide))) ?_
      refine WL_val (dd := some 23) rfl rfl rfl (r_fieldAddr (b := _) (o := _) rfl tb_fo42_1) ?_
      refine WL_val (dd := some 24) rfl rfl rfl (r_load1 (v := .int .u8 _) rfl tb_sc5 (At.cell hm0_0 rfl)) ?_
      refine WL_val (dd := some 25) rfl rfl rfl (r_eql rfl rfl) ?_
      refine WL_nil ?_
      refine hK43 _ _ ?_
      clear hK43 K42
      refine WC_cond (b := _) rfl (fun hc2 => ?_) (fun hc2 => ?_)
      ·
        try with_reducible replace hc2 := dec_t hc2
        refine WC_region ?_
        refine WL_val (dd := some 26) rfl rfl rfl (r_loadW rfl tb_ag51 rfl hm3_0) ?_
        refine WL_val (dd := some 27) rfl rfl rfl (r_move (v := .int .i64 _) rfl) ?_
        refine WL_call (dd := some 28) rfl rfl rfl (r_call2 tb_c43 (v0 := .agg #[_, _, _, _]) rfl (v1 := .int .i64 _) rfl) (C_set_With _ _ _) (fun v8_2 W44 hE45 hP8_2 => ?_)
        have hsz46 := (Below.size hB)
        replace hB := below_ext hB hE45 (Nat.le_refl _)
        replace hm0_0 := hE45.at hm0_0
        replace hm0_1 := hE45.at hm0_1
        replace hm3_0 := hE45.at hm3_0
        clear hE45
        clear hsz46
        obtain rfl := hP8_2
        refine WL_step (dd := none) rfl rfl rfl (Y_storeW rfl rfl tb_ag51 rfl hm3_0 rfl (by rfl) (fun W47 hG48 hm49 => ?_))
        replace hB := below_grown hB hG48 (Nat.le_refl _) (fun j hj => by cases hj; exact lo_b3_0)
        replace hm0_0 := At.grownAt hm0_0 hm3_0 hG48 (by decide)
        replace hm0_1 := At.grownNe hm0_1 ne_b0_1_b3_0 hG48
        clear hG48 hm3_0
        have hm3_0 := hm49
        clear hm49
        refine WL_nil ?_
        refine hK39 _ _ ?_
        clear hK39 K38
        refine WC_region ?_
        refine WL_val (dd := some 29) rfl rfl rfl (r_addI rfl rfl (by omega) (by omega)) ?_
        refine WL_val (dd := some 15) rfl rfl rfl (r_move (v := .int .i64 _) rfl) ?_
        refine WL_nil ?_
        refine hJ33 _ _ (k + 1) ?_ ?_ ?_ ?_
        · repeat (first | exact agree.mask _ _ _ | refine agree.updo ?_ rfl _ | refine agree.updL ?_ _ rfl | refine agree.maskS rfl ?_)
        · exact ⟨rfl, trivial⟩
        · exact ⟨hB, hm0_0, hm0_1, (by first | (rw [ptsTo_t hc2]; exact hm3_0) | (rw [ptsTo_f hc2]; exact hm3_0)), (by simp only [Nat.one_mul] at *; omega), trivial⟩
        · simp only [Nat.one_mul] at *; omega
      ·
        try with_reducible replace hc2 := dec_f hc2
        refine WC_skip ?_
        refine hK39 _ _ ?_
        clear hK39 K38
        refine WC_region ?_
        refine WL_val (dd := some 29) rfl rfl rfl (r_addI rfl rfl (by omega) (by omega)) ?_
        refine WL_val (dd := some 15) rfl rfl rfl (r_move (v := .int .i64 _) rfl) ?_
        refine WL_nil ?_
        refine hJ33 _ _ (k + 1) ?_ ?_ ?_ ?_
        · repeat (first | exact agree.mask _ _ _ | refine agree.updo ?_ rfl _ | refine agree.updL ?_ _ rfl | refine agree.maskS rfl ?_)
        · exact ⟨rfl, trivial⟩
        · exact ⟨hB, hm0_0, hm0_1, (by first | (rw [ptsTo_t hc2]; exact hm3_0) | (rw [ptsTo_f hc2]; exact hm3_0)), (by simp only [Nat.one_mul] at *; omega), trivial⟩
        · simp only [Nat.one_mul] at *; omega
    ·
      try with_reducible replace hc1 := dec_f hc1
      refine WC_exit ?_
      refine hK27 _ _ ?_
      clear hK37 K36
      clear hJ33 J32
      clear hK27 K26
      refine WC_seq (fun K50 hK51 => ?_)
      refine WC_region ?_
      refine WL_val (dd := some 30) rfl rfl rfl (r_loadW rfl tb_ag51 rfl hm3_0) ?_
      refine WL_step (dd := none) rfl rfl rfl (Y_storeW rfl rfl tb_ag51 rfl hm0_1 rfl (by rfl) (fun W52 hG53 hm54 => ?_))
      replace hB := below_grown hB hG53 (Nat.le_refl _) (fun j hj => by cases hj; exact lo_b0_1)
      replace hm0_0 := At.grownAt hm0_0 hm0_1 hG53 (by decide)
      replace hm3_0 := At.grownNe hm3_0 (Ne.symm ne_b0_1_b3_0) hG53
      clear hG53 hm0_1
      have hm0_1 := hm54
      clear hm54
      refine WL_val (dd := some 5) rfl rfl rfl (r_assign (v := .int .i64 0) rfl) ?_
      refine WL_nil ?_
      refine hK51 _ _ ?_
      clear hK51 K50
      refine WC_ret ?_
      repeat (first | refine thenQ_ret ?_ | refine blockQ_ret ?_)
      refine ret_ct rfl tb_ag51 hm0_1 rfl (v1 := .int .i64 0) rfl ?_
      refine ⟨hB, ?_⟩
      have hk2 : k = 2 ^ n.toNat := by simp only [Nat.one_mul] at *; omega
      subst hk2
      rw [if_pos hr]; rfl

end Go.Proofs.YtnkaebjaeaecmaaDoor
