/-
  The walks of package cube, and of the document's answer for primes.
-/
import Derived.Test.YtnkaebjaeaecmaaDoorProg
import Derived.Test.YtnkaebjaeaecmaaDoorPrime
import Derived.Test.YtnkaebjaeaecmaaDoorWSet
import Derived.Test.YtnkaebjaeaecmaaDoorWRef
namespace Go.Proofs.YtnkaebjaeaecmaaDoor
set_option linter.unusedVariables false
set_option linter.unusedSimpArgs false
open Go Go.RowKit

theorem tb_c27 : callB Tryd.prog 27 = true := by kernel_rfl

theorem C_cube_Right (m u : Nat) (n : Int) (w : World) (hm : m < 256) (hv : u < 256) :
    Fn Tryd.prog 27 #[.agg #[.int .u8 (m : Int), .int .u8 (u : Int)], .int .i64 n] w fun v w' => v = .bool (rightB m u n) := by
  refine Fn_intro (n := 27) Tryd.func27 rfl rfl (Nat.le_of_ble_eq_true rfl) ?_
  have hB : Below w.heap.size w w := Below.refl _ _
  refine WC_seq (fun K1 hK2 => ?_)
  refine WC_region ?_
  refine WL_step (dd := some 2) rfl rfl rfl (Y_box (c := #[_, _]) rfl rfl (fun b0_0 W3 hb4 hE5 hm0_0 => ?_))
  have lo_b0_0 : w.heap.size ≤ b0_0 := hb4 ▸ (Below.size hB)
  clear hb4
  replace hB := below_ext hB hE5 (Nat.le_refl _)
  clear hE5
  refine WL_val (dd := some 4) rfl rfl rfl (r_assign (v := .bool false) rfl) ?_
  refine WL_nil ?_
  refine hK2 _ _ ?_
  clear hK2 K1
  refine WC_seq (fun K6 hK7 => ?_)
  have h8 : n ≤ 8 → 2 ^ n.toNat ≤ 256 := two_pow_le
  refine WC_draw Ext tb_mix (fun W8 hE9 => ?_)
  replace hB := below_ext hB hE9 (Nat.le_refl _)
  replace hm0_0 := hE9.at hm0_0
  have hS := Ext.refl W8
  refine WT_take (dd := some 5) 0 rfl (by kernel_rfl) (by kernel_rfl) (by kernel_rfl) rfl rfl rfl (fun _wq _hq => r_move (v := .int .i64 _) rfl) hS ?_
  refine WT_take (dd := some 6) 1 rfl (by kernel_rfl) (by kernel_rfl) (by kernel_rfl) rfl rfl rfl (fun _wq _hq => r_geq rfl rfl) hS ?_
  refine WT_split (dd := some 7) 2 rfl (by kernel_rfl) (by kernel_rfl) (by kernel_rfl) rfl rfl rfl (fun wq hq => r_move (v := .bool _) rfl) hS (fun hs1_2 => ?_) (fun hs1_2 => ?_)
  ·
    try with_reducible replace hs1_2 := dec_t hs1_2
    refine WT_take (dd := some 8) 3 rfl (by kernel_rfl) (by kernel_rfl) (by kernel_rfl) rfl rfl rfl (fun _wq _hq => r_move (v := .int .i64 _) rfl) hS ?_
    refine WT_take (dd := some 9) 4 rfl (by kernel_rfl) (by kernel_rfl) (by kernel_rfl) rfl rfl rfl (fun _wq _hq => r_leq rfl rfl) hS ?_
    refine WT_take (dd := some 10) 5 rfl (by kernel_rfl) (by kernel_rfl) (by kernel_rfl) rfl rfl rfl (fun _wq _hq => r_pick_t rfl (v := .bool _) rfl) hS ?_
    refine WT_split (dd := some 11) 6 rfl (by kernel_rfl) (by kernel_rfl) (by kernel_rfl) rfl rfl rfl (fun wq hq => r_move (v := .bool _) rfl) hS (fun hs1_6 => ?_) (fun hs1_6 => ?_)
    ·
      try with_reducible replace hs1_6 := dec_t hs1_6
      refine WT_take (dd := some 12) 7 rfl (by kernel_rfl) (by kernel_rfl) (by kernel_rfl) rfl rfl rfl (fun _wq _hq => r_fieldAddr (b := _) (o := _) rfl tb_fo42_0) hS ?_
      refine WT_take (dd := some 13) 8 rfl (by kernel_rfl) (by kernel_rfl) (by kernel_rfl) rfl rfl rfl (fun _wq hq => r_load1 (v := .int .u8 _) rfl tb_sc5 (At.cell (hq.at hm0_0) rfl)) hS ?_
      refine WT_take (dd := some 14) 9 rfl (by kernel_rfl) (by kernel_rfl) (by kernel_rfl) rfl rfl rfl (fun _wq _hq => r_convN rfl Tryd.underlying5 Tryd.underlying3 (by simp only [topN]; omega)) hS ?_
      refine WT_take (dd := some 15) 10 rfl (by kernel_rfl) (by kernel_rfl) (by kernel_rfl) rfl rfl rfl (fun _wq _hq => r_move (v := .int .i64 _) rfl) hS ?_
      refine WT_take (dd := some 16) 11 rfl (by kernel_rfl) (by kernel_rfl) (by kernel_rfl) rfl rfl rfl (fun _wq _hq => r_shl (m := 1) rfl rfl (by omega) (by simp only [IntKind.bits]; omega) (by rw [Nat.one_mul]; have := h8 (by omega); simp only [topN]; omega)) hS ?_
      refine WT_take (dd := some 17) 12 rfl (by kernel_rfl) (by kernel_rfl) (by kernel_rfl) rfl rfl rfl (fun _wq _hq => r_lss rfl rfl) hS ?_
      refine WT_take (dd := some 18) 13 rfl (by kernel_rfl) (by kernel_rfl) (by kernel_rfl) rfl rfl rfl (fun _wq _hq => r_pick_t rfl (v := .bool _) rfl) hS ?_
      refine WT_split (dd := some 19) 14 rfl (by kernel_rfl) (by kernel_rfl) (by kernel_rfl) rfl rfl rfl (fun wq hq => r_move (v := .bool _) rfl) hS (fun hs1_14 => ?_) (fun hs1_14 => ?_)
      ·
        try with_reducible replace hs1_14 := dec_t hs1_14
        refine WT_take (dd := some 20) 15 rfl (by kernel_rfl) (by kernel_rfl) (by kernel_rfl) rfl rfl rfl (fun _wq _hq => r_fieldAddr (b := _) (o := _) rfl tb_fo42_1) hS ?_
        refine WT_take (dd := some 21) 16 rfl (by kernel_rfl) (by kernel_rfl) (by kernel_rfl) rfl rfl rfl (fun _wq hq => r_load1 (v := .int .u8 _) rfl tb_sc5 (At.cell (hq.at hm0_0) rfl)) hS ?_
        refine WT_take (dd := some 22) 17 rfl (by kernel_rfl) (by kernel_rfl) (by kernel_rfl) rfl rfl rfl (fun _wq _hq => r_fieldAddr (b := _) (o := _) rfl tb_fo42_0) hS ?_
        refine WT_take (dd := some 23) 18 rfl (by kernel_rfl) (by kernel_rfl) (by kernel_rfl) rfl rfl rfl (fun _wq hq => r_load1 (v := .int .u8 _) rfl tb_sc5 (At.cell (hq.at hm0_0) rfl)) hS ?_
        refine WT_take (dd := some 24) 19 rfl (by kernel_rfl) (by kernel_rfl) (by kernel_rfl) rfl rfl rfl (fun _wq _hq => r_andNot (n := _) rfl rfl rfl (by first | assumption | (simp only [topN]; omega) | (simp only [topN]; decide)) (by first | assumption | (simp only [topN]; omega) | (simp only [topN]; decide))) hS ?_
        refine WT_take (dd := some 25) 20 rfl (by kernel_rfl) (by kernel_rfl) (by kernel_rfl) rfl rfl rfl (fun _wq _hq => r_eql rfl rfl) hS ?_
        refine WT_take (dd := some 26) 21 rfl (by kernel_rfl) (by kernel_rfl) (by kernel_rfl) rfl rfl rfl (fun _wq _hq => r_pick_t rfl (v := .bool _) rfl) hS ?_
        refine WT_take (dd := some 4) 22 rfl (by kernel_rfl) (by kernel_rfl) (by kernel_rfl) rfl rfl rfl (fun _wq _hq => r_assign (v := .bool _) rfl) hS ?_
        refine WT_done (by kernel_rfl) ?_
        refine hK7 _ _ ?_
        clear hK7 K6
        refine WC_ret ?_
        repeat (first | refine thenQ_ret ?_ | refine blockQ_ret ?_)
        refine ret_t (v := .bool _) rfl ?_
        refine ⟨hB, ?_⟩
        first | exact congrArg Value.bool (right_v1 hs1_2 hs1_6 hs1_14) | exact congrArg Value.bool (right_v2 hs1_14) | exact congrArg Value.bool (right_neg (by omega)).symm
      ·
        try with_reducible replace hs1_14 := dec_f hs1_14
        refine WT_pass (dd := some 20) 15 rfl (by kernel_rfl) (by kernel_rfl) (by kernel_rfl) rfl rfl rfl hS ?_
        refine WT_pass (dd := some 21) 16 rfl (by kernel_rfl) (by kernel_rfl) (by kernel_rfl) rfl rfl rfl hS ?_
        refine WT_pass (dd := some 22) 17 rfl (by kernel_rfl) (by kernel_rfl) (by kernel_rfl) rfl rfl rfl hS ?_
        refine WT_pass (dd := some 23) 18 rfl (by kernel_rfl) (by kernel_rfl) (by kernel_rfl) rfl rfl rfl hS ?_
        refine WT_pass (dd := some 24) 19 rfl (by kernel_rfl) (by kernel_rfl) (by kernel_rfl) rfl rfl rfl hS ?_
        refine WT_pass (dd := some 25) 20 rfl (by kernel_rfl) (by kernel_rfl) (by kernel_rfl) rfl rfl rfl hS ?_
        refine WT_take (dd := some 26) 21 rfl (by kernel_rfl) (by kernel_rfl) (by kernel_rfl) rfl rfl rfl (fun _wq _hq => r_pick_f rfl (v := .bool false) rfl) hS ?_
        refine WT_take (dd := some 4) 22 rfl (by kernel_rfl) (by kernel_rfl) (by kernel_rfl) rfl rfl rfl (fun _wq _hq => r_assign (v := .bool false) rfl) hS ?_
        refine WT_done (by kernel_rfl) ?_
        refine hK7 _ _ ?_
        clear hK7 K6
        refine WC_ret ?_
        repeat (first | refine thenQ_ret ?_ | refine blockQ_ret ?_)
        refine ret_t (v := .bool false) rfl ?_
        refine ⟨hB, ?_⟩
        first | exact congrArg Value.bool (right_v1 hs1_2 hs1_6 hs1_14) | exact congrArg Value.bool (right_v2 hs1_14) | exact congrArg Value.bool (right_neg (by omega)).symm
    ·
      try with_reducible replace hs1_6 := dec_f hs1_6
      refine WT_pass (dd := some 12) 7 rfl (by kernel_rfl) (by kernel_rfl) (by kernel_rfl) rfl rfl rfl hS ?_
      refine WT_pass (dd := some 13) 8 rfl (by kernel_rfl) (by kernel_rfl) (by kernel_rfl) rfl rfl rfl hS ?_
      refine WT_pass (dd := some 14) 9 rfl (by kernel_rfl) (by kernel_rfl) (by kernel_rfl) rfl rfl rfl hS ?_
      refine WT_pass (dd := some 15) 10 rfl (by kernel_rfl) (by kernel_rfl) (by kernel_rfl) rfl rfl rfl hS ?_
      refine WT_pass (dd := some 16) 11 rfl (by kernel_rfl) (by kernel_rfl) (by kernel_rfl) rfl rfl rfl hS ?_
      refine WT_pass (dd := some 17) 12 rfl (by kernel_rfl) (by kernel_rfl) (by kernel_rfl) rfl rfl rfl hS ?_
      refine WT_take (dd := some 18) 13 rfl (by kernel_rfl) (by kernel_rfl) (by kernel_rfl) rfl rfl rfl (fun _wq _hq => r_pick_f rfl (v := .bool false) rfl) hS ?_
      refine WT_take (dd := some 19) 14 rfl (by kernel_rfl) (by kernel_rfl) (by kernel_rfl) rfl rfl rfl (fun _wq _hq => r_move (v := .bool false) rfl) hS ?_
      refine WT_pass (dd := some 20) 15 rfl (by kernel_rfl) (by kernel_rfl) (by kernel_rfl) rfl rfl rfl hS ?_
      refine WT_pass (dd := some 21) 16 rfl (by kernel_rfl) (by kernel_rfl) (by kernel_rfl) rfl rfl rfl hS ?_
      refine WT_pass (dd := some 22) 17 rfl (by kernel_rfl) (by kernel_rfl) (by kernel_rfl) rfl rfl rfl hS ?_
      refine WT_pass (dd := some 23) 18 rfl (by kernel_rfl) (by kernel_rfl) (by kernel_rfl) rfl rfl rfl hS ?_
      refine WT_pass (dd := some 24) 19 rfl (by kernel_rfl) (by kernel_rfl) (by kernel_rfl) rfl rfl rfl hS ?_
      refine WT_pass (dd := some 25) 20 rfl (by kernel_rfl) (by kernel_rfl) (by kernel_rfl) rfl rfl rfl hS ?_
      refine WT_take (dd := some 26) 21 rfl (by kernel_rfl) (by kernel_rfl) (by kernel_rfl) rfl rfl rfl (fun _wq _hq => r_pick_f rfl (v := .bool false) rfl) hS ?_
      refine WT_take (dd := some 4) 22 rfl (by kernel_rfl) (by kernel_rfl) (by kernel_rfl) rfl rfl rfl (fun _wq _hq => r_assign (v := .bool false) rfl) hS ?_
      refine WT_done (by kernel_rfl) ?_
      refine hK7 _ _ ?_
      clear hK7 K6
      refine WC_ret ?_
      repeat (first | refine thenQ_ret ?_ | refine blockQ_ret ?_)
      refine ret_t (v := .bool false) rfl ?_
      refine ⟨hB, ?_⟩
      first | exact congrArg Value.bool (right_v1 hs1_2 hs1_6 hs1_14) | exact congrArg Value.bool (right_v2 hs1_14) | exact congrArg Value.bool (right_neg (by omega)).symm
  ·
    try with_reducible replace hs1_2 := dec_f hs1_2
    refine WT_pass (dd := some 8) 3 rfl (by kernel_rfl) (by kernel_rfl) (by kernel_rfl) rfl rfl rfl hS ?_
    refine WT_pass (dd := some 9) 4 rfl (by kernel_rfl) (by kernel_rfl) (by kernel_rfl) rfl rfl rfl hS ?_
    refine WT_take (dd := some 10) 5 rfl (by kernel_rfl) (by kernel_rfl) (by kernel_rfl) rfl rfl rfl (fun _wq _hq => r_pick_f rfl (v := .bool false) rfl) hS ?_
    refine WT_take (dd := some 11) 6 rfl (by kernel_rfl) (by kernel_rfl) (by kernel_rfl) rfl rfl rfl (fun _wq _hq => r_move (v := .bool false) rfl) hS ?_
    refine WT_pass (dd := some 12) 7 rfl (by kernel_rfl) (by kernel_rfl) (by kernel_rfl) rfl rfl rfl hS ?_
    refine WT_pass (dd := some 13) 8 rfl (by kernel_rfl) (by kernel_rfl) (by kernel_rfl) rfl rfl rfl hS ?_
    refine WT_pass (dd := some 14) 9 rfl (by kernel_rfl) (by kernel_rfl) (by kernel_rfl) rfl rfl rfl hS ?_
    refine WT_pass (dd := some 15) 10 rfl (by kernel_rfl) (by kernel_rfl) (by kernel_rfl) rfl rfl rfl hS ?_
    refine WT_pass (dd := some 16) 11 rfl (by kernel_rfl) (by kernel_rfl) (by kernel_rfl) rfl rfl rfl hS ?_
    refine WT_pass (dd := some 17) 12 rfl (by kernel_rfl) (by kernel_rfl) (by kernel_rfl) rfl rfl rfl hS ?_
    refine WT_take (dd := some 18) 13 rfl (by kernel_rfl) (by kernel_rfl) (by kernel_rfl) rfl rfl rfl (fun _wq _hq => r_pick_f rfl (v := .bool false) rfl) hS ?_
    refine WT_take (dd := some 19) 14 rfl (by kernel_rfl) (by kernel_rfl) (by kernel_rfl) rfl rfl rfl (fun _wq _hq => r_move (v := .bool false) rfl) hS ?_
    refine WT_pass (dd := some 20) 15 rfl (by kernel_rfl) (by kernel_rfl) (by kernel_rfl) rfl rfl rfl hS ?_
    refine WT_pass (dd := some 21) 16 rfl (by kernel_rfl) (by kernel_rfl) (by kernel_rfl) rfl rfl rfl hS ?_
    refine WT_pass (dd := some 22) 17 rfl (by kernel_rfl) (by kernel_rfl) (by kernel_rfl) rfl rfl rfl hS ?_
    refine WT_pass (dd := some 23) 18 rfl (by kernel_rfl) (by kernel_rfl) (by kernel_rfl) rfl rfl rfl hS ?_
    refine WT_pass (dd := some 24) 19 rfl (by kernel_rfl) (by kernel_rfl) (by kernel_rfl) rfl rfl rfl hS ?_
    refine WT_pass (dd := some 25) 20 rfl (by kernel_rfl) (by kernel_rfl) (by kernel_rfl) rfl rfl rfl hS ?_
    refine WT_take (dd := some 26) 21 rfl (by kernel_rfl) (by kernel_rfl) (by kernel_rfl) rfl rfl rfl (fun _wq _hq => r_pick_f rfl (v := .bool false) rfl) hS ?_
    refine WT_take (dd := some 4) 22 rfl (by kernel_rfl) (by kernel_rfl) (by kernel_rfl) rfl rfl rfl (fun _wq _hq => r_assign (v := .bool false) rfl) hS ?_
    refine WT_done (by kernel_rfl) ?_
    refine hK7 _ _ ?_
    clear hK7 K6
    refine WC_ret ?_
    repeat (first | refine thenQ_ret ?_ | refine blockQ_ret ?_)
    refine ret_t (v := .bool false) rfl ?_
    refine ⟨hB, ?_⟩
    first | exact congrArg Value.bool (right_v1 hs1_2 hs1_6 hs1_14) | exact congrArg Value.bool (right_v2 hs1_14) | exact congrArg Value.bool (right_neg (by omega)).symm

end Go.Proofs.YtnkaebjaeaecmaaDoor
