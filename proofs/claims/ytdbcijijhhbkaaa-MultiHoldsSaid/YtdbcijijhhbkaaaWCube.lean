/-
  The walks of package cube, and of the document's answer for primes.
-/
import Derived.Test.YtdbcijijhhbkaaaProg
import Derived.Test.YtdbcijijhhbkaaaPrime
import Derived.Test.YtdbcijijhhbkaaaWSet
import Derived.Test.YtdbcijijhhbkaaaWRef
namespace Go.Proofs.Ytdbcijijhhbkaaa
set_option linter.unusedVariables false
set_option linter.unusedSimpArgs false
open Go Go.RowKit

theorem tb_c88 : callB Try.prog 88 = true := by kernel_rfl
theorem tb_size5 : (Try.prog.info? 5).map (·.size) = some 1 := by kernel_rfl
theorem tb_build34_0_1 {f : Nat → Value} {w : World} {d : Option Nat} {ty : TypeId} {ps : String} {af : Array Edge} {g : Option (Nat × Bool)} {x0 x1 : Operand} {c0_0 c1_0 : Value} (h0 : evF f x0 = c0_0) (k0 : c0_0.cells = #[c0_0]) (h1 : evF f x1 = c1_0) (k1 : c1_0.cells = #[c1_0]) :
    (execOp (evF f) ⟨d, .build 34 #[(0, x0), (1, x1)], ty, ps, af, g⟩).run Try.prog w = .ok (.value (.agg #[c0_0, c1_0])) w := by
  obtain ⟨i0, hi0, hz0⟩ := Option.bind_eq_some_iff.1 (show (Try.prog.info? 34).bind (·.zero) = _ from tb_z34)
  obtain ⟨j5, hj5, hs5⟩ := Option.map_eq_some_iff.1 tb_size5
  simp [execOp, h0, k0, h1, k1, Instr.build, zeroValue, typeInfo, sizeOf, hi0, hz0, run_underlying Try.underlying34, Instr.fill, cells_agg, hj5, hs5]
theorem tb_c133 : callB Try.prog 133 = true := by kernel_rfl
theorem tb_c42 : callB Try.prog 42 = true := by kernel_rfl
theorem tb_c92 : callB Try.prog 92 = true := by kernel_rfl
theorem tb_c93 : callB Try.prog 93 = true := by kernel_rfl
theorem tb_c32 : callB Try.prog 32 = true := by kernel_rfl
theorem tb_c87 : callB Try.prog 87 = true := by kernel_rfl
theorem tb_el27 : elemI Try.prog 27 = some (34, 2, 2) := by kernel_rfl
theorem tb_neq34 {f : Nat → Value} {w : World} {d : Option Nat} {ty t2 : TypeId} {ps : String} {af : Array Edge} {g : Option (Nat × Bool)} {x y : Operand} {a0 a1 b0 b1 : Int} (hx : evF f x = .agg #[.int .u8 a0, .int .u8 a1]) (hy : evF f y = .agg #[.int .u8 b0, .int .u8 b1]) :
    (execOp (evF f) ⟨d, .binOp .neq 34 x y t2, ty, ps, af, g⟩).run Try.prog w = .ok (.value (.bool (decide (¬ (a0 = b0 ∧ a1 = b1))))) w := by
  have hg : Try.prog.eqGuardType Try.prog.depth 34 = false := by kernel_rfl
  have hp34 : Try.prog.stoodInHeld 34 = false := by kernel_rfl
  have hu34 : Try.prog.underlying 34 = some (.struct (Try.prog.fieldsOf 34)) := by kernel_rfl
  simp only [execOp, hx, hy, Sem.run_bind, run_eqGuard_agg _ _ _ _ _ _ _ hg, Result.andThen_ok, run_neq_struct, run_equalIn_agg _ 9999 34 _ _ hu34 hp34]
  simp only [Program.fieldsOf, Try.underlying34]
  simp [Op.eqFields, part, isAgg, run_equalIn_int _ 9998 5 _ _ _ _ Try.underlying5, run_underlying Try.underlying5]
  by_cases q0 : a0 = b0 <;> by_cases q1 : a1 = b1 <;> simp [q0, q1]
theorem tb_c28 : callB Try.prog 28 = true := by kernel_rfl
theorem tb_zs34 : (zeroI Try.prog 34).map (fun z => z.cells.size) = some 2 := by kernel_rfl

theorem C_cube_Right (m u : Nat) (n : Int) (w : World) (hm : m < 256) (hv : u < 256) :
    Fn Try.prog 88 #[.agg #[.int .u8 (m : Int), .int .u8 (u : Int)], .int .i64 n] w fun v w' => v = .bool (rightB m u n) := by
  refine Fn_intro (n := 27) Try.func88 rfl rfl (Nat.le_of_ble_eq_true rfl) ?_
  have hB : Below w.heap.size w w := Below.refl _ _
  refine WC_seq (fun K1 hK2 => ?_)
  refine WC_region ?_
  refine WL_step (dd := some 2) rfl rfl rfl (Y_box (c := #[_, _]) rfl rfl (fun b0_0 W3 hb4 hE5 hm0_0 => ?_))
  have lo_b0_0 : w.heap.size ≤ b0_0 := hb4 ▸ (Below.size hB)
  clear hb4
  replace hB := below_ext hB hE5 (Nat.le_refl _)
  clear hE5
  refine WL_val (dd := some 4) rfl rfl rfl (r_assign (v := .bool false) rfl) ?_
  refine WL_nil ?_
  refine hK2 _ _ ?_
  clear hK2 K1
  refine WC_seq (fun K6 hK7 => ?_)
  have h8 : n ≤ 8 → 2 ^ n.toNat ≤ 256 := two_pow_le
  refine WC_draw Ext tb_mix (fun W8 hE9 => ?_)
  replace hB := below_ext hB hE9 (Nat.le_refl _)
  replace hm0_0 := hE9.at hm0_0
  have hS := Ext.refl W8
  refine WT_take (dd := some 5) 0 rfl (by kernel_rfl) (by kernel_rfl) (by kernel_rfl) rfl rfl rfl (fun _wq _hq => r_move (v := .int .i64 _) rfl) hS ?_
  refine WT_take (dd := some 6) 1 rfl (by kernel_rfl) (by kernel_rfl) (by kernel_rfl) rfl rfl rfl (fun _wq _hq => r_geq rfl rfl) hS ?_
  refine WT_split (dd := some 7) 2 rfl (by kernel_rfl) (by kernel_rfl) (by kernel_rfl) rfl rfl rfl (fun wq hq => r_move (v := .bool _) rfl) hS (fun hs1_2 => ?_) (fun hs1_2 => ?_)
  ·
    try with_reducible replace hs1_2 := of_decide_eq_true hs1_2
    refine WT_take (dd := some 8) 3 rfl (by kernel_rfl) (by kernel_rfl) (by kernel_rfl) rfl rfl rfl (fun _wq _hq => r_move (v := .int .i64 _) rfl) hS ?_
    refine WT_take (dd := some 9) 4 rfl (by kernel_rfl) (by kernel_rfl) (by kernel_rfl) rfl rfl rfl (fun _wq _hq => r_leq rfl rfl) hS ?_
    refine WT_take (dd := some 10) 5 rfl (by kernel_rfl) (by kernel_rfl) (by kernel_rfl) rfl rfl rfl (fun _wq _hq => r_pick_t rfl (v := .bool _) rfl) hS ?_
    refine WT_split (dd := some 11) 6 rfl (by kernel_rfl) (by kernel_rfl) (by kernel_rfl) rfl rfl rfl (fun wq hq => r_move (v := .bool _) rfl) hS (fun hs1_6 => ?_) (fun hs1_6 => ?_)
    ·
      try with_reducible replace hs1_6 := of_decide_eq_true hs1_6
      refine WT_take (dd := some 12) 7 rfl (by kernel_rfl) (by kernel_rfl) (by kernel_rfl) rfl rfl rfl (fun _wq _hq => r_fieldAddr (b := _) (o := _) rfl tb_fo34_0) hS ?_
      refine WT_take (dd := some 13) 8 rfl (by kernel_rfl) (by kernel_rfl) (by kernel_rfl) rfl rfl rfl (fun _wq hq => r_load1 (v := .int .u8 _) rfl tb_sc5 (At.cell (hq.at hm0_0) rfl)) hS ?_
      refine WT_take (dd := some 14) 9 rfl (by kernel_rfl) (by kernel_rfl) (by kernel_rfl) rfl rfl rfl (fun _wq _hq => r_convN rfl Try.underlying5 Try.underlying3 (by simp only [topN]; omega)) hS ?_
      refine WT_take (dd := some 15) 10 rfl (by kernel_rfl) (by kernel_rfl) (by kernel_rfl) rfl rfl rfl (fun _wq _hq => r_move (v := .int .i64 _) rfl) hS ?_
      refine WT_take (dd := some 16) 11 rfl (by kernel_rfl) (by kernel_rfl) (by kernel_rfl) rfl rfl rfl (fun _wq _hq => r_shl (m := 1) rfl rfl (by omega) (by simp only [IntKind.bits]; omega) (by rw [Nat.one_mul]; have := h8 (by omega); simp only [topN]; omega)) hS ?_
      refine WT_take (dd := some 17) 12 rfl (by kernel_rfl) (by kernel_rfl) (by kernel_rfl) rfl rfl rfl (fun _wq _hq => r_lss rfl rfl) hS ?_
      refine WT_take (dd := some 18) 13 rfl (by kernel_rfl) (by kernel_rfl) (by kernel_rfl) rfl rfl rfl (fun _wq _hq => r_pick_t rfl (v := .bool _) rfl) hS ?_
      refine WT_split (dd := some 19) 14 rfl (by kernel_rfl) (by kernel_rfl) (by kernel_rfl) rfl rfl rfl (fun wq hq => r_move (v := .bool _) rfl) hS (fun hs1_14 => ?_) (fun hs1_14 => ?_)
      ·
        try with_reducible replace hs1_14 := of_decide_eq_true hs1_14
        refine WT_take (dd := some 20) 15 rfl (by kernel_rfl) (by kernel_rfl) (by kernel_rfl) rfl rfl rfl (fun _wq _hq => r_fieldAddr (b := _) (o := _) rfl tb_fo34_1) hS ?_
        refine WT_take (dd := some 21) 16 rfl (by kernel_rfl) (by kernel_rfl) (by kernel_rfl) rfl rfl rfl (fun _wq hq => r_load1 (v := .int .u8 _) rfl tb_sc5 (At.cell (hq.at hm0_0) rfl)) hS ?_
        refine WT_take (dd := some 22) 17 rfl (by kernel_rfl) (by kernel_rfl) (by kernel_rfl) rfl rfl rfl (fun _wq _hq => r_fieldAddr (b := _) (o := _) rfl tb_fo34_0) hS ?_
        refine WT_take (dd := some 23) 18 rfl (by kernel_rfl) (by kernel_rfl) (by kernel_rfl) rfl rfl rfl (fun _wq hq => r_load1 (v := .int .u8 _) rfl tb_sc5 (At.cell (hq.at hm0_0) rfl)) hS ?_
        refine WT_take (dd := some 24) 19 rfl (by kernel_rfl) (by kernel_rfl) (by kernel_rfl) rfl rfl rfl (fun _wq _hq => r_andNot (n := _) rfl rfl rfl (by first | assumption | (simp only [topN]; omega) | (simp only [topN]; decide)) (by first | assumption | (simp only [topN]; omega) | (simp only [topN]; decide))) hS ?_
        refine WT_take (dd := some 25) 20 rfl (by kernel_rfl) (by kernel_rfl) (by kernel_rfl) rfl rfl rfl (fun _wq _hq => r_eql rfl rfl) hS ?_
        refine WT_take (dd := some 26) 21 rfl (by kernel_rfl) (by kernel_rfl) (by kernel_rfl) rfl rfl rfl (fun _wq _hq => r_pick_t rfl (v := .bool _) rfl) hS ?_
        refine WT_take (dd := some 4) 22 rfl (by kernel_rfl) (by kernel_rfl) (by kernel_rfl) rfl rfl rfl (fun _wq _hq => r_assign (v := .bool _) rfl) hS ?_
        refine WT_done (by kernel_rfl) ?_
        refine hK7 _ _ ?_
        clear hK7 K6
        refine WC_ret ?_
        repeat (first | refine thenQ_ret ?_ | refine blockQ_ret ?_)
        refine ret_t (v := .bool _) rfl ?_
        refine ⟨hB, ?_⟩
        first | exact congrArg Value.bool (right_v1 hs1_2 hs1_6 hs1_14) | exact congrArg Value.bool (right_v2 hs1_14) | exact congrArg Value.bool (right_neg (by omega)).symm
      ·
        try with_reducible replace hs1_14 := of_decide_eq_false hs1_14
        refine WT_pass (dd := some 20) 15 rfl (by kernel_rfl) (by kernel_rfl) (by kernel_rfl) rfl rfl rfl hS ?_
        refine WT_pass (dd := some 21) 16 rfl (by kernel_rfl) (by kernel_rfl) (by kernel_rfl) rfl rfl rfl hS ?_
        refine WT_pass (dd := some 22) 17 rfl (by kernel_rfl) (by kernel_rfl) (by kernel_rfl) rfl rfl rfl hS ?_
        refine WT_pass (dd := some 23) 18 rfl (by kernel_rfl) (by kernel_rfl) (by kernel_rfl) rfl rfl rfl hS ?_
        refine WT_pass (dd := some 24) 19 rfl (by kernel_rfl) (by kernel_rfl) (by kernel_rfl) rfl rfl rfl hS ?_
        refine WT_pass (dd := some 25) 20 rfl (by kernel_rfl) (by kernel_rfl) (by kernel_rfl) rfl rfl rfl hS ?_
        refine WT_take (dd := some 26) 21 rfl (by kernel_rfl) (by kernel_rfl) (by kernel_rfl) rfl rfl rfl (fun _wq _hq => r_pick_f rfl (v := .bool false) rfl) hS ?_
        refine WT_take (dd := some 4) 22 rfl (by kernel_rfl) (by kernel_rfl) (by kernel_rfl) rfl rfl rfl (fun _wq _hq => r_assign (v := .bool false) rfl) hS ?_
        refine WT_done (by kernel_rfl) ?_
        refine hK7 _ _ ?_
        clear hK7 K6
        refine WC_ret ?_
        repeat (first | refine thenQ_ret ?_ | refine blockQ_ret ?_)
        refine ret_t (v := .bool false) rfl ?_
        refine ⟨hB, ?_⟩
        first | exact congrArg Value.bool (right_v1 hs1_2 hs1_6 hs1_14) | exact congrArg Value.bool (right_v2 hs1_14) | exact congrArg Value.bool (right_neg (by omega)).symm
    ·
      try with_reducible replace hs1_6 := of_decide_eq_false hs1_6
      refine WT_pass (dd := some 12) 7 rfl (by kernel_rfl) (by kernel_rfl) (by kernel_rfl) rfl rfl rfl hS ?_
      refine WT_pass (dd := some 13) 8 rfl (by kernel_rfl) (by kernel_rfl) (by kernel_rfl) rfl rfl rfl hS ?_
      refine WT_pass (dd := some 14) 9 rfl (by kernel_rfl) (by kernel_rfl) (by kernel_rfl) rfl rfl rfl hS ?_
      refine WT_pass (dd := some 15) 10 rfl (by kernel_rfl) (by kernel_rfl) (by kernel_rfl) rfl rfl rfl hS ?_
      refine WT_pass (dd := some 16) 11 rfl (by kernel_rfl) (by kernel_rfl) (by kernel_rfl) rfl rfl rfl hS ?_
      refine WT_pass (dd := some 17) 12 rfl (by kernel_rfl) (by kernel_rfl) (by kernel_rfl) rfl rfl rfl hS ?_
      refine WT_take (dd := some 18) 13 rfl (by kernel_rfl) (by kernel_rfl) (by kernel_rfl) rfl rfl rfl (fun _wq _hq => r_pick_f rfl (v := .bool false) rfl) hS ?_
      refine WT_take (dd := some 19) 14 rfl (by kernel_rfl) (by kernel_rfl) (by kernel_rfl) rfl rfl rfl (fun _wq _hq => r_move (v := .bool false) rfl) hS ?_
      refine WT_pass (dd := some 20) 15 rfl (by kernel_rfl) (by kernel_rfl) (by kernel_rfl) rfl rfl rfl hS ?_
      refine WT_pass (dd := some 21) 16 rfl (by kernel_rfl) (by kernel_rfl) (by kernel_rfl) rfl rfl rfl hS ?_
      refine WT_pass (dd := some 22) 17 rfl (by kernel_rfl) (by kernel_rfl) (by kernel_rfl) rfl rfl rfl hS ?_
      refine WT_pass (dd := some 23) 18 rfl (by kernel_rfl) (by kernel_rfl) (by kernel_rfl) rfl rfl rfl hS ?_
      refine WT_pass (dd := some 24) 19 rfl (by kernel_rfl) (by kernel_rfl) (by kernel_rfl) rfl rfl rfl hS ?_
      refine WT_pass (dd := some 25) 20 rfl (by kernel_rfl) (by kernel_rfl) (by kernel_rfl) rfl rfl rfl hS ?_
      refine WT_take (dd := some 26) 21 rfl (by kernel_rfl) (by kernel_rfl) (by kernel_rfl) rfl rfl rfl (fun _wq _hq => r_pick_f rfl (v := .bool false) rfl) hS ?_
      refine WT_take (dd := some 4) 22 rfl (by kernel_rfl) (by kernel_rfl) (by kernel_rfl) rfl rfl rfl (fun _wq _hq => r_assign (v := .bool false) rfl) hS ?_
      refine WT_done (by kernel_rfl) ?_
      refine hK7 _ _ ?_
      clear hK7 K6
      refine WC_ret ?_
      repeat (first | refine thenQ_ret ?_ | refine blockQ_ret ?_)
      refine ret_t (v := .bool false) rfl ?_
      refine ⟨hB, ?_⟩
      first | exact congrArg Value.bool (right_v1 hs1_2 hs1_6 hs1_14) | exact congrArg Value.bool (right_v2 hs1_14) | exact congrArg Value.bool (right_neg (by omega)).symm
  ·
    try with_reducible replace hs1_2 := of_decide_eq_false hs1_2
    refine WT_pass (dd := some 8) 3 rfl (by kernel_rfl) (by kernel_rfl) (by kernel_rfl) rfl rfl rfl hS ?_
    refine WT_pass (dd := some 9) 4 rfl (by kernel_rfl) (by kernel_rfl) (by kernel_rfl) rfl rfl rfl hS ?_
    refine WT_take (dd := some 10) 5 rfl (by kernel_rfl) (by kernel_rfl) (by kernel_rfl) rfl rfl rfl (fun _wq _hq => r_pick_f rfl (v := .bool false) rfl) hS ?_
    refine WT_take (dd := some 11) 6 rfl (by kernel_rfl) (by kernel_rfl) (by kernel_rfl) rfl rfl rfl (fun _wq _hq => r_move (v := .bool false) rfl) hS ?_
    refine WT_pass (dd := some 12) 7 rfl (by kernel_rfl) (by kernel_rfl) (by kernel_rfl) rfl rfl rfl hS ?_
    refine WT_pass (dd := some 13) 8 rfl (by kernel_rfl) (by kernel_rfl) (by kernel_rfl) rfl rfl rfl hS ?_
    refine WT_pass (dd := some 14) 9 rfl (by kernel_rfl) (by kernel_rfl) (by kernel_rfl) rfl rfl rfl hS ?_
    refine WT_pass (dd := some 15) 10 rfl (by kernel_rfl) (by kernel_rfl) (by kernel_rfl) rfl rfl rfl hS ?_
    refine WT_pass (dd := some 16) 11 rfl (by kernel_rfl) (by kernel_rfl) (by kernel_rfl) rfl rfl rfl hS ?_
    refine WT_pass (dd := some 17) 12 rfl (by kernel_rfl) (by kernel_rfl) (by kernel_rfl) rfl rfl rfl hS ?_
    refine WT_take (dd := some 18) 13 rfl (by kernel_rfl) (by kernel_rfl) (by kernel_rfl) rfl rfl rfl (fun _wq _hq => r_pick_f rfl (v := .bool false) rfl) hS ?_
    refine WT_take (dd := some 19) 14 rfl (by kernel_rfl) (by kernel_rfl) (by kernel_rfl) rfl rfl rfl (fun _wq _hq => r_move (v := .bool false) rfl) hS ?_
    refine WT_pass (dd := some 20) 15 rfl (by kernel_rfl) (by kernel_rfl) (by kernel_rfl) rfl rfl rfl hS ?_
    refine WT_pass (dd := some 21) 16 rfl (by kernel_rfl) (by kernel_rfl) (by kernel_rfl) rfl rfl rfl hS ?_
    refine WT_pass (dd := some 22) 17 rfl (by kernel_rfl) (by kernel_rfl) (by kernel_rfl) rfl rfl rfl hS ?_
    refine WT_pass (dd := some 23) 18 rfl (by kernel_rfl) (by kernel_rfl) (by kernel_rfl) rfl rfl rfl hS ?_
    refine WT_pass (dd := some 24) 19 rfl (by kernel_rfl) (by kernel_rfl) (by kernel_rfl) rfl rfl rfl hS ?_
    refine WT_pass (dd := some 25) 20 rfl (by kernel_rfl) (by kernel_rfl) (by kernel_rfl) rfl rfl rfl hS ?_
    refine WT_take (dd := some 26) 21 rfl (by kernel_rfl) (by kernel_rfl) (by kernel_rfl) rfl rfl rfl (fun _wq _hq => r_pick_f rfl (v := .bool false) rfl) hS ?_
    refine WT_take (dd := some 4) 22 rfl (by kernel_rfl) (by kernel_rfl) (by kernel_rfl) rfl rfl rfl (fun _wq _hq => r_assign (v := .bool false) rfl) hS ?_
    refine WT_done (by kernel_rfl) ?_
    refine hK7 _ _ ?_
    clear hK7 K6
    refine WC_ret ?_
    repeat (first | refine thenQ_ret ?_ | refine blockQ_ret ?_)
    refine ret_t (v := .bool false) rfl ?_
    refine ⟨hB, ?_⟩
    first | exact congrArg Value.bool (right_v1 hs1_2 hs1_6 hs1_14) | exact congrArg Value.bool (right_v2 hs1_14) | exact congrArg Value.bool (right_neg (by omega)).symm

theorem C_cube_Points (m u : Nat) (n : Int) (w : World) (hm : m < 256) (hv : u < 256) :
    Fn Try.prog 29 #[.agg #[.int .u8 (m : Int), .int .u8 (u : Int)], .int .i64 n] w fun v w' => v = if rightB m u n = true then .tuple #[setV (ptsS m u n.toNat), .int .i64 0] else .tuple #[setV 0, .int .i64 1] := by
  refine Fn_intro (n := 31) Try.func29 rfl rfl (Nat.le_of_ble_eq_true rfl) ?_
  have hB : Below w.heap.size w w := Below.refl _ _
  refine WC_seq (fun K1 hK2 => ?_)
  refine WC_region ?_
  refine WL_step (dd := some 2) rfl rfl rfl (Y_box (c := #[_, _]) rfl rfl (fun b0_0 W3 hb4 hE5 hm0_0 => ?_))
  have lo_b0_0 : w.heap.size ≤ b0_0 := hb4 ▸ (Below.size hB)
  clear hb4
  replace hB := below_ext hB hE5 (Nat.le_refl _)
  clear hE5
  refine WL_step (dd := some 4) rfl rfl rfl (Y_alloc tb_z24 rfl (fun b0_1 W6 hb7 hE8 hm0_1 => ?_))
  have lo_b0_1 : w.heap.size ≤ b0_1 := hb7 ▸ (Below.size hB)
  clear hb7
  replace hB := below_ext hB hE8 (Nat.le_refl _)
  replace hm0_0 := hE8.at hm0_0
  clear hE8
  replace hm0_1 : At W6 b0_1 #[wv 0 0, wv 0 1, wv 0 2, wv 0 3] 24 := hm0_1
  refine WL_val (dd := some 5) rfl rfl rfl (r_assign (v := .int .i64 0) rfl) ?_
  refine WL_nil ?_
  refine hK2 _ _ ?_
  clear hK2 K1
  refine WC_seq (fun K9 hK10 => ?_)
  refine WC_seq (fun K11 hK12 => ?_)
  refine WC_region ?_
  refine WL_val (dd := some 8) rfl rfl rfl (r_loadW rfl tb_ag34 rfl hm0_0) ?_
  refine WL_val (dd := some 9) rfl rfl rfl (r_move (v := .int .i64 _) rfl) ?_
  refine WL_call (dd := some 10) rfl rfl rfl (r_call2 tb_c88 (v0 := .agg #[_, _]) rfl (v1 := .int .i64 _) rfl) (C_cube_Right _ _ _ _ (by first | assumption | omega) (by first | assumption | omega)) (fun v1_2 W13 hE14 hP1_2 => ?_)
  have hsz15 := (Below.size hB)
  replace hB := below_ext hB hE14 (Nat.le_refl _)
  replace hm0_0 := hE14.at hm0_0
  replace hm0_1 := hE14.at hm0_1
  clear hE14
  clear hsz15
  obtain rfl := hP1_2
  refine WL_val (dd := some 11) rfl rfl rfl (r_not rfl) ?_
  refine WL_nil ?_
  refine hK12 _ _ ?_
  clear hK12 K11
  refine WC_cond (b := _) rfl (fun hc0 => ?_) (fun hc0 => ?_)
  ·
    try with_reducible replace hc0 := of_decide_eq_true hc0
    refine WC_seq (fun K16 hK17 => ?_)
    refine WC_region ?_
    refine WL_val (dd := some 12) (v := setV 0) rfl rfl rfl (tb_build24_ ) ?_
    refine WL_step (dd := none) rfl rfl rfl (Y_storeW rfl rfl tb_ag24 rfl hm0_1 rfl (by rfl) (fun W18 hG19 hm20 => ?_))
    replace hB := below_grown hB hG19 (Nat.le_refl _) (fun j hj => by cases hj; exact lo_b0_1)
    replace hm0_0 := At.grownAt hm0_0 hm0_1 hG19 (by decide)
    clear hG19 hm0_1
    have hm0_1 := hm20
    clear hm20
    refine WL_val (dd := some 5) rfl rfl rfl (r_assign (v := .int .i64 1) rfl) ?_
    refine WL_nil ?_
    refine hK17 _ _ ?_
    clear hK17 K16
    refine WC_ret ?_
    repeat (first | refine thenQ_ret ?_ | refine blockQ_ret ?_)
    try clear hK10 K9
    refine ret_ct rfl tb_ag24 hm0_1 rfl (v1 := .int .i64 1) rfl ?_
    refine ⟨hB, ?_⟩
    rw [if_neg (by simpa using hc0)]
  ·
    try with_reducible replace hc0 := of_decide_eq_false hc0
    refine WC_skip ?_
    refine hK10 _ _ ?_
    clear hK10 K9
    refine WC_seq (fun K21 hK22 => ?_)
    have hr : rightB m u n = true := by simpa using hc0
    obtain ⟨hn0, hn8, hmn, hvm⟩ := rightB_iff.1 hr
    have hp := two_pow_le hn8
    refine WC_region ?_
    refine WL_step (dd := some 6) rfl rfl rfl (Y_alloc tb_z24 rfl (fun b3_0 W23 hb24 hE25 hm3_0 => ?_))
    have lo_b3_0 : w.heap.size ≤ b3_0 := hb24 ▸ (Below.size hB)
    have ne_b0_1_b3_0 : b0_1 ≠ b3_0 := Nat.ne_of_lt (hb24 ▸ hm0_1.lt)
    clear hb24
    replace hB := below_ext hB hE25 (Nat.le_refl _)
    replace hm0_0 := hE25.at hm0_0
    replace hm0_1 := hE25.at hm0_1
    clear hE25
    replace hm3_0 : At W23 b3_0 #[wv 0 0, wv 0 1, wv 0 2, wv 0 3] 24 := hm3_0
    refine WL_nil ?_
    refine hK22 _ _ ?_
    clear hK22 K21
    refine WC_seq (fun K26 hK27 => ?_)
    refine WC_seq (fun K28 hK29 => ?_)
    refine WC_region ?_
    refine WL_val (dd := some 13) rfl rfl rfl (r_move (v := .int .i64 _) rfl) ?_
    refine WL_val (dd := some 14) rfl rfl rfl (r_shl (m := 1) rfl rfl (by omega) (by simp only [IntKind.bits]; omega) (by rw [Nat.one_mul]; simp only [topN]; omega)) ?_
    refine WL_val (dd := some 15) rfl rfl rfl (r_move (v := .int .i64 0) rfl) ?_
    refine WL_nil ?_
    refine hK29 _ _ ?_
    clear hK29 K28
    refine WC_block ?_
    refine WC_loop (σ := (Nat)) [7, 15, 16, 17, 18, 19, 20, 21, 22, 23, 24, 25, 26, 27, 28, 29] (fun k => [(15, .int .i64 (k : Int))]) (fun k W => (Below w.heap.size w W) ∧ (At W b0_0 _ 34) ∧ (At W b0_1 _ 24) ∧ (At W b3_0 #[wv (ptsTo m u k) 0, wv (ptsTo m u k) 1, wv (ptsTo m u k) 2, wv (ptsTo m u k) 3] 24) ∧ (k ≤ 2 ^ n.toNat) ∧ (True)) (fun k => 2 ^ n.toNat - k) (0) ⟨rfl, trivial⟩ ⟨hB, hm0_0, hm0_1, hm3_0, (Nat.zero_le _), trivial⟩ ?_
    clear hB hm0_0 hm0_1 hm3_0
    rintro k g31 W30 ⟨hB, hm0_0, hm0_1, hm3_0, hk, _⟩ J32 hJ33
    refine WC_seq (fun K34 hK35 => ?_)
    refine WC_region ?_
    refine WL_val (dd := some 16) rfl rfl rfl (r_lss rfl rfl) ?_
    refine WL_nil ?_
    refine hK35 _ _ ?_
    clear hK35 K34
    refine WC_seq (fun K36 hK37 => ?_)
    refine WC_cond (b := _) rfl (fun hc1 => ?_) (fun hc1 => ?_)
    ·
      try with_reducible replace hc1 := of_decide_eq_true hc1
      refine WC_skip ?_
      refine hK37 _ _ ?_
      clear hK37 K36
      refine WC_seq (fun K38 hK39 => ?_)
      refine WC_block ?_
      refine WC_seq (fun K40 hK41 => ?_)
      refine WC_region ?_
      refine WL_val (dd := some 17) rfl rfl rfl (r_move (v := .int .i64 _) rfl) ?_
      refine WL_val (dd := some 7) rfl rfl rfl (r_assign (v := .int .i64 _) rfl) ?_
      refine WL_nil ?_
      refine hK41 _ _ ?_
      clear hK41 K40
      refine WC_seq (fun K42 hK43 => ?_)
      refine WC_region ?_
      refine WL_val (dd := some 18) rfl rfl rfl (r_move (v := .int .i64 _) rfl) ?_
      refine WL_val (dd := some 19) rfl rfl rfl (r_convN rfl Try.underlying3 Try.underlying5 (by simp only [topN]; omega)) ?_
      refine WL_val (dd := some 20) rfl rfl rfl (r_fieldAddr (b := _) (o := _) rfl tb_fo34_0) ?_
      refine WL_val (dd := some 21) rfl rfl rfl (r_load1 (v := .int .u8 _) rfl tb_sc5 (At.cell hm0_0 rfl)) ?_
      refine WL_val (dd := some 22) rfl rfl rfl (r_and (n := _) rfl rfl rfl (by first | assumption | (simp only [topN]; omega) | (simp only [topN]; decide)) (by first | assumption | (simp only [topN]; omega) | (simp only [topN]; decide))) ?_
      refine WL_val (dd := some 23) rfl rfl rfl (r_fieldAddr (b := _) (o := _) rfl tb_fo34_1) ?_
      refine WL_val (dd := some 24) rfl rfl rfl (r_load1 (v := .int .u8 _) rfl tb_sc5 (At.cell hm0_0 rfl)) ?_
      refine WL_val (dd := some 25) rfl rfl rfl (r_eql rfl rfl) ?_
      refine WL_nil ?_
      refine hK43 _ _ ?_
      clear hK43 K42
      refine WC_cond (b := _) rfl (fun hc2 => ?_) (fun hc2 => ?_)
      ·
        try with_reducible replace hc2 := of_decide_eq_true hc2
        refine WC_region ?_
        refine WL_val (dd := some 26) rfl rfl rfl (r_loadW rfl tb_ag24 rfl hm3_0) ?_
        refine WL_val (dd := some 27) rfl rfl rfl (r_move (v := .int .i64 _) rfl) ?_
        refine WL_call (dd := some 28) rfl rfl rfl (r_call2 tb_c89 (v0 := .agg #[_, _, _, _]) rfl (v1 := .int .i64 _) rfl) (C_set_With _ _ _) (fun v8_2 W44 hE45 hP8_2 => ?_)
        have hsz46 := (Below.size hB)
        replace hB := below_ext hB hE45 (Nat.le_refl _)
        replace hm0_0 := hE45.at hm0_0
        replace hm0_1 := hE45.at hm0_1
        replace hm3_0 := hE45.at hm3_0
        clear hE45
        clear hsz46
        obtain rfl := hP8_2
        refine WL_step (dd := none) rfl rfl rfl (Y_storeW rfl rfl tb_ag24 rfl hm3_0 rfl (by rfl) (fun W47 hG48 hm49 => ?_))
        replace hB := below_grown hB hG48 (Nat.le_refl _) (fun j hj => by cases hj; exact lo_b3_0)
        replace hm0_0 := At.grownAt hm0_0 hm3_0 hG48 (by decide)
        replace hm0_1 := At.grownNe hm0_1 ne_b0_1_b3_0 hG48
        clear hG48 hm3_0
        have hm3_0 := hm49
        clear hm49
        refine WL_nil ?_
        refine hK39 _ _ ?_
        clear hK39 K38
        refine WC_region ?_
        refine WL_val (dd := some 29) rfl rfl rfl (r_addI rfl rfl (by omega) (by omega)) ?_
        refine WL_val (dd := some 15) rfl rfl rfl (r_move (v := .int .i64 _) rfl) ?_
        refine WL_nil ?_
        refine hJ33 _ _ (k + 1) ?_ ?_ ?_ ?_
        · repeat (first | exact agree.mask _ _ _ | refine agree.updo ?_ rfl _ | refine agree.updL ?_ _ rfl | refine agree.maskS rfl ?_)
        · exact ⟨rfl, trivial⟩
        · exact ⟨hB, hm0_0, hm0_1, (by first | (rw [ptsTo_t hc2]; exact hm3_0) | (rw [ptsTo_f hc2]; exact hm3_0)), (by simp only [Nat.one_mul] at *; omega), trivial⟩
        · simp only [Nat.one_mul] at *; omega
      ·
        try with_reducible replace hc2 := of_decide_eq_false hc2
        refine WC_skip ?_
        refine hK39 _ _ ?_
        clear hK39 K38
        refine WC_region ?_
        refine WL_val (dd := some 29) rfl rfl rfl (r_addI rfl rfl (by omega) (by omega)) ?_
        refine WL_val (dd := some 15) rfl rfl rfl (r_move (v := .int .i64 _) rfl) ?_
        refine WL_nil ?_
        refine hJ33 _ _ (k + 1) ?_ ?_ ?_ ?_
        · repeat (first | exact agree.mask _ _ _ | refine agree.updo ?_ rfl _ | refine agree.updL ?_ _ rfl | refine agree.maskS rfl ?_)
        · exact ⟨rfl, trivial⟩
        · exact ⟨hB, hm0_0, hm0_1, (by first | (rw [ptsTo_t hc2]; exact hm3_0) | (rw [ptsTo_f hc2]; exact hm3_0)), (by simp only [Nat.one_mul] at *; omega), trivial⟩
        · simp only [Nat.one_mul] at *; omega
    ·
      try with_reducible replace hc1 := of_decide_eq_false hc1
      refine WC_exit ?_
      refine hK27 _ _ ?_
      clear hK37 K36
      clear hJ33 J32
      clear hK27 K26
      refine WC_seq (fun K50 hK51 => ?_)
      refine WC_region ?_
      refine WL_val (dd := some 30) rfl rfl rfl (r_loadW rfl tb_ag24 rfl hm3_0) ?_
      refine WL_step (dd := none) rfl rfl rfl (Y_storeW rfl rfl tb_ag24 rfl hm0_1 rfl (by rfl) (fun W52 hG53 hm54 => ?_))
      replace hB := below_grown hB hG53 (Nat.le_refl _) (fun j hj => by cases hj; exact lo_b0_1)
      replace hm0_0 := At.grownAt hm0_0 hm0_1 hG53 (by decide)
      replace hm3_0 := At.grownNe hm3_0 (Ne.symm ne_b0_1_b3_0) hG53
      clear hG53 hm0_1
      have hm0_1 := hm54
      clear hm54
      refine WL_val (dd := some 5) rfl rfl rfl (r_assign (v := .int .i64 0) rfl) ?_
      refine WL_nil ?_
      refine hK51 _ _ ?_
      clear hK51 K50
      refine WC_ret ?_
      repeat (first | refine thenQ_ret ?_ | refine blockQ_ret ?_)
      refine ret_ct rfl tb_ag24 hm0_1 rfl (v1 := .int .i64 0) rfl ?_
      refine ⟨hB, ?_⟩
      have hk2 : k = 2 ^ n.toNat := by simp only [Nat.one_mul] at *; omega
      subst hk2
      rw [if_pos hr]; rfl

theorem C_cube_plain (m u : Nat) (w : World) (hm : m < 256) (hv : u < 256) :
    Fn Try.prog 133 #[.agg #[.int .u8 (m : Int), .int .u8 (u : Int)]] w fun v w' => v = .agg #[.int .u8 (m : Int), .int .u8 ((u &&& m : Nat) : Int)] := by
  refine Fn_intro (n := 11) Try.func133 rfl rfl (Nat.le_of_ble_eq_true rfl) ?_
  have hB : Below w.heap.size w w := Below.refl _ _
  refine WC_seq (fun K1 hK2 => ?_)
  refine WC_region ?_
  refine WL_step (dd := some 1) rfl rfl rfl (Y_box (c := #[_, _]) rfl rfl (fun b0_0 W3 hb4 hE5 hm0_0 => ?_))
  have lo_b0_0 : w.heap.size ≤ b0_0 := hb4 ▸ (Below.size hB)
  clear hb4
  replace hB := below_ext hB hE5 (Nat.le_refl _)
  clear hE5
  refine WL_step (dd := some 2) rfl rfl rfl (Y_alloc tb_z34 rfl (fun b0_1 W6 hb7 hE8 hm0_1 => ?_))
  have lo_b0_1 : w.heap.size ≤ b0_1 := hb7 ▸ (Below.size hB)
  have ne_b0_0_b0_1 : b0_0 ≠ b0_1 := Nat.ne_of_lt (hb7 ▸ hm0_0.lt)
  clear hb7
  replace hB := below_ext hB hE8 (Nat.le_refl _)
  replace hm0_0 := hE8.at hm0_0
  clear hE8
  refine WL_nil ?_
  refine hK2 _ _ ?_
  clear hK2 K1
  refine WC_seq (fun K9 hK10 => ?_)
  refine WC_region ?_
  refine WL_val (dd := some 3) rfl rfl rfl (r_fieldAddr (b := _) (o := _) rfl tb_fo34_0) ?_
  refine WL_val (dd := some 4) rfl rfl rfl (r_load1 (v := .int .u8 _) rfl tb_sc5 (At.cell hm0_0 rfl)) ?_
  refine WL_val (dd := some 5) rfl rfl rfl (r_fieldAddr (b := _) (o := _) rfl tb_fo34_1) ?_
  refine WL_val (dd := some 6) rfl rfl rfl (r_load1 (v := .int .u8 _) rfl tb_sc5 (At.cell hm0_0 rfl)) ?_
  refine WL_val (dd := some 7) rfl rfl rfl (r_fieldAddr (b := _) (o := _) rfl tb_fo34_0) ?_
  refine WL_val (dd := some 8) rfl rfl rfl (r_load1 (v := .int .u8 _) rfl tb_sc5 (At.cell hm0_0 rfl)) ?_
  refine WL_val (dd := some 9) rfl rfl rfl (r_and (n := _) rfl rfl rfl (by first | assumption | (simp only [topN]; omega) | (simp only [topN]; decide)) (by first | assumption | (simp only [topN]; omega) | (simp only [topN]; decide))) ?_
  refine WL_val (dd := some 10) rfl rfl rfl (tb_build34_0_1 (h0 := rfl) (k0 := rfl) (h1 := rfl) (k1 := rfl) (c0_0 := .int .u8 _) (c1_0 := .int .u8 _)) ?_
  refine WL_step (dd := none) rfl rfl rfl (Y_storeW rfl rfl tb_ag34 rfl hm0_1 rfl (by rfl) (fun W11 hG12 hm13 => ?_))
  replace hB := below_grown hB hG12 (Nat.le_refl _) (fun j hj => by cases hj; exact lo_b0_1)
  replace hm0_0 := At.grownNe hm0_0 ne_b0_0_b0_1 hG12
  clear hG12 hm0_1
  have hm0_1 := hm13
  clear hm13
  refine WL_nil ?_
  refine hK10 _ _ ?_
  clear hK10 K9
  refine WC_ret ?_
  repeat (first | refine thenQ_ret ?_ | refine blockQ_ret ?_)
  refine ret_c rfl tb_ag34 hm0_1 rfl ?_
  refine ⟨hB, ?_⟩
  rfl

theorem C_cube_Without (m u : Nat) (i : Int) (w : World) (hm : m < 256) (hv : u < 256) :
    Fn Try.prog 84 #[.agg #[.int .u8 (m : Int), .int .u8 (u : Int)], .int .i64 i] w fun v w' => v = woV m u i := by
  refine Fn_intro (n := 19) Try.func84 rfl rfl (Nat.le_of_ble_eq_true rfl) ?_
  have hB : Below w.heap.size w w := Below.refl _ _
  refine WC_seq (fun K1 hK2 => ?_)
  refine WC_region ?_
  refine WL_step (dd := some 2) rfl rfl rfl (Y_box (c := #[_, _]) rfl rfl (fun b0_0 W3 hb4 hE5 hm0_0 => ?_))
  have lo_b0_0 : w.heap.size ≤ b0_0 := hb4 ▸ (Below.size hB)
  clear hb4
  replace hB := below_ext hB hE5 (Nat.le_refl _)
  clear hE5
  refine WL_step (dd := some 4) rfl rfl rfl (Y_alloc tb_z34 rfl (fun b0_1 W6 hb7 hE8 hm0_1 => ?_))
  have lo_b0_1 : w.heap.size ≤ b0_1 := hb7 ▸ (Below.size hB)
  have ne_b0_0_b0_1 : b0_0 ≠ b0_1 := Nat.ne_of_lt (hb7 ▸ hm0_0.lt)
  clear hb7
  replace hB := below_ext hB hE8 (Nat.le_refl _)
  replace hm0_0 := hE8.at hm0_0
  clear hE8
  refine WL_nil ?_
  refine hK2 _ _ ?_
  clear hK2 K1
  refine WC_seq (fun K9 hK10 => ?_)
  refine WC_seq (fun K11 hK12 => ?_)
  refine WC_region ?_
  refine WL_val (dd := some 5) rfl rfl rfl (r_move (v := .int .i64 _) rfl) ?_
  refine WL_val (dd := some 6) rfl rfl rfl (r_geq rfl rfl) ?_
  refine WL_split (dd := some 7) rfl rfl rfl (r_move (v := .bool _) rfl) (fun hs1_2 => ?_) (fun hs1_2 => ?_)
  ·
    try with_reducible replace hs1_2 := of_decide_eq_true hs1_2
    refine WL_val (dd := some 8) rfl rfl rfl (r_move (v := .int .i64 _) rfl) ?_
    refine WL_val (dd := some 9) rfl rfl rfl (r_lss rfl rfl) ?_
    refine WL_val (dd := some 10) rfl rfl rfl (r_pick_t rfl (v := .bool _) rfl) ?_
    refine WL_nil ?_
    refine hK12 _ _ ?_
    clear hK12 K11
    refine WC_cond (b := _) rfl (fun hc0 => ?_) (fun hc0 => ?_)
    ·
      try with_reducible replace hc0 := of_decide_eq_true hc0
      have h7 := pow7 (show i.toNat < 8 by omega)
      have hle := andNot_le m (1 * 2 ^ i.toNat)
      refine WC_draw Ext tb_mix (fun W13 hE14 => ?_)
      replace hB := below_ext hB hE14 (Nat.le_refl _)
      replace hm0_0 := hE14.at hm0_0
      replace hm0_1 := hE14.at hm0_1
      have hS := Ext.refl W13
      refine WT_take (dd := some 11) 0 rfl (by kernel_rfl) (by kernel_rfl) (by kernel_rfl) rfl rfl rfl (fun _wq _hq => r_fieldAddr (b := _) (o := _) rfl tb_fo34_0) hS ?_
      refine WT_take (dd := some 12) 1 rfl (by kernel_rfl) (by kernel_rfl) (by kernel_rfl) rfl rfl rfl (fun _wq hq => r_load1 (v := .int .u8 _) rfl tb_sc5 (At.cell (hq.at hm0_0) rfl)) hS ?_
      refine WT_take (dd := some 13) 2 rfl (by kernel_rfl) (by kernel_rfl) (by kernel_rfl) rfl rfl rfl (fun _wq _hq => r_move (v := .int .i64 _) rfl) hS ?_
      refine WT_take (dd := some 14) 3 rfl (by kernel_rfl) (by kernel_rfl) (by kernel_rfl) rfl rfl rfl (fun _wq _hq => r_shl (m := 1) rfl rfl (by omega) (by simp only [IntKind.bits]; omega) (by rw [Nat.one_mul]; simp only [topN]; omega)) hS ?_
      refine WT_take (dd := some 15) 4 rfl (by kernel_rfl) (by kernel_rfl) (by kernel_rfl) rfl rfl rfl (fun _wq _hq => r_andNot (n := _) rfl rfl rfl (by first | assumption | (simp only [topN]; omega) | (simp only [topN]; decide)) (by rw [Nat.one_mul]; simp only [topN]; omega)) hS ?_
      refine WT_take (dd := some 16) 5 rfl (by kernel_rfl) (by kernel_rfl) (by kernel_rfl) rfl rfl rfl (fun _wq _hq => r_fieldAddr (b := _) (o := _) rfl tb_fo34_0) hS ?_
      refine WT_one (dd := none) 6 (by kernel_rfl) rfl rfl rfl rfl (Y_store1 (v := .int .u8 _) rfl rfl tb_sc5 rfl hm0_0 (by simp) (fun W15 hG16 hm17 => ⟨.inr (by kernel_rfl), ?_⟩))
      have sv18_hB := hB
      have sv18_hm0_0 := hm0_0
      have sv18_hm0_1 := hm0_1
      replace hB := below_grown hB hG16 (Nat.le_refl _) (fun j hj => by cases hj; exact lo_b0_0)
      replace hm0_1 := At.grownNe hm0_1 (Ne.symm ne_b0_0_b0_1) hG16
      clear hG16 hm0_0
      have hm0_0 := hm17
      clear hm17
      replace hm0_0 : At _ _ #[_, _] _ := hm0_0
      refine WT_done (by kernel_rfl) ?_
      try clear sv18_hB sv18_hm0_1
      refine hK10 _ _ ?_
      clear hK10 K9
      refine WC_seq (fun K19 hK20 => ?_)
      refine WC_region ?_
      refine WL_val (dd := some 17) rfl rfl rfl (r_loadW rfl tb_ag34 rfl hm0_0) ?_
      refine WL_call (dd := some 18) rfl rfl rfl (r_call1 tb_c133 (v0 := .agg #[_, _]) rfl) (C_cube_plain _ _ _ (by first | omega | assumption) (by first | omega | assumption)) (fun v3_1 W21 hE22 hP3_1 => ?_)
      have hsz23 := (Below.size hB)
      replace hB := below_ext hB hE22 (Nat.le_refl _)
      replace hm0_0 := hE22.at hm0_0
      replace hm0_1 := hE22.at hm0_1
      clear hE22
      clear hsz23
      obtain rfl := hP3_1
      refine WL_step (dd := none) rfl rfl rfl (Y_storeW rfl rfl tb_ag34 rfl hm0_1 rfl (by rfl) (fun W24 hG25 hm26 => ?_))
      replace hB := below_grown hB hG25 (Nat.le_refl _) (fun j hj => by cases hj; exact lo_b0_1)
      replace hm0_0 := At.grownNe hm0_0 ne_b0_0_b0_1 hG25
      clear hG25 hm0_1
      have hm0_1 := hm26
      clear hm26
      refine WL_nil ?_
      refine hK20 _ _ ?_
      clear hK20 K19
      refine WC_ret ?_
      repeat (first | refine thenQ_ret ?_ | refine blockQ_ret ?_)
      refine ret_c rfl tb_ag34 hm0_1 rfl ?_
      refine ⟨hB, ?_⟩
      first | (rw [woV, woM, if_pos (by omega)]; simp only [Nat.one_mul]) | (rw [woV, woM, if_neg (by omega)])
    ·
      try with_reducible replace hc0 := of_decide_eq_false hc0
      refine WC_skip ?_
      refine hK10 _ _ ?_
      clear hK10 K9
      refine WC_seq (fun K27 hK28 => ?_)
      refine WC_region ?_
      refine WL_val (dd := some 17) rfl rfl rfl (r_loadW rfl tb_ag34 rfl hm0_0) ?_
      refine WL_call (dd := some 18) rfl rfl rfl (r_call1 tb_c133 (v0 := .agg #[_, _]) rfl) (C_cube_plain _ _ _ (by first | omega | assumption) (by first | omega | assumption)) (fun v3_1 W29 hE30 hP3_1 => ?_)
      have hsz31 := (Below.size hB)
      replace hB := below_ext hB hE30 (Nat.le_refl _)
      replace hm0_0 := hE30.at hm0_0
      replace hm0_1 := hE30.at hm0_1
      clear hE30
      clear hsz31
      obtain rfl := hP3_1
      refine WL_step (dd := none) rfl rfl rfl (Y_storeW rfl rfl tb_ag34 rfl hm0_1 rfl (by rfl) (fun W32 hG33 hm34 => ?_))
      replace hB := below_grown hB hG33 (Nat.le_refl _) (fun j hj => by cases hj; exact lo_b0_1)
      replace hm0_0 := At.grownNe hm0_0 ne_b0_0_b0_1 hG33
      clear hG33 hm0_1
      have hm0_1 := hm34
      clear hm34
      refine WL_nil ?_
      refine hK28 _ _ ?_
      clear hK28 K27
      refine WC_ret ?_
      repeat (first | refine thenQ_ret ?_ | refine blockQ_ret ?_)
      refine ret_c rfl tb_ag34 hm0_1 rfl ?_
      refine ⟨hB, ?_⟩
      first | (rw [woV, woM, if_pos (by omega)]; simp only [Nat.one_mul]) | (rw [woV, woM, if_neg (by omega)])
  ·
    try with_reducible replace hs1_2 := of_decide_eq_false hs1_2
    refine WL_skip (dd := some 8) rfl rfl rfl ?_
    refine WL_skip (dd := some 9) rfl rfl rfl ?_
    refine WL_val (dd := some 10) rfl rfl rfl (r_pick_f rfl (v := .bool false) rfl) ?_
    refine WL_nil ?_
    refine hK12 _ _ ?_
    clear hK12 K11
    refine WC_cond_false rfl ?_
    refine WC_skip ?_
    refine hK10 _ _ ?_
    clear hK10 K9
    refine WC_seq (fun K35 hK36 => ?_)
    refine WC_region ?_
    refine WL_val (dd := some 17) rfl rfl rfl (r_loadW rfl tb_ag34 rfl hm0_0) ?_
    refine WL_call (dd := some 18) rfl rfl rfl (r_call1 tb_c133 (v0 := .agg #[_, _]) rfl) (C_cube_plain _ _ _ (by first | omega | assumption) (by first | omega | assumption)) (fun v3_1 W37 hE38 hP3_1 => ?_)
    have hsz39 := (Below.size hB)
    replace hB := below_ext hB hE38 (Nat.le_refl _)
    replace hm0_0 := hE38.at hm0_0
    replace hm0_1 := hE38.at hm0_1
    clear hE38
    clear hsz39
    obtain rfl := hP3_1
    refine WL_step (dd := none) rfl rfl rfl (Y_storeW rfl rfl tb_ag34 rfl hm0_1 rfl (by rfl) (fun W40 hG41 hm42 => ?_))
    replace hB := below_grown hB hG41 (Nat.le_refl _) (fun j hj => by cases hj; exact lo_b0_1)
    replace hm0_0 := At.grownNe hm0_0 ne_b0_0_b0_1 hG41
    clear hG41 hm0_1
    have hm0_1 := hm42
    clear hm42
    refine WL_nil ?_
    refine hK36 _ _ ?_
    clear hK36 K35
    refine WC_ret ?_
    repeat (first | refine thenQ_ret ?_ | refine blockQ_ret ?_)
    refine ret_c rfl tb_ag34 hm0_1 rfl ?_
    refine ⟨hB, ?_⟩
    first | (rw [woV, woM, if_pos (by omega)]; simp only [Nat.one_mul]) | (rw [woV, woM, if_neg (by omega)])

theorem C_cube_Holds (m u m2 u2 : Nat) (w : World) (hm : m < 256) (hv : u < 256) (hm2 : m2 < 256) (hv2 : u2 < 256) :
    Fn Try.prog 31 #[.agg #[.int .u8 (m : Int), .int .u8 (u : Int)], .agg #[.int .u8 (m2 : Int), .int .u8 (u2 : Int)]] w fun v w' => v = .bool (holdsB ⟨m, u⟩ ⟨m2, u2⟩) := by
  refine Fn_intro (n := 22) Try.func31 rfl rfl (Nat.le_of_ble_eq_true rfl) ?_
  have hB : Below w.heap.size w w := Below.refl _ _
  refine WC_seq (fun K1 hK2 => ?_)
  refine WC_region ?_
  refine WL_step (dd := some 2) rfl rfl rfl (Y_box (c := #[_, _]) rfl rfl (fun b0_0 W3 hb4 hE5 hm0_0 => ?_))
  have lo_b0_0 : w.heap.size ≤ b0_0 := hb4 ▸ (Below.size hB)
  clear hb4
  replace hB := below_ext hB hE5 (Nat.le_refl _)
  clear hE5
  refine WL_step (dd := some 3) rfl rfl rfl (Y_box (c := #[_, _]) rfl rfl (fun b0_1 W6 hb7 hE8 hm0_1 => ?_))
  have lo_b0_1 : w.heap.size ≤ b0_1 := hb7 ▸ (Below.size hB)
  have ne_b0_0_b0_1 : b0_0 ≠ b0_1 := Nat.ne_of_lt (hb7 ▸ hm0_0.lt)
  clear hb7
  replace hB := below_ext hB hE8 (Nat.le_refl _)
  replace hm0_0 := hE8.at hm0_0
  clear hE8
  refine WL_val (dd := some 4) rfl rfl rfl (r_assign (v := .bool false) rfl) ?_
  refine WL_nil ?_
  refine hK2 _ _ ?_
  clear hK2 K1
  refine WC_seq (fun K9 hK10 => ?_)
  refine WC_region ?_
  refine WL_val (dd := some 5) rfl rfl rfl (r_fieldAddr (b := _) (o := _) rfl tb_fo34_0) ?_
  refine WL_val (dd := some 6) rfl rfl rfl (r_load1 (v := .int .u8 _) rfl tb_sc5 (At.cell hm0_0 rfl)) ?_
  refine WL_val (dd := some 7) rfl rfl rfl (r_fieldAddr (b := _) (o := _) rfl tb_fo34_0) ?_
  refine WL_val (dd := some 8) rfl rfl rfl (r_load1 (v := .int .u8 _) rfl tb_sc5 (At.cell hm0_1 rfl)) ?_
  refine WL_val (dd := some 9) rfl rfl rfl (r_andNot (n := _) rfl rfl rfl (by first | assumption | (simp only [topN]; omega) | (simp only [topN]; decide)) (by first | assumption | (simp only [topN]; omega) | (simp only [topN]; decide))) ?_
  refine WL_val (dd := some 10) rfl rfl rfl (r_eql rfl rfl) ?_
  refine WL_split (dd := some 11) rfl rfl rfl (r_move (v := .bool _) rfl) (fun hs1_6 => ?_) (fun hs1_6 => ?_)
  ·
    try with_reducible replace hs1_6 := of_decide_eq_true hs1_6
    refine WL_val (dd := some 12) rfl rfl rfl (r_fieldAddr (b := _) (o := _) rfl tb_fo34_1) ?_
    refine WL_val (dd := some 13) rfl rfl rfl (r_load1 (v := .int .u8 _) rfl tb_sc5 (At.cell hm0_0 rfl)) ?_
    refine WL_val (dd := some 14) rfl rfl rfl (r_fieldAddr (b := _) (o := _) rfl tb_fo34_1) ?_
    refine WL_val (dd := some 15) rfl rfl rfl (r_load1 (v := .int .u8 _) rfl tb_sc5 (At.cell hm0_1 rfl)) ?_
    refine WL_val (dd := some 16) rfl rfl rfl (r_xor (n := _) rfl rfl rfl (by first | assumption | (simp only [topN]; omega) | (simp only [topN]; decide)) (by first | assumption | (simp only [topN]; omega) | (simp only [topN]; decide))) ?_
    refine WL_val (dd := some 17) rfl rfl rfl (r_fieldAddr (b := _) (o := _) rfl tb_fo34_0) ?_
    refine WL_val (dd := some 18) rfl rfl rfl (r_load1 (v := .int .u8 _) rfl tb_sc5 (At.cell hm0_0 rfl)) ?_
    refine WL_val (dd := some 19) rfl rfl rfl (r_and (n := _) rfl rfl rfl (by exact xor_lt8 (by simpa using hv) (by simpa using hv2)) (by first | assumption | (simp only [topN]; omega) | (simp only [topN]; decide))) ?_
    refine WL_val (dd := some 20) rfl rfl rfl (r_eql rfl rfl) ?_
    refine WL_val (dd := some 21) rfl rfl rfl (r_pick_t rfl (v := .bool _) rfl) ?_
    refine WL_val (dd := some 4) rfl rfl rfl (r_assign (v := .bool _) rfl) ?_
    refine WL_nil ?_
    refine hK10 _ _ ?_
    clear hK10 K9
    refine WC_ret ?_
    repeat (first | refine thenQ_ret ?_ | refine blockQ_ret ?_)
    refine ret_t (v := .bool _) rfl ?_
    refine ⟨hB, ?_⟩
    first | exact congrArg Value.bool (holds_v1 hs1_6) | exact congrArg Value.bool (holds_v2 hs1_6)
  ·
    try with_reducible replace hs1_6 := of_decide_eq_false hs1_6
    refine WL_skip (dd := some 12) rfl rfl rfl ?_
    refine WL_skip (dd := some 13) rfl rfl rfl ?_
    refine WL_skip (dd := some 14) rfl rfl rfl ?_
    refine WL_skip (dd := some 15) rfl rfl rfl ?_
    refine WL_skip (dd := some 16) rfl rfl rfl ?_
    refine WL_skip (dd := some 17) rfl rfl rfl ?_
    refine WL_skip (dd := some 18) rfl rfl rfl ?_
    refine WL_skip (dd := some 19) rfl rfl rfl ?_
    refine WL_skip (dd := some 20) rfl rfl rfl ?_
    refine WL_val (dd := some 21) rfl rfl rfl (r_pick_f rfl (v := .bool false) rfl) ?_
    refine WL_val (dd := some 4) rfl rfl rfl (r_assign (v := .bool false) rfl) ?_
    refine WL_nil ?_
    refine hK10 _ _ ?_
    clear hK10 K9
    refine WC_ret ?_
    repeat (first | refine thenQ_ret ?_ | refine blockQ_ret ?_)
    refine ret_t (v := .bool false) rfl ?_
    refine ⟨hB, ?_⟩
    first | exact congrArg Value.bool (holds_v1 hs1_6) | exact congrArg Value.bool (holds_v2 hs1_6)

theorem C_drawkniferef09_Of (s : Nat) (n : Int) (w : World) :
    Fn Try.prog 23 #[setV s, .int .i64 n] w fun v w' => v = .bool (ofB s n) := by
  refine Fn_intro (n := 18) Try.func23 rfl rfl (Nat.le_of_ble_eq_true rfl) ?_
  have hB : Below w.heap.size w w := Below.refl _ _
  refine WC_seq (fun K1 hK2 => ?_)
  refine WC_region ?_
  refine WL_step (dd := some 2) rfl rfl rfl (Y_box (c := #[_, _, _, _]) rfl rfl (fun b0_0 W3 hb4 hE5 hm0_0 => ?_))
  have lo_b0_0 : w.heap.size ≤ b0_0 := hb4 ▸ (Below.size hB)
  clear hb4
  replace hB := below_ext hB hE5 (Nat.le_refl _)
  clear hE5
  refine WL_val (dd := some 4) rfl rfl rfl (r_assign (v := .bool false) rfl) ?_
  refine WL_nil ?_
  refine hK2 _ _ ?_
  clear hK2 K1
  refine WC_seq (fun K6 hK7 => ?_)
  refine WC_draw Ext tb_mix (fun W8 hE9 => ?_)
  replace hB := below_ext hB hE9 (Nat.le_refl _)
  replace hm0_0 := hE9.at hm0_0
  have hS := Ext.refl W8
  refine WT_take (dd := some 5) 0 rfl (by kernel_rfl) (by kernel_rfl) (by kernel_rfl) rfl rfl rfl (fun _wq _hq => r_move (v := .int .i64 _) rfl) hS ?_
  refine WT_take (dd := some 6) 1 rfl (by kernel_rfl) (by kernel_rfl) (by kernel_rfl) rfl rfl rfl (fun _wq _hq => r_geq rfl rfl) hS ?_
  refine WT_split (dd := some 7) 2 rfl (by kernel_rfl) (by kernel_rfl) (by kernel_rfl) rfl rfl rfl (fun wq hq => r_move (v := .bool _) rfl) hS (fun hs1_2 => ?_) (fun hs1_2 => ?_)
  ·
    try with_reducible replace hs1_2 := of_decide_eq_true hs1_2
    refine WT_take (dd := some 8) 3 rfl (by kernel_rfl) (by kernel_rfl) (by kernel_rfl) rfl rfl rfl (fun _wq _hq => r_move (v := .int .i64 _) rfl) hS ?_
    refine WT_take (dd := some 9) 4 rfl (by kernel_rfl) (by kernel_rfl) (by kernel_rfl) rfl rfl rfl (fun _wq _hq => r_leq rfl rfl) hS ?_
    refine WT_take (dd := some 10) 5 rfl (by kernel_rfl) (by kernel_rfl) (by kernel_rfl) rfl rfl rfl (fun _wq _hq => r_pick_t rfl (v := .bool _) rfl) hS ?_
    refine WT_split (dd := some 11) 6 rfl (by kernel_rfl) (by kernel_rfl) (by kernel_rfl) rfl rfl rfl (fun wq hq => r_move (v := .bool _) rfl) hS (fun hs1_6 => ?_) (fun hs1_6 => ?_)
    ·
      try with_reducible replace hs1_6 := of_decide_eq_true hs1_6
      refine WT_take (dd := some 12) 7 rfl (by kernel_rfl) (by kernel_rfl) (by kernel_rfl) rfl rfl rfl (fun _wq hq => r_loadW rfl tb_ag24 rfl (hq.at hm0_0)) hS ?_
      refine WT_take (dd := some 13) 8 rfl (by kernel_rfl) (by kernel_rfl) (by kernel_rfl) rfl rfl rfl (fun _wq _hq => r_move (v := .int .i64 _) rfl) hS ?_
      refine WT_one (dd := some 14) 9 (by kernel_rfl) rfl rfl rfl rfl (Yd.call (r_call1 tb_c78 (v0 := .int .i64 _) rfl) (C_drawkniferef01_All _ _ (by first | assumption | omega) (by first | assumption | omega)) (fun v1_9 W10 hE11 hP1_9 => ⟨.inl (hS.trans hE11), ?_⟩))
      have hsz12 := (Below.size hB)
      have sv13_hB := hB
      have sv13_hm0_0 := hm0_0
      replace hB := below_ext hB hE11 (Nat.le_refl _)
      replace hm0_0 := hE11.at hm0_0
      replace hS := hS.trans hE11
      clear hE11
      replace hP1_9 := OwT.mono hP1_9 hsz12
      clear hsz12
      refine WT_one (dd := some 15) 10 (by kernel_rfl) rfl rfl rfl rfl (Yd.call (r_call1 tb_c35 (v0 := v1_9) rfl) (C_drawkniferef01_Set _ _ _ hP1_9.sl (by first | with_reducible assumption | with_reducible exact firstF_len _ | with_reducible exact ptF_len _ _ _ _ | simp)) (fun v1_10 W14 hE15 hP1_10 => ⟨.inl (hS.trans hE15), ?_⟩))
      have hsz16 := (Below.size hB)
      replace hB := below_ext hB hE15 (Nat.le_refl _)
      replace hm0_0 := hE15.at hm0_0
      replace hP1_9 := hE15.ow hP1_9
      replace hS := hS.trans hE15
      clear hE15
      clear hsz16
      obtain rfl := hP1_10
      refine WT_one (dd := some 16) 11 (by kernel_rfl) rfl rfl rfl rfl (Yd.call (r_call2 tb_c42 (v0 := .agg #[_, _, _, _]) rfl (v1 := .agg #[_, _, _, _]) rfl) (C_drawkniferef01_Within _ _ _) (fun v1_11 W17 hE18 hP1_11 => ⟨.inl (hS.trans hE18), ?_⟩))
      have hsz19 := (Below.size hB)
      replace hB := below_ext hB hE18 (Nat.le_refl _)
      replace hm0_0 := hE18.at hm0_0
      replace hP1_9 := hE18.ow hP1_9
      replace hS := hS.trans hE18
      clear hE18
      clear hsz19
      obtain rfl := hP1_11
      refine WT_take (dd := some 17) 12 rfl (by kernel_rfl) (by kernel_rfl) (by kernel_rfl) rfl rfl rfl (fun _wq _hq => r_pick_t rfl (v := .bool _) rfl) hS ?_
      refine WT_take (dd := some 4) 13 rfl (by kernel_rfl) (by kernel_rfl) (by kernel_rfl) rfl rfl rfl (fun _wq _hq => r_assign (v := .bool _) rfl) hS ?_
      refine WT_done (by kernel_rfl) ?_
      try clear sv13_hB sv13_hm0_0
      refine hK7 _ _ ?_
      clear hK7 K6
      refine WC_ret ?_
      repeat (first | refine thenQ_ret ?_ | refine blockQ_ret ?_)
      refine ret_t (v := .bool _) rfl ?_
      refine ⟨hB, ?_⟩
      first | exact congrArg Value.bool (ofB_t (by assumption) (by assumption)) | exact congrArg Value.bool (ofB_f (by first | exact .inl (by assumption) | exact .inr (by assumption)))
    ·
      try with_reducible replace hs1_6 := of_decide_eq_false hs1_6
      refine WT_pass (dd := some 12) 7 rfl (by kernel_rfl) (by kernel_rfl) (by kernel_rfl) rfl rfl rfl hS ?_
      refine WT_pass (dd := some 13) 8 rfl (by kernel_rfl) (by kernel_rfl) (by kernel_rfl) rfl rfl rfl hS ?_
      refine WT_pass (dd := some 14) 9 rfl (by kernel_rfl) (by kernel_rfl) (by kernel_rfl) rfl rfl rfl hS ?_
      refine WT_pass (dd := some 15) 10 rfl (by kernel_rfl) (by kernel_rfl) (by kernel_rfl) rfl rfl rfl hS ?_
      refine WT_pass (dd := some 16) 11 rfl (by kernel_rfl) (by kernel_rfl) (by kernel_rfl) rfl rfl rfl hS ?_
      refine WT_take (dd := some 17) 12 rfl (by kernel_rfl) (by kernel_rfl) (by kernel_rfl) rfl rfl rfl (fun _wq _hq => r_pick_f rfl (v := .bool false) rfl) hS ?_
      refine WT_take (dd := some 4) 13 rfl (by kernel_rfl) (by kernel_rfl) (by kernel_rfl) rfl rfl rfl (fun _wq _hq => r_assign (v := .bool false) rfl) hS ?_
      refine WT_done (by kernel_rfl) ?_
      refine hK7 _ _ ?_
      clear hK7 K6
      refine WC_ret ?_
      repeat (first | refine thenQ_ret ?_ | refine blockQ_ret ?_)
      refine ret_t (v := .bool false) rfl ?_
      refine ⟨hB, ?_⟩
      first | exact congrArg Value.bool (ofB_t (by assumption) (by assumption)) | exact congrArg Value.bool (ofB_f (by first | exact .inl (by assumption) | exact .inr (by assumption)))
  ·
    try with_reducible replace hs1_2 := of_decide_eq_false hs1_2
    refine WT_pass (dd := some 8) 3 rfl (by kernel_rfl) (by kernel_rfl) (by kernel_rfl) rfl rfl rfl hS ?_
    refine WT_pass (dd := some 9) 4 rfl (by kernel_rfl) (by kernel_rfl) (by kernel_rfl) rfl rfl rfl hS ?_
    refine WT_take (dd := some 10) 5 rfl (by kernel_rfl) (by kernel_rfl) (by kernel_rfl) rfl rfl rfl (fun _wq _hq => r_pick_f rfl (v := .bool false) rfl) hS ?_
    refine WT_take (dd := some 11) 6 rfl (by kernel_rfl) (by kernel_rfl) (by kernel_rfl) rfl rfl rfl (fun _wq _hq => r_move (v := .bool false) rfl) hS ?_
    refine WT_pass (dd := some 12) 7 rfl (by kernel_rfl) (by kernel_rfl) (by kernel_rfl) rfl rfl rfl hS ?_
    refine WT_pass (dd := some 13) 8 rfl (by kernel_rfl) (by kernel_rfl) (by kernel_rfl) rfl rfl rfl hS ?_
    refine WT_pass (dd := some 14) 9 rfl (by kernel_rfl) (by kernel_rfl) (by kernel_rfl) rfl rfl rfl hS ?_
    refine WT_pass (dd := some 15) 10 rfl (by kernel_rfl) (by kernel_rfl) (by kernel_rfl) rfl rfl rfl hS ?_
    refine WT_pass (dd := some 16) 11 rfl (by kernel_rfl) (by kernel_rfl) (by kernel_rfl) rfl rfl rfl hS ?_
    refine WT_take (dd := some 17) 12 rfl (by kernel_rfl) (by kernel_rfl) (by kernel_rfl) rfl rfl rfl (fun _wq _hq => r_pick_f rfl (v := .bool false) rfl) hS ?_
    refine WT_take (dd := some 4) 13 rfl (by kernel_rfl) (by kernel_rfl) (by kernel_rfl) rfl rfl rfl (fun _wq _hq => r_assign (v := .bool false) rfl) hS ?_
    refine WT_done (by kernel_rfl) ?_
    refine hK7 _ _ ?_
    clear hK7 K6
    refine WC_ret ?_
    repeat (first | refine thenQ_ret ?_ | refine blockQ_ret ?_)
    refine ret_t (v := .bool false) rfl ?_
    refine ⟨hB, ?_⟩
    first | exact congrArg Value.bool (ofB_t (by assumption) (by assumption)) | exact congrArg Value.bool (ofB_f (by first | exact .inl (by assumption) | exact .inr (by assumption)))

theorem C_drawkniferef09_Within (m u s : Nat) (n : Int) (w : World) (hm : m < 256) (hv : u < 256) :
    Fn Try.prog 32 #[.agg #[.int .u8 (m : Int), .int .u8 (u : Int)], setV s, .int .i64 n] w fun v w' => v = .bool (wiB m u s n) := by
  refine Fn_intro (n := 17) Try.func32 rfl rfl (Nat.le_of_ble_eq_true rfl) ?_
  have hB : Below w.heap.size w w := Below.refl _ _
  refine WC_seq (fun K1 hK2 => ?_)
  refine WC_region ?_
  refine WL_step (dd := some 3) rfl rfl rfl (Y_box (c := #[_, _]) rfl rfl (fun b0_0 W3 hb4 hE5 hm0_0 => ?_))
  have lo_b0_0 : w.heap.size ≤ b0_0 := hb4 ▸ (Below.size hB)
  clear hb4
  replace hB := below_ext hB hE5 (Nat.le_refl _)
  clear hE5
  refine WL_step (dd := some 4) rfl rfl rfl (Y_box (c := #[_, _, _, _]) rfl rfl (fun b0_1 W6 hb7 hE8 hm0_1 => ?_))
  have lo_b0_1 : w.heap.size ≤ b0_1 := hb7 ▸ (Below.size hB)
  clear hb7
  replace hB := below_ext hB hE8 (Nat.le_refl _)
  replace hm0_0 := hE8.at hm0_0
  clear hE8
  refine WL_val (dd := some 6) rfl rfl rfl (r_assign (v := .bool false) rfl) ?_
  refine WL_nil ?_
  refine hK2 _ _ ?_
  clear hK2 K1
  refine WC_seq (fun K9 hK10 => ?_)
  refine WC_draw Ext tb_mix (fun W11 hE12 => ?_)
  replace hB := below_ext hB hE12 (Nat.le_refl _)
  replace hm0_0 := hE12.at hm0_0
  replace hm0_1 := hE12.at hm0_1
  have hS := Ext.refl W11
  refine WT_take (dd := some 7) 0 rfl (by kernel_rfl) (by kernel_rfl) (by kernel_rfl) rfl rfl rfl (fun _wq hq => r_loadW rfl tb_ag34 rfl (hq.at hm0_0)) hS ?_
  refine WT_take (dd := some 8) 1 rfl (by kernel_rfl) (by kernel_rfl) (by kernel_rfl) rfl rfl rfl (fun _wq _hq => r_move (v := .int .i64 _) rfl) hS ?_
  refine WT_one (dd := some 9) 2 (by kernel_rfl) rfl rfl rfl rfl (Yd.call (r_call2 tb_c92 (v0 := .agg #[_, _]) rfl (v1 := .int .i64 _) rfl) (C_drawkniferef02_Right _ _ _ _ (by first | assumption | omega) (by first | assumption | omega)) (fun v1_2 W13 hE14 hP1_2 => ⟨.inl (hS.trans hE14), ?_⟩))
  have hsz15 := (Below.size hB)
  have sv16_hB := hB
  have sv16_hm0_0 := hm0_0
  have sv16_hm0_1 := hm0_1
  replace hB := below_ext hB hE14 (Nat.le_refl _)
  replace hm0_0 := hE14.at hm0_0
  replace hm0_1 := hE14.at hm0_1
  replace hS := hS.trans hE14
  clear hE14
  clear hsz15
  obtain rfl := hP1_2
  refine WT_split (dd := some 10) 3 rfl (by kernel_rfl) (by kernel_rfl) (by kernel_rfl) rfl rfl rfl (fun wq hq => r_move (v := .bool _) rfl) hS (fun hs1_3 => ?_) (fun hs1_3 => ?_)
  ·
    try with_reducible replace hs1_3 := of_decide_eq_true hs1_3
    refine WT_take (dd := some 11) 4 rfl (by kernel_rfl) (by kernel_rfl) (by kernel_rfl) rfl rfl rfl (fun _wq hq => r_loadW rfl tb_ag34 rfl (hq.at sv16_hm0_0)) hS ?_
    refine WT_take (dd := some 12) 5 rfl (by kernel_rfl) (by kernel_rfl) (by kernel_rfl) rfl rfl rfl (fun _wq _hq => r_move (v := .int .i64 _) rfl) hS ?_
    refine WT_take (dd := some 14) 7 rfl (by kernel_rfl) (by kernel_rfl) (by kernel_rfl) rfl rfl rfl (fun _wq hq => r_loadW rfl tb_ag24 rfl (hq.at sv16_hm0_1)) hS ?_
    refine WT_one (dd := some 13) 6 (by kernel_rfl) rfl rfl rfl rfl (Yd.call (r_call2 tb_c93 (v0 := .agg #[_, _]) rfl (v1 := .int .i64 _) rfl) (C_drawkniferef02_Points _ _ _ _ hm hv (rightB_iff.1 hs1_3).1 (rightB_iff.1 hs1_3).2.1) (fun v1_6 W17 hE18 hP1_6 => ⟨.inl (hS.trans hE18), ?_⟩))
    have hsz19 := (Below.size hB)
    replace hB := below_ext hB hE18 (Nat.le_refl _)
    replace hm0_0 := hE18.at hm0_0
    replace hm0_1 := hE18.at hm0_1
    replace hS := hS.trans hE18
    clear hE18
    clear hsz19
    obtain rfl := hP1_6
    refine WT_one (dd := some 15) 8 (by kernel_rfl) rfl rfl rfl rfl (Yd.call (r_call2 tb_c42 (v0 := .agg #[_, _, _, _]) rfl (v1 := .agg #[_, _, _, _]) rfl) (C_drawkniferef01_Within _ _ _) (fun v1_8 W20 hE21 hP1_8 => ⟨.inl (hS.trans hE21), ?_⟩))
    have hsz22 := (Below.size hB)
    replace hB := below_ext hB hE21 (Nat.le_refl _)
    replace hm0_0 := hE21.at hm0_0
    replace hm0_1 := hE21.at hm0_1
    replace hS := hS.trans hE21
    clear hE21
    clear hsz22
    obtain rfl := hP1_8
    refine WT_take (dd := some 16) 9 rfl (by kernel_rfl) (by kernel_rfl) (by kernel_rfl) rfl rfl rfl (fun _wq _hq => r_pick_t rfl (v := .bool _) rfl) hS ?_
    refine WT_take (dd := some 6) 10 rfl (by kernel_rfl) (by kernel_rfl) (by kernel_rfl) rfl rfl rfl (fun _wq _hq => r_assign (v := .bool _) rfl) hS ?_
    refine WT_done (by kernel_rfl) ?_
    try clear sv16_hB sv16_hm0_0 sv16_hm0_1
    refine hK10 _ _ ?_
    clear hK10 K9
    refine WC_ret ?_
    repeat (first | refine thenQ_ret ?_ | refine blockQ_ret ?_)
    refine ret_t (v := .bool _) rfl ?_
    refine ⟨hB, ?_⟩
    first | exact congrArg Value.bool (wiB_t hs1_3) | exact congrArg Value.bool (wiB_f hs1_3)
  ·
    try with_reducible replace hs1_3 := of_decide_eq_false hs1_3
    refine WT_pass (dd := some 11) 4 rfl (by kernel_rfl) (by kernel_rfl) (by kernel_rfl) rfl rfl rfl hS ?_
    refine WT_pass (dd := some 12) 5 rfl (by kernel_rfl) (by kernel_rfl) (by kernel_rfl) rfl rfl rfl hS ?_
    refine WT_pass (dd := some 13) 6 rfl (by kernel_rfl) (by kernel_rfl) (by kernel_rfl) rfl rfl rfl hS ?_
    refine WT_pass (dd := some 14) 7 rfl (by kernel_rfl) (by kernel_rfl) (by kernel_rfl) rfl rfl rfl hS ?_
    refine WT_pass (dd := some 15) 8 rfl (by kernel_rfl) (by kernel_rfl) (by kernel_rfl) rfl rfl rfl hS ?_
    refine WT_take (dd := some 16) 9 rfl (by kernel_rfl) (by kernel_rfl) (by kernel_rfl) rfl rfl rfl (fun _wq _hq => r_pick_f rfl (v := .bool false) rfl) hS ?_
    refine WT_take (dd := some 6) 10 rfl (by kernel_rfl) (by kernel_rfl) (by kernel_rfl) rfl rfl rfl (fun _wq _hq => r_assign (v := .bool false) rfl) hS ?_
    refine WT_done (by kernel_rfl) ?_
    try clear sv16_hB sv16_hm0_0 sv16_hm0_1
    refine hK10 _ _ ?_
    clear hK10 K9
    refine WC_ret ?_
    repeat (first | refine thenQ_ret ?_ | refine blockQ_ret ?_)
    refine ret_t (v := .bool false) rfl ?_
    refine ⟨hB, ?_⟩
    first | exact congrArg Value.bool (wiB_t hs1_3) | exact congrArg Value.bool (wiB_f hs1_3)

theorem C_drawkniferef09_without (m u i : Nat) (w : World) (hm : m < 256) (hv : u < 256) (hi : i < 8) :
    Fn Try.prog 87 #[.agg #[.int .u8 (m : Int), .int .u8 (u : Int)], .int .i64 (i : Int)] w fun v w' => v = woV m u (i : Int) := by
  refine Fn_intro (n := 13) Try.func87 rfl rfl (Nat.le_of_ble_eq_true rfl) ?_
  have hB : Below w.heap.size w w := Below.refl _ _
  refine WC_seq (fun K1 hK2 => ?_)
  refine WC_region ?_
  refine WL_step (dd := some 2) rfl rfl rfl (Y_box (c := #[_, _]) rfl rfl (fun b0_0 W3 hb4 hE5 hm0_0 => ?_))
  have lo_b0_0 : w.heap.size ≤ b0_0 := hb4 ▸ (Below.size hB)
  clear hb4
  replace hB := below_ext hB hE5 (Nat.le_refl _)
  clear hE5
  refine WL_step (dd := some 4) rfl rfl rfl (Y_alloc tb_z34 rfl (fun b0_1 W6 hb7 hE8 hm0_1 => ?_))
  have lo_b0_1 : w.heap.size ≤ b0_1 := hb7 ▸ (Below.size hB)
  have ne_b0_0_b0_1 : b0_0 ≠ b0_1 := Nat.ne_of_lt (hb7 ▸ hm0_0.lt)
  clear hb7
  replace hB := below_ext hB hE8 (Nat.le_refl _)
  replace hm0_0 := hE8.at hm0_0
  clear hE8
  refine WL_nil ?_
  refine hK2 _ _ ?_
  clear hK2 K1
  refine WC_seq (fun K9 hK10 => ?_)
  refine WC_region ?_
  refine WL_val (dd := some 6) rfl rfl rfl (r_loadW rfl tb_ag34 rfl hm0_0) ?_
  refine WL_call (dd := some 7) rfl rfl rfl (r_call1 tb_c86 (v0 := .agg #[_, _]) rfl) (C_drawkniferef02_Literals _ _ _ (by first | assumption | omega) (by first | assumption | omega)) (fun v1_1 W11 hE12 hP1_1 => ?_)
  have hsz13 := (Below.size hB)
  replace hB := below_ext hB hE12 (Nat.le_refl _)
  replace hm0_0 := hE12.at hm0_0
  replace hm0_1 := hE12.at hm0_1
  clear hE12
  replace hP1_1 := OwT.mono hP1_1 hsz13
  clear hsz13
  refine WL_val (dd := some 5) rfl rfl rfl (r_assign (v := v1_1) rfl) ?_
  refine WL_nil ?_
  refine hK10 _ _ ?_
  clear hK10 K9
  refine WC_seq (fun K14 hK15 => ?_)
  refine WC_region ?_
  refine WL_val (dd := some 8) rfl rfl rfl (r_move (v := v1_1) rfl) ?_
  refine WL_val (dd := some 9) rfl rfl rfl (r_move (v := .int .i64 _) rfl) ?_
  refine WL_val (dd := some 10) rfl rfl rfl (r_idxS (v := v1_1) rfl hP1_1.sl rfl tb_el57 (by omega) (by first | omega | (simp only [flagsTo_len, litsTo_len, firstF_len, ptF_len]; omega))) ?_
  refine WL_step (dd := none) rfl rfl rfl (Y_storeE (v := v1_1) (u := .int .i64 2) (a := 2) (j := _) rfl rfl (.inl ⟨tb_sc3, rfl⟩) encI_len rfl rfl hP1_1 (by omega) (by first | omega | (simp only [flagsTo_len, litsTo_len, firstF_len, ptF_len]; omega)) (fun W16 hG17 hm18 => ?_))
  replace hB := below_grown hB hG17 (Nat.le_refl _) (fun j hj => (OwT.lt hP1_1 j hj))
  replace hm0_0 := At.grownOw hm0_0 hP1_1 hG17 (by decide)
  replace hm0_1 := At.grownOw hm0_1 hP1_1 hG17 (by decide)
  clear hG17 hP1_1
  have hP1_1 := hm18
  clear hm18
  refine WL_nil ?_
  refine hK15 _ _ ?_
  clear hK15 K14
  refine WC_seq (fun K19 hK20 => ?_)
  refine WC_region ?_
  refine WL_val (dd := some 11) rfl rfl rfl (r_move (v := v1_1) rfl) ?_
  refine WL_call (dd := some 12) rfl rfl rfl (r_call1 tb_c127 (v0 := v1_1) rfl) (C_drawkniferef02_Cube _ _ _ hP1_1.sl (by first | assumption | exact lits_litsS _ _ | (rw [lits_without (by assumption)]; exact lits_litsS _ _))) (fun v3_1 W21 hE22 hP3_1 => ?_)
  have hsz23 := (Below.size hB)
  replace hB := below_ext hB hE22 (Nat.le_refl _)
  replace hm0_0 := hE22.at hm0_0
  replace hm0_1 := hE22.at hm0_1
  replace hP1_1 := hE22.ow hP1_1
  clear hE22
  clear hsz23
  obtain rfl := hP3_1
  refine WL_step (dd := none) rfl rfl rfl (Y_storeW rfl rfl tb_ag34 rfl hm0_1 rfl (by rfl) (fun W24 hG25 hm26 => ?_))
  replace hB := below_grown hB hG25 (Nat.le_refl _) (fun j hj => by cases hj; exact lo_b0_1)
  replace hm0_0 := At.grownNe hm0_0 ne_b0_0_b0_1 hG25
  replace hP1_1 := OwT.grownAt hP1_1 hm0_1 hG25 (by decide)
  clear hG25 hm0_1
  have hm0_1 := hm26
  clear hm26
  refine WL_nil ?_
  refine hK20 _ _ ?_
  clear hK20 K19
  refine WC_ret ?_
  repeat (first | refine thenQ_ret ?_ | refine blockQ_ret ?_)
  refine ret_c rfl tb_ag34 hm0_1 rfl ?_
  refine ⟨hB, ?_⟩
  have hw := woM_le m (i : Int)
  have hc := cube_lits (m := woM m (i : Int)) (v := u) (by omega) hv
  rw [lits_without hi, hc.1, hc.2]

theorem C_drawkniferef09_Prime (m u s : Nat) (n : Int) (w : World) (hm : m < 256) (hv : u < 256) :
    Fn Try.prog 28 #[.agg #[.int .u8 (m : Int), .int .u8 (u : Int)], setV s, .int .i64 n] w fun v w' => v = .bool (primeB m u s n) := by
  refine Fn_intro (n := 34) Try.func28 rfl rfl (Nat.le_of_ble_eq_true rfl) ?_
  have hB : Below w.heap.size w w := Below.refl _ _
  refine WC_seq (fun K1 hK2 => ?_)
  refine WC_region ?_
  refine WL_step (dd := some 3) rfl rfl rfl (Y_box (c := #[_, _]) rfl rfl (fun b0_0 W3 hb4 hE5 hm0_0 => ?_))
  have lo_b0_0 : w.heap.size ≤ b0_0 := hb4 ▸ (Below.size hB)
  clear hb4
  replace hB := below_ext hB hE5 (Nat.le_refl _)
  clear hE5
  refine WL_step (dd := some 4) rfl rfl rfl (Y_box (c := #[_, _, _, _]) rfl rfl (fun b0_1 W6 hb7 hE8 hm0_1 => ?_))
  have lo_b0_1 : w.heap.size ≤ b0_1 := hb7 ▸ (Below.size hB)
  clear hb7
  replace hB := below_ext hB hE8 (Nat.le_refl _)
  replace hm0_0 := hE8.at hm0_0
  clear hE8
  refine WL_val (dd := some 6) rfl rfl rfl (r_assign (v := .bool false) rfl) ?_
  refine WL_nil ?_
  refine hK2 _ _ ?_
  clear hK2 K1
  refine WC_seq (fun K9 hK10 => ?_)
  refine WC_seq (fun K11 hK12 => ?_)
  refine WC_region ?_
  refine WL_val (dd := some 9) rfl rfl rfl (r_loadW rfl tb_ag34 rfl hm0_0) ?_
  refine WL_val (dd := some 10) rfl rfl rfl (r_loadW rfl tb_ag24 rfl hm0_1) ?_
  refine WL_val (dd := some 11) rfl rfl rfl (r_move (v := .int .i64 _) rfl) ?_
  refine WL_call (dd := some 12) rfl rfl rfl (r_call3 tb_c32 (v0 := .agg #[_, _]) rfl (v1 := .agg #[_, _, _, _]) rfl (v2 := .int .i64 _) rfl) (C_drawkniferef09_Within _ _ _ _ _ (by first | assumption | omega) (by first | assumption | omega)) (fun v1_3 W13 hE14 hP1_3 => ?_)
  have hsz15 := (Below.size hB)
  replace hB := below_ext hB hE14 (Nat.le_refl _)
  replace hm0_0 := hE14.at hm0_0
  replace hm0_1 := hE14.at hm0_1
  clear hE14
  clear hsz15
  obtain rfl := hP1_3
  refine WL_val (dd := some 13) rfl rfl rfl (r_not rfl) ?_
  refine WL_nil ?_
  refine hK12 _ _ ?_
  clear hK12 K11
  refine WC_cond (b := _) rfl (fun hc0 => ?_) (fun hc0 => ?_)
  ·
    try with_reducible replace hc0 := of_decide_eq_true hc0
    refine WC_seq (fun K16 hK17 => ?_)
    refine WC_region ?_
    refine WL_val (dd := some 6) rfl rfl rfl (r_assign (v := .bool false) rfl) ?_
    refine WL_nil ?_
    refine hK17 _ _ ?_
    clear hK17 K16
    refine WC_ret ?_
    repeat (first | refine thenQ_ret ?_ | refine blockQ_ret ?_)
    try clear hK10 K9
    refine ret_t (v := .bool false) rfl ?_
    refine ⟨hB, ?_⟩
    exact congrArg Value.bool (primeB_f (by simpa using hc0))
  ·
    try with_reducible replace hc0 := of_decide_eq_false hc0
    refine WC_skip ?_
    refine hK10 _ _ ?_
    clear hK10 K9
    refine WC_seq (fun K18 hK19 => ?_)
    have hw : wiB m u s n = true := by simpa using hc0
    obtain ⟨hn0, hn8, _, _⟩ := rightB_iff.1 (wiB_right hw)
    refine WC_region ?_
    refine WL_val (dd := some 14) rfl rfl rfl (r_loadW rfl tb_ag34 rfl hm0_0) ?_
    refine WL_call (dd := some 15) rfl rfl rfl (r_call1 tb_c86 (v0 := .agg #[_, _]) rfl) (C_drawkniferef02_Literals _ _ _ (by first | assumption | omega) (by first | assumption | omega)) (fun v3_1 W20 hE21 hP3_1 => ?_)
    have hsz22 := (Below.size hB)
    replace hB := below_ext hB hE21 (Nat.le_refl _)
    replace hm0_0 := hE21.at hm0_0
    replace hm0_1 := hE21.at hm0_1
    clear hE21
    replace hP3_1 := OwT.mono hP3_1 hsz22
    clear hsz22
    refine WL_val (dd := some 7) rfl rfl rfl (r_assign (v := v3_1) rfl) ?_
    refine WL_nil ?_
    refine hK19 _ _ ?_
    clear hK19 K18
    refine WC_seq (fun K23 hK24 => ?_)
    refine WC_seq (fun K25 hK26 => ?_)
    refine WC_region ?_
    refine WL_val (dd := some 8) rfl rfl rfl (r_assign (v := .int .i64 0) rfl) ?_
    refine WL_nil ?_
    refine hK26 _ _ ?_
    clear hK26 K25
    refine WC_block ?_
    refine WC_loop (σ := (Nat)) [6, 8, 16, 17, 18, 19, 20, 21, 22, 23, 24, 25, 26, 27, 28, 29, 30, 31, 32, 33] (fun i => [(8, .int .i64 (i : Int))]) (fun i W => (Below w.heap.size w W) ∧ (At W b0_0 _ 34) ∧ (At W b0_1 _ 24) ∧ (OwT encI 1 3 W w.heap.size v3_1 _) ∧ ((i : Int) ≤ n) ∧ (∀ q, q < i → shrinks m u s n q = false) ∧ (True)) (fun i => n.toNat - i) (0) ⟨rfl, trivial⟩ ⟨hB, hm0_0, hm0_1, hP3_1, (by omega), upTo_zero, trivial⟩ ?_
    clear hB hm0_0 hm0_1 hP3_1
    rintro i g28 W27 ⟨hB, hm0_0, hm0_1, hP3_1, hi, hq, _⟩ J29 hJ30
    refine WC_seq (fun K31 hK32 => ?_)
    refine WC_seq (fun K33 hK34 => ?_)
    refine WC_region ?_
    refine WL_val (dd := some 16) rfl rfl rfl (r_move (v := .int .i64 _) rfl) ?_
    refine WL_val (dd := some 17) rfl rfl rfl (r_move (v := .int .i64 _) rfl) ?_
    refine WL_val (dd := some 18) rfl rfl rfl (r_lss rfl rfl) ?_
    refine WL_nil ?_
    refine hK34 _ _ ?_
    clear hK34 K33
    refine WC_cond (b := _) rfl (fun hc1 => ?_) (fun hc1 => ?_)
    ·
      try with_reducible replace hc1 := of_decide_eq_true hc1
      refine WC_skip ?_
      refine hK32 _ _ ?_
      clear hK32 K31
      refine WC_seq (fun K35 hK36 => ?_)
      refine WC_block ?_
      refine WC_seq (fun K37 hK38 => ?_)
      have hle := woM_le m (i : Int)
      have hle2 : u &&& woM m (i : Int) ≤ u := Nat.and_le_left
      refine WC_draw Ext tb_mix (fun W39 hE40 => ?_)
      replace hB := below_ext hB hE40 (Nat.le_refl _)
      replace hm0_0 := hE40.at hm0_0
      replace hm0_1 := hE40.at hm0_1
      replace hP3_1 := hE40.ow hP3_1
      have hS := Ext.refl W39
      refine WT_take (dd := some 21) 0 rfl (by kernel_rfl) (by kernel_rfl) (by kernel_rfl) rfl rfl rfl (fun _wq _hq => r_move (v := v3_1) rfl) hS ?_
      refine WT_take (dd := some 22) 1 rfl (by kernel_rfl) (by kernel_rfl) (by kernel_rfl) rfl rfl rfl (fun _wq _hq => r_move (v := .int .i64 _) rfl) hS ?_
      refine WT_take (dd := some 23) 2 rfl (by kernel_rfl) (by kernel_rfl) (by kernel_rfl) rfl rfl rfl (fun _wq hq => r_idxS (v := v3_1) rfl ((hq.ow hP3_1)).sl rfl tb_el57 (by omega) (by first | omega | (simp only [flagsTo_len, litsTo_len, firstF_len, ptF_len]; omega))) hS ?_
      refine WT_take (dd := some 24) 3 rfl (by kernel_rfl) (by kernel_rfl) (by kernel_rfl) rfl rfl rfl (fun _wq hq => r_load1 (v := .int .i64 _) rfl tb_sc3 (SlT.cell ((hq.ow hP3_1)).sl encI_len 0 (by omega) (by first | omega | (simp only [flagsTo_len, litsTo_len, firstF_len, ptF_len]; omega)) 0 rfl)) hS ?_
      refine WT_take (dd := some 25) 4 rfl (by kernel_rfl) (by kernel_rfl) (by kernel_rfl) rfl rfl rfl (fun _wq _hq => r_neq rfl rfl) hS ?_
      refine WT_split (dd := some 26) 5 rfl (by kernel_rfl) (by kernel_rfl) (by kernel_rfl) rfl rfl rfl (fun wq hq => r_move (v := .bool _) rfl) hS (fun hs7_5 => ?_) (fun hs7_5 => ?_)
      ·
        try with_reducible replace hs7_5 := of_decide_eq_true hs7_5
        refine WT_take (dd := some 27) 6 rfl (by kernel_rfl) (by kernel_rfl) (by kernel_rfl) rfl rfl rfl (fun _wq hq => r_loadW rfl tb_ag34 rfl (hq.at hm0_0)) hS ?_
        refine WT_take (dd := some 28) 7 rfl (by kernel_rfl) (by kernel_rfl) (by kernel_rfl) rfl rfl rfl (fun _wq _hq => r_move (v := .int .i64 _) rfl) hS ?_
        refine WT_take (dd := some 30) 9 rfl (by kernel_rfl) (by kernel_rfl) (by kernel_rfl) rfl rfl rfl (fun _wq hq => r_loadW rfl tb_ag24 rfl (hq.at hm0_1)) hS ?_
        refine WT_take (dd := some 31) 10 rfl (by kernel_rfl) (by kernel_rfl) (by kernel_rfl) rfl rfl rfl (fun _wq _hq => r_move (v := .int .i64 _) rfl) hS ?_
        refine WT_one (dd := some 29) 8 (by kernel_rfl) rfl rfl rfl rfl (Yd.call (r_call2 tb_c87 (v0 := .agg #[_, _]) rfl (v1 := .int .i64 _) rfl) (C_drawkniferef09_without _ _ _ _ (by first | assumption | omega) (by first | assumption | omega) (by first | assumption | omega)) (fun v7_8 W41 hE42 hP7_8 => ⟨.inl (hS.trans hE42), ?_⟩))
        have hsz43 := (Below.size hB)
        have sv44_hB := hB
        have sv44_hm0_0 := hm0_0
        have sv44_hm0_1 := hm0_1
        have sv44_hP3_1 := hP3_1
        replace hB := below_ext hB hE42 (Nat.le_refl _)
        replace hm0_0 := hE42.at hm0_0
        replace hm0_1 := hE42.at hm0_1
        replace hP3_1 := hE42.ow hP3_1
        replace hS := hS.trans hE42
        clear hE42
        clear hsz43
        obtain rfl := hP7_8
        refine WT_one (dd := some 32) 11 (by kernel_rfl) rfl rfl rfl rfl (Yd.call (r_call3 tb_c32 (v0 := .agg #[_, _]) rfl (v1 := .agg #[_, _, _, _]) rfl (v2 := .int .i64 _) rfl) (C_drawkniferef09_Within _ _ _ _ _ (by first | assumption | omega) (by first | assumption | omega)) (fun v7_11 W45 hE46 hP7_11 => ⟨.inl (hS.trans hE46), ?_⟩))
        have hsz47 := (Below.size hB)
        replace hB := below_ext hB hE46 (Nat.le_refl _)
        replace hm0_0 := hE46.at hm0_0
        replace hm0_1 := hE46.at hm0_1
        replace hP3_1 := hE46.ow hP3_1
        replace hS := hS.trans hE46
        clear hE46
        clear hsz47
        obtain rfl := hP7_11
        refine WT_take (dd := some 33) 12 rfl (by kernel_rfl) (by kernel_rfl) (by kernel_rfl) rfl rfl rfl (fun _wq _hq => r_pick_t rfl (v := .bool _) rfl) hS ?_
        refine WT_done (by kernel_rfl) ?_
        try clear sv44_hB sv44_hm0_0 sv44_hm0_1 sv44_hP3_1
        refine hK38 _ _ ?_
        clear hK38 K37
        refine WC_cond (b := _) rfl (fun hc2 => ?_) (fun hc2 => ?_)
        ·
          try with_reducible replace hc2 := of_decide_eq_true hc2
          refine WC_seq (fun K48 hK49 => ?_)
          refine WC_region ?_
          refine WL_val (dd := some 6) rfl rfl rfl (r_assign (v := .bool false) rfl) ?_
          refine WL_nil ?_
          refine hK49 _ _ ?_
          clear hK49 K48
          refine WC_ret ?_
          repeat (first | refine thenQ_ret ?_ | refine blockQ_ret ?_)
          try clear hK36 K35
          try clear hJ30 J29
          try clear hK24 K23
          refine ret_t (v := .bool false) rfl ?_
          refine ⟨hB, ?_⟩
          exact congrArg Value.bool (primeB_n (i := i) (by omega) (shrinks_lit (by omega) hs7_5 hc2))
        ·
          try with_reducible replace hc2 := of_decide_eq_false hc2
          refine WC_skip ?_
          refine hK36 _ _ ?_
          clear hK36 K35
          refine WC_region ?_
          refine WL_val (dd := some 19) rfl rfl rfl (r_move (v := .int .i64 _) rfl) ?_
          refine WL_val (dd := some 20) rfl rfl rfl (r_addI rfl rfl (by omega) (by omega)) ?_
          refine WL_val (dd := some 8) rfl rfl rfl (r_assign (v := .int .i64 _) rfl) ?_
          refine WL_nil ?_
          refine hJ30 _ _ (i + 1) ?_ ?_ ?_ ?_
          · repeat (first | exact agree.mask _ _ _ | refine agree.updo ?_ rfl _ | refine agree.updL ?_ _ rfl | refine agree.maskS rfl ?_)
          · exact ⟨rfl, trivial⟩
          · exact ⟨hB, hm0_0, hm0_1, hP3_1, (by omega), (upTo_succ hq (shrinks_not (by omega) (by first | exact .inl hs7_5 | exact .inr hc2))), trivial⟩
          · first | omega | (dsimp only; omega)
      ·
        try with_reducible replace hs7_5 := of_decide_eq_false hs7_5
        refine WT_pass (dd := some 27) 6 rfl (by kernel_rfl) (by kernel_rfl) (by kernel_rfl) rfl rfl rfl hS ?_
        refine WT_pass (dd := some 28) 7 rfl (by kernel_rfl) (by kernel_rfl) (by kernel_rfl) rfl rfl rfl hS ?_
        refine WT_pass (dd := some 29) 8 rfl (by kernel_rfl) (by kernel_rfl) (by kernel_rfl) rfl rfl rfl hS ?_
        refine WT_pass (dd := some 30) 9 rfl (by kernel_rfl) (by kernel_rfl) (by kernel_rfl) rfl rfl rfl hS ?_
        refine WT_pass (dd := some 31) 10 rfl (by kernel_rfl) (by kernel_rfl) (by kernel_rfl) rfl rfl rfl hS ?_
        refine WT_pass (dd := some 32) 11 rfl (by kernel_rfl) (by kernel_rfl) (by kernel_rfl) rfl rfl rfl hS ?_
        refine WT_take (dd := some 33) 12 rfl (by kernel_rfl) (by kernel_rfl) (by kernel_rfl) rfl rfl rfl (fun _wq _hq => r_pick_f rfl (v := .bool false) rfl) hS ?_
        refine WT_done (by kernel_rfl) ?_
        refine hK38 _ _ ?_
        clear hK38 K37
        refine WC_cond_false rfl ?_
        refine WC_skip ?_
        refine hK36 _ _ ?_
        clear hK36 K35
        refine WC_region ?_
        refine WL_val (dd := some 19) rfl rfl rfl (r_move (v := .int .i64 _) rfl) ?_
        refine WL_val (dd := some 20) rfl rfl rfl (r_addI rfl rfl (by omega) (by omega)) ?_
        refine WL_val (dd := some 8) rfl rfl rfl (r_assign (v := .int .i64 _) rfl) ?_
        refine WL_nil ?_
        refine hJ30 _ _ (i + 1) ?_ ?_ ?_ ?_
        · repeat (first | exact agree.mask _ _ _ | refine agree.updo ?_ rfl _ | refine agree.updL ?_ _ rfl | refine agree.maskS rfl ?_)
        · exact ⟨rfl, trivial⟩
        · exact ⟨hB, hm0_0, hm0_1, hP3_1, (by omega), (upTo_succ hq (shrinks_not (by omega) (by first | exact .inl hs7_5 | exact .inr hc2))), trivial⟩
        · first | omega | (dsimp only; omega)
    ·
      try with_reducible replace hc1 := of_decide_eq_false hc1
      refine WC_exit ?_
      refine hK24 _ _ ?_
      clear hK32 K31
      clear hJ30 J29
      clear hK24 K23
      refine WC_seq (fun K50 hK51 => ?_)
      refine WC_region ?_
      refine WL_val (dd := some 6) rfl rfl rfl (r_assign (v := .bool true) rfl) ?_
      refine WL_nil ?_
      refine hK51 _ _ ?_
      clear hK51 K50
      refine WC_ret ?_
      repeat (first | refine thenQ_ret ?_ | refine blockQ_ret ?_)
      refine ret_t (v := .bool true) rfl ?_
      refine ⟨hB, ?_⟩
      have hin : i = n.toNat := by omega
      subst hin
      exact congrArg Value.bool (primeB_t hw hq)

theorem C_drawkniferef09_Grow (c : Cb) (s : Nat) (n : Int) (w : World) (hm : c.m < 256 ∧ c.v < 256) (hn : n ≤ 8) :
    Fn Try.prog 44 #[.agg #[.int .u8 (c.m : Int), .int .u8 (c.v : Int)], setV s, .int .i64 n] w fun v w' => v = .agg #[.int .u8 ((growS s n c).m : Int), .int .u8 ((growS s n c).v : Int)] := by
  refine Fn_intro (n := 23) Try.func44 rfl rfl (Nat.le_of_ble_eq_true rfl) ?_
  have hB : Below w.heap.size w w := Below.refl _ _
  refine WC_seq (fun K1 hK2 => ?_)
  refine WC_region ?_
  refine WL_step (dd := some 3) rfl rfl rfl (Y_box (c := #[_, _]) rfl rfl (fun b0_0 W3 hb4 hE5 hm0_0 => ?_))
  have lo_b0_0 : w.heap.size ≤ b0_0 := hb4 ▸ (Below.size hB)
  clear hb4
  replace hB := below_ext hB hE5 (Nat.le_refl _)
  clear hE5
  refine WL_step (dd := some 4) rfl rfl rfl (Y_box (c := #[_, _, _, _]) rfl rfl (fun b0_1 W6 hb7 hE8 hm0_1 => ?_))
  have lo_b0_1 : w.heap.size ≤ b0_1 := hb7 ▸ (Below.size hB)
  clear hb7
  replace hB := below_ext hB hE8 (Nat.le_refl _)
  replace hm0_0 := hE8.at hm0_0
  clear hE8
  refine WL_step (dd := some 6) rfl rfl rfl (Y_alloc tb_z34 rfl (fun b0_2 W9 hb10 hE11 hm0_2 => ?_))
  have lo_b0_2 : w.heap.size ≤ b0_2 := hb10 ▸ (Below.size hB)
  have ne_b0_0_b0_2 : b0_0 ≠ b0_2 := Nat.ne_of_lt (hb10 ▸ hm0_0.lt)
  clear hb10
  replace hB := below_ext hB hE11 (Nat.le_refl _)
  replace hm0_0 := hE11.at hm0_0
  replace hm0_1 := hE11.at hm0_1
  clear hE11
  refine WL_nil ?_
  refine hK2 _ _ ?_
  clear hK2 K1
  refine WC_seq (fun K12 hK13 => ?_)
  refine WC_seq (fun K14 hK15 => ?_)
  refine WC_region ?_
  refine WL_val (dd := some 7) rfl rfl rfl (r_assign (v := .int .i64 0) rfl) ?_
  refine WL_nil ?_
  refine hK15 _ _ ?_
  clear hK15 K14
  refine WC_block ?_
  refine WC_loop (σ := (Nat)) [7, 8, 9, 10, 11, 12, 13, 14, 15, 16, 17, 18, 19, 20, 21] (fun i => [(7, .int .i64 (i : Int))]) (fun i W => (Below w.heap.size w W) ∧ (At W b0_1 _ 24) ∧ (At W b0_2 _ 34) ∧ (At W b0_0 #[.int .u8 ((growTo s n c i).m : Int), .int .u8 ((growTo s n c i).v : Int)] 34) ∧ (i ≤ n.toNat) ∧ (True)) (fun i => n.toNat - i) (0) ⟨rfl, trivial⟩ ⟨hB, hm0_1, hm0_2, hm0_0, (Nat.zero_le _), trivial⟩ ?_
  clear hB hm0_0 hm0_1 hm0_2
  rintro i g17 W16 ⟨hB, hm0_1, hm0_2, hm0_0, hi, _⟩ J18 hJ19
  refine WC_seq (fun K20 hK21 => ?_)
  refine WC_seq (fun K22 hK23 => ?_)
  refine WC_region ?_
  refine WL_val (dd := some 8) rfl rfl rfl (r_move (v := .int .i64 _) rfl) ?_
  refine WL_val (dd := some 9) rfl rfl rfl (r_move (v := .int .i64 _) rfl) ?_
  refine WL_val (dd := some 10) rfl rfl rfl (r_lss rfl rfl) ?_
  refine WL_nil ?_
  refine hK23 _ _ ?_
  clear hK23 K22
  refine WC_cond (b := _) rfl (fun hc0 => ?_) (fun hc0 => ?_)
  ·
    try with_reducible replace hc0 := of_decide_eq_true hc0
    refine WC_skip ?_
    refine hK21 _ _ ?_
    clear hK21 K20
    refine WC_seq (fun K24 hK25 => ?_)
    refine WC_block ?_
    refine WC_seq (fun K26 hK27 => ?_)
    have hg := growTo_lt (s := s) (n := n) hm i
    have hle := woM_le (growTo s n c i).m (i : Int)
    have hle2 : (growTo s n c i).v &&& woM (growTo s n c i).m (i : Int) ≤ (growTo s n c i).v := Nat.and_le_left
    refine WC_draw Ext tb_mix (fun W28 hE29 => ?_)
    replace hB := below_ext hB hE29 (Nat.le_refl _)
    replace hm0_1 := hE29.at hm0_1
    replace hm0_2 := hE29.at hm0_2
    replace hm0_0 := hE29.at hm0_0
    have hS := Ext.refl W28
    refine WT_take (dd := some 13) 0 rfl (by kernel_rfl) (by kernel_rfl) (by kernel_rfl) rfl rfl rfl (fun _wq hq => r_loadW rfl tb_ag34 rfl (hq.at hm0_0)) hS ?_
    refine WT_take (dd := some 14) 1 rfl (by kernel_rfl) (by kernel_rfl) (by kernel_rfl) rfl rfl rfl (fun _wq _hq => r_move (v := .int .i64 _) rfl) hS ?_
    refine WT_take (dd := some 16) 3 rfl (by kernel_rfl) (by kernel_rfl) (by kernel_rfl) rfl rfl rfl (fun _wq hq => r_loadW rfl tb_ag24 rfl (hq.at hm0_1)) hS ?_
    refine WT_take (dd := some 17) 4 rfl (by kernel_rfl) (by kernel_rfl) (by kernel_rfl) rfl rfl rfl (fun _wq _hq => r_move (v := .int .i64 _) rfl) hS ?_
    refine WT_one (dd := some 15) 2 (by kernel_rfl) rfl rfl rfl rfl (Yd.call (r_call2 tb_c87 (v0 := .agg #[_, _]) rfl (v1 := .int .i64 _) rfl) (C_drawkniferef09_without _ _ _ _ (by first | assumption | omega) (by first | assumption | omega) (by first | assumption | omega)) (fun v4_2 W30 hE31 hP4_2 => ⟨.inl (hS.trans hE31), ?_⟩))
    have hsz32 := (Below.size hB)
    have sv33_hB := hB
    have sv33_hm0_1 := hm0_1
    have sv33_hm0_2 := hm0_2
    have sv33_hm0_0 := hm0_0
    replace hB := below_ext hB hE31 (Nat.le_refl _)
    replace hm0_1 := hE31.at hm0_1
    replace hm0_2 := hE31.at hm0_2
    replace hm0_0 := hE31.at hm0_0
    replace hS := hS.trans hE31
    clear hE31
    clear hsz32
    obtain rfl := hP4_2
    refine WT_one (dd := some 18) 5 (by kernel_rfl) rfl rfl rfl rfl (Yd.call (r_call3 tb_c32 (v0 := .agg #[_, _]) rfl (v1 := .agg #[_, _, _, _]) rfl (v2 := .int .i64 _) rfl) (C_drawkniferef09_Within _ _ _ _ _ (by first | assumption | omega) (by first | assumption | omega)) (fun v4_5 W34 hE35 hP4_5 => ⟨.inl (hS.trans hE35), ?_⟩))
    have hsz36 := (Below.size hB)
    replace hB := below_ext hB hE35 (Nat.le_refl _)
    replace hm0_1 := hE35.at hm0_1
    replace hm0_2 := hE35.at hm0_2
    replace hm0_0 := hE35.at hm0_0
    replace hS := hS.trans hE35
    clear hE35
    clear hsz36
    obtain rfl := hP4_5
    refine WT_done (by kernel_rfl) ?_
    try clear sv33_hB sv33_hm0_1 sv33_hm0_2 sv33_hm0_0
    refine hK27 _ _ ?_
    clear hK27 K26
    refine WC_cond (b := _) rfl (fun hc1 => ?_) (fun hc1 => ?_)
    ·
      try with_reducible replace hc1 := of_decide_eq_true hc1
      refine WC_region ?_
      refine WL_val (dd := some 19) rfl rfl rfl (r_loadW rfl tb_ag34 rfl hm0_0) ?_
      refine WL_val (dd := some 20) rfl rfl rfl (r_move (v := .int .i64 _) rfl) ?_
      refine WL_call (dd := some 21) rfl rfl rfl (r_call2 tb_c87 (v0 := .agg #[_, _]) rfl (v1 := .int .i64 _) rfl) (C_drawkniferef09_without _ _ _ _ (by first | assumption | omega) (by first | assumption | omega) (by first | assumption | omega)) (fun v5_2 W37 hE38 hP5_2 => ?_)
      have hsz39 := (Below.size hB)
      replace hB := below_ext hB hE38 (Nat.le_refl _)
      replace hm0_1 := hE38.at hm0_1
      replace hm0_2 := hE38.at hm0_2
      replace hm0_0 := hE38.at hm0_0
      clear hE38
      clear hsz39
      obtain rfl := hP5_2
      refine WL_step (dd := none) rfl rfl rfl (Y_storeW rfl rfl tb_ag34 rfl hm0_0 rfl (by rfl) (fun W40 hG41 hm42 => ?_))
      replace hB := below_grown hB hG41 (Nat.le_refl _) (fun j hj => by cases hj; exact lo_b0_0)
      replace hm0_1 := At.grownAt hm0_1 hm0_0 hG41 (by decide)
      replace hm0_2 := At.grownNe hm0_2 (Ne.symm ne_b0_0_b0_2) hG41
      clear hG41 hm0_0
      have hm0_0 := hm42
      clear hm42
      refine WL_nil ?_
      refine hK25 _ _ ?_
      clear hK25 K24
      refine WC_region ?_
      refine WL_val (dd := some 11) rfl rfl rfl (r_move (v := .int .i64 _) rfl) ?_
      refine WL_val (dd := some 12) rfl rfl rfl (r_addI rfl rfl (by omega) (by omega)) ?_
      refine WL_val (dd := some 7) rfl rfl rfl (r_assign (v := .int .i64 _) rfl) ?_
      refine WL_nil ?_
      refine hJ19 _ _ (i + 1) ?_ ?_ ?_ ?_
      · repeat (first | exact agree.mask _ _ _ | refine agree.updo ?_ rfl _ | refine agree.updL ?_ _ rfl | refine agree.maskS rfl ?_)
      · exact ⟨rfl, trivial⟩
      · exact ⟨hB, hm0_1, hm0_2, (by first | (rw [growTo_t hc1]; exact hm0_0) | (rw [growTo_f hc1]; exact hm0_0)), (by omega), trivial⟩
      · first | omega | (dsimp only; omega)
    ·
      try with_reducible replace hc1 := of_decide_eq_false hc1
      refine WC_skip ?_
      refine hK25 _ _ ?_
      clear hK25 K24
      refine WC_region ?_
      refine WL_val (dd := some 11) rfl rfl rfl (r_move (v := .int .i64 _) rfl) ?_
      refine WL_val (dd := some 12) rfl rfl rfl (r_addI rfl rfl (by omega) (by omega)) ?_
      refine WL_val (dd := some 7) rfl rfl rfl (r_assign (v := .int .i64 _) rfl) ?_
      refine WL_nil ?_
      refine hJ19 _ _ (i + 1) ?_ ?_ ?_ ?_
      · repeat (first | exact agree.mask _ _ _ | refine agree.updo ?_ rfl _ | refine agree.updL ?_ _ rfl | refine agree.maskS rfl ?_)
      · exact ⟨rfl, trivial⟩
      · exact ⟨hB, hm0_1, hm0_2, (by first | (rw [growTo_t hc1]; exact hm0_0) | (rw [growTo_f hc1]; exact hm0_0)), (by omega), trivial⟩
      · first | omega | (dsimp only; omega)
  ·
    try with_reducible replace hc0 := of_decide_eq_false hc0
    refine WC_exit ?_
    refine hK13 _ _ ?_
    clear hK21 K20
    clear hJ19 J18
    clear hK13 K12
    refine WC_seq (fun K43 hK44 => ?_)
    refine WC_region ?_
    refine WL_val (dd := some 22) rfl rfl rfl (r_loadW rfl tb_ag34 rfl hm0_0) ?_
    refine WL_step (dd := none) rfl rfl rfl (Y_storeW rfl rfl tb_ag34 rfl hm0_2 rfl (by rfl) (fun W45 hG46 hm47 => ?_))
    replace hB := below_grown hB hG46 (Nat.le_refl _) (fun j hj => by cases hj; exact lo_b0_2)
    replace hm0_1 := At.grownAt hm0_1 hm0_2 hG46 (by decide)
    replace hm0_0 := At.grownNe hm0_0 ne_b0_0_b0_2 hG46
    clear hG46 hm0_2
    have hm0_2 := hm47
    clear hm47
    refine WL_nil ?_
    refine hK44 _ _ ?_
    clear hK44 K43
    refine WC_ret ?_
    repeat (first | refine thenQ_ret ?_ | refine blockQ_ret ?_)
    refine ret_c rfl tb_ag34 hm0_2 rfl ?_
    refine ⟨hB, ?_⟩
    have hin : i = n.toNat := by omega
    subst hin
    rfl

theorem C_drawkniferef09_Same (a b : Value) (l l2 : List Cb) (w : World) (hl : SlT encC 2 w a l) (hl2 : SlT encC 2 w b l2) (hb : l.length ≤ 100000) :
    Fn Try.prog 26 #[a, b] w fun v w' => v = .bool (decide (l = l2)) := by
  refine Fn_intro (n := 26) Try.func26 rfl rfl (Nat.le_of_ble_eq_true rfl) ?_
  have hB : Below w.heap.size w w := Below.refl _ _
  refine WC_seq (fun K1 hK2 => ?_)
  refine WC_region ?_
  refine WL_val (dd := some 4) rfl rfl rfl (r_assign (v := .bool false) rfl) ?_
  refine WL_nil ?_
  refine hK2 _ _ ?_
  clear hK2 K1
  refine WC_seq (fun K3 hK4 => ?_)
  refine WC_seq (fun K5 hK6 => ?_)
  refine WC_region ?_
  refine WL_val (dd := some 6) rfl rfl rfl (r_move (v := a) rfl) ?_
  refine WL_val (dd := some 7) rfl rfl rfl (r_lenS (v := a) rfl (Below.slT hB hl) tb_el27) ?_
  refine WL_val (dd := some 8) rfl rfl rfl (r_move (v := b) rfl) ?_
  refine WL_val (dd := some 9) rfl rfl rfl (r_lenS (v := b) rfl (Below.slT hB hl2) tb_el27) ?_
  refine WL_val (dd := some 10) rfl rfl rfl (r_neq rfl rfl) ?_
  refine WL_nil ?_
  refine hK6 _ _ ?_
  clear hK6 K5
  refine WC_cond (b := _) rfl (fun hc0 => ?_) (fun hc0 => ?_)
  ·
    try with_reducible replace hc0 := of_decide_eq_true hc0
    refine WC_seq (fun K7 hK8 => ?_)
    refine WC_region ?_
    refine WL_val (dd := some 4) rfl rfl rfl (r_assign (v := .bool false) rfl) ?_
    refine WL_nil ?_
    refine hK8 _ _ ?_
    clear hK8 K7
    refine WC_ret ?_
    repeat (first | refine thenQ_ret ?_ | refine blockQ_ret ?_)
    try clear hK4 K3
    refine ret_t (v := .bool false) rfl ?_
    refine ⟨hB, ?_⟩
    exact congrArg Value.bool (decide_eq_false (fun e => hc0 (by rw [e]))).symm
  ·
    try with_reducible replace hc0 := of_decide_eq_false hc0
    refine WC_skip ?_
    refine hK4 _ _ ?_
    clear hK4 K3
    refine WC_seq (fun K9 hK10 => ?_)
    refine WC_seq (fun K11 hK12 => ?_)
    have hlen : l.length = l2.length := by omega
    refine WC_region ?_
    refine WL_val (dd := some 5) rfl rfl rfl (r_assign (v := .int .i64 0) rfl) ?_
    refine WL_nil ?_
    refine hK12 _ _ ?_
    clear hK12 K11
    refine WC_block ?_
    refine WC_loop (σ := (Nat)) [4, 5, 11, 12, 13, 14, 15, 16, 17, 18, 19, 20, 21, 22, 23, 24, 25] (fun i => [(5, .int .i64 (i : Int))]) (fun i W => (Below w.heap.size w W) ∧ (i ≤ l.length) ∧ (∀ q, q < i → l.getD q ⟨0, 0⟩ = l2.getD q ⟨0, 0⟩) ∧ (True)) (fun i => l.length - i) (0) ⟨rfl, trivial⟩ ⟨hB, (Nat.zero_le _), upTo_zero, trivial⟩ ?_
    clear hB
    rintro i g14 W13 ⟨hB, hi, hq, _⟩ J15 hJ16
    refine WC_seq (fun K17 hK18 => ?_)
    refine WC_seq (fun K19 hK20 => ?_)
    refine WC_region ?_
    refine WL_val (dd := some 11) rfl rfl rfl (r_move (v := .int .i64 _) rfl) ?_
    refine WL_val (dd := some 12) rfl rfl rfl (r_move (v := a) rfl) ?_
    refine WL_val (dd := some 13) rfl rfl rfl (r_lenS (v := a) rfl (Below.slT hB hl) tb_el27) ?_
    refine WL_val (dd := some 14) rfl rfl rfl (r_lss rfl rfl) ?_
    refine WL_nil ?_
    refine hK20 _ _ ?_
    clear hK20 K19
    refine WC_cond (b := _) rfl (fun hc1 => ?_) (fun hc1 => ?_)
    ·
      try with_reducible replace hc1 := of_decide_eq_true hc1
      refine WC_skip ?_
      refine hK18 _ _ ?_
      clear hK18 K17
      refine WC_seq (fun K21 hK22 => ?_)
      refine WC_block ?_
      refine WC_seq (fun K23 hK24 => ?_)
      refine WC_draw Ext tb_mix (fun W25 hE26 => ?_)
      replace hB := below_ext hB hE26 (Nat.le_refl _)
      have hS := Ext.refl W25
      refine WT_take (dd := some 17) 0 rfl (by kernel_rfl) (by kernel_rfl) (by kernel_rfl) rfl rfl rfl (fun _wq _hq => r_move (v := a) rfl) hS ?_
      refine WT_take (dd := some 18) 1 rfl (by kernel_rfl) (by kernel_rfl) (by kernel_rfl) rfl rfl rfl (fun _wq _hq => r_move (v := .int .i64 _) rfl) hS ?_
      refine WT_take (dd := some 19) 2 rfl (by kernel_rfl) (by kernel_rfl) (by kernel_rfl) rfl rfl rfl (fun _wq hq => r_idxS (v := a) rfl (hq.slT (Below.slT hB hl)) rfl tb_el27 (by omega) (by first | omega | (simp only [flagsTo_len, litsTo_len, firstF_len, ptF_len]; omega))) hS ?_
      refine WT_take (dd := some 20) 3 rfl (by kernel_rfl) (by kernel_rfl) (by kernel_rfl) rfl rfl rfl (fun _wq hq => r_load2 rfl tb_ag34 (SlT.cell (hq.slT (Below.slT hB hl)) encC_len ⟨0, 0⟩ (by omega) (by first | omega | (simp only [flagsTo_len, litsTo_len, firstF_len, ptF_len]; omega)) 0 rfl) (SlT.cell (hq.slT (Below.slT hB hl)) encC_len ⟨0, 0⟩ (by omega) (by first | omega | (simp only [flagsTo_len, litsTo_len, firstF_len, ptF_len]; omega)) 1 rfl)) hS ?_
      refine WT_take (dd := some 21) 4 rfl (by kernel_rfl) (by kernel_rfl) (by kernel_rfl) rfl rfl rfl (fun _wq _hq => r_move (v := b) rfl) hS ?_
      refine WT_take (dd := some 22) 5 rfl (by kernel_rfl) (by kernel_rfl) (by kernel_rfl) rfl rfl rfl (fun _wq _hq => r_move (v := .int .i64 _) rfl) hS ?_
      refine WT_take (dd := some 23) 6 rfl (by kernel_rfl) (by kernel_rfl) (by kernel_rfl) rfl rfl rfl (fun _wq hq => r_idxS (v := b) rfl (hq.slT (Below.slT hB hl2)) rfl tb_el27 (by omega) (by first | omega | (simp only [flagsTo_len, litsTo_len, firstF_len, ptF_len]; omega))) hS ?_
      refine WT_take (dd := some 24) 7 rfl (by kernel_rfl) (by kernel_rfl) (by kernel_rfl) rfl rfl rfl (fun _wq hq => r_load2 rfl tb_ag34 (SlT.cell (hq.slT (Below.slT hB hl2)) encC_len ⟨0, 0⟩ (by omega) (by first | omega | (simp only [flagsTo_len, litsTo_len, firstF_len, ptF_len]; omega)) 0 rfl) (SlT.cell (hq.slT (Below.slT hB hl2)) encC_len ⟨0, 0⟩ (by omega) (by first | omega | (simp only [flagsTo_len, litsTo_len, firstF_len, ptF_len]; omega)) 1 rfl)) hS ?_
      refine WT_take (dd := some 25) 8 rfl (by kernel_rfl) (by kernel_rfl) (by kernel_rfl) rfl rfl rfl (fun _wq _hq => tb_neq34 rfl rfl) hS ?_
      refine WT_done (by kernel_rfl) ?_
      refine hK24 _ _ ?_
      clear hK24 K23
      refine WC_cond (b := _) rfl (fun hc2 => ?_) (fun hc2 => ?_)
      ·
        try with_reducible replace hc2 := of_decide_eq_true hc2
        refine WC_seq (fun K27 hK28 => ?_)
        refine WC_region ?_
        refine WL_val (dd := some 4) rfl rfl rfl (r_assign (v := .bool false) rfl) ?_
        refine WL_nil ?_
        refine hK28 _ _ ?_
        clear hK28 K27
        refine WC_ret ?_
        repeat (first | refine thenQ_ret ?_ | refine blockQ_ret ?_)
        try clear hK22 K21
        try clear hJ16 J15
        try clear hK10 K9
        refine ret_t (v := .bool false) rfl ?_
        refine ⟨hB, ?_⟩
        exact congrArg Value.bool (decide_eq_false (fun e => hc2 (by rw [e]; exact ⟨rfl, rfl⟩))).symm
      ·
        try with_reducible replace hc2 := of_decide_eq_false hc2
        refine WC_skip ?_
        refine hK22 _ _ ?_
        clear hK22 K21
        refine WC_region ?_
        refine WL_val (dd := some 15) rfl rfl rfl (r_move (v := .int .i64 _) rfl) ?_
        refine WL_val (dd := some 16) rfl rfl rfl (r_addI rfl rfl (by omega) (by omega)) ?_
        refine WL_val (dd := some 5) rfl rfl rfl (r_assign (v := .int .i64 _) rfl) ?_
        refine WL_nil ?_
        refine hJ16 _ _ (i + 1) ?_ ?_ ?_ ?_
        · repeat (first | exact agree.mask _ _ _ | refine agree.updo ?_ rfl _ | refine agree.updL ?_ _ rfl | refine agree.maskS rfl ?_)
        · exact ⟨rfl, trivial⟩
        · exact ⟨hB, (by omega), (upTo_succ hq (cb_eq hc2)), trivial⟩
        · first | omega | (dsimp only; omega)
    ·
      try with_reducible replace hc1 := of_decide_eq_false hc1
      refine WC_exit ?_
      refine hK10 _ _ ?_
      clear hK18 K17
      clear hJ16 J15
      clear hK10 K9
      refine WC_seq (fun K29 hK30 => ?_)
      refine WC_region ?_
      refine WL_val (dd := some 4) rfl rfl rfl (r_assign (v := .bool true) rfl) ?_
      refine WL_nil ?_
      refine hK30 _ _ ?_
      clear hK30 K29
      refine WC_ret ?_
      repeat (first | refine thenQ_ret ?_ | refine blockQ_ret ?_)
      refine ret_t (v := .bool true) rfl ?_
      refine ⟨hB, ?_⟩
      exact congrArg Value.bool (decide_eq_true (list_ext hlen (fun q h => hq q (by omega)))).symm

theorem C_drawkniferef09_All (s : Nat) (n : Int) (w : World) (h0 : 0 ≤ n) (h1 : n ≤ 8) :
    Fn Try.prog 27 #[setV s, .int .i64 n] w fun v w' => OwT encC 2 34 w' w.heap.size v (primesL s n) := by
  refine Fn_intro (n := 42) Try.func27 rfl rfl (Nat.le_of_ble_eq_true rfl) ?_
  have hB : Below w.heap.size w w := Below.refl _ _
  have h8 := two_pow_le h1
  refine WC_seq (fun K1 hK2 => ?_)
  refine WC_region ?_
  refine WL_step (dd := some 2) rfl rfl rfl (Y_box (c := #[_, _, _, _]) rfl rfl (fun b0_0 W3 hb4 hE5 hm0_0 => ?_))
  have lo_b0_0 : w.heap.size ≤ b0_0 := hb4 ▸ (Below.size hB)
  clear hb4
  replace hB := below_ext hB hE5 (Nat.le_refl _)
  clear hE5
  refine WL_val (dd := some 4) rfl rfl rfl (r_assign (v := .slice none 0 0) rfl) ?_
  refine WL_nil ?_
  refine hK2 _ _ ?_
  clear hK2 K1
  refine WC_seq (fun K6 hK7 => ?_)
  refine WC_region ?_
  refine WL_val (dd := some 5) rfl rfl rfl (r_assign (v := .int .i64 1) rfl) ?_
  refine WL_nil ?_
  refine hK7 _ _ ?_
  clear hK7 K6
  refine WC_seq (fun K8 hK9 => ?_)
  refine WC_seq (fun K10 hK11 => ?_)
  refine WC_region ?_
  refine WL_val (dd := some 6) rfl rfl rfl (r_assign (v := .int .i64 0) rfl) ?_
  refine WL_nil ?_
  refine hK11 _ _ ?_
  clear hK11 K10
  refine WC_block ?_
  refine WC_loop (σ := (Nat)) [5, 6, 11, 12, 13, 14, 15, 16, 17] (fun k => [(6, .int .i64 (k : Int)), (5, .int .i64 ((2 ^ k : Nat) : Int))]) (fun k W => (Below w.heap.size w W) ∧ (At W b0_0 _ 24) ∧ (k ≤ n.toNat) ∧ (True)) (fun k => n.toNat - k) (0) ⟨rfl, rfl, trivial⟩ ⟨hB, hm0_0, (Nat.zero_le _), trivial⟩ ?_
  clear hB hm0_0
  rintro k g13 W12 ⟨hB, hm0_0, hk, _⟩ J14 hJ15
  refine WC_seq (fun K16 hK17 => ?_)
  refine WC_seq (fun K18 hK19 => ?_)
  refine WC_region ?_
  refine WL_val (dd := some 11) rfl rfl rfl (r_move (v := .int .i64 _) rfl) ?_
  refine WL_val (dd := some 12) rfl rfl rfl (r_move (v := .int .i64 _) rfl) ?_
  refine WL_val (dd := some 13) rfl rfl rfl (r_lss rfl rfl) ?_
  refine WL_nil ?_
  refine hK19 _ _ ?_
  clear hK19 K18
  refine WC_cond (b := _) rfl (fun hc0 => ?_) (fun hc0 => ?_)
  ·
    try with_reducible replace hc0 := of_decide_eq_true hc0
    refine WC_skip ?_
    refine hK17 _ _ ?_
    clear hK17 K16
    refine WC_seq (fun K20 hK21 => ?_)
    refine WC_block ?_
    have h7 : 2 ^ k ≤ 128 := pow7 (by omega)
    have h6 := Nat.two_pow_pos k
    refine WC_region ?_
    refine WL_val (dd := some 16) rfl rfl rfl (r_move (v := .int .i64 _) rfl) ?_
    refine WL_val (dd := some 17) rfl rfl rfl (r_mulI rfl rfl (by omega) (by omega)) ?_
    refine WL_val (dd := some 5) rfl rfl rfl (r_assign (v := .int .i64 _) rfl) ?_
    refine WL_nil ?_
    refine hK21 _ _ ?_
    clear hK21 K20
    refine WC_region ?_
    refine WL_val (dd := some 14) rfl rfl rfl (r_move (v := .int .i64 _) rfl) ?_
    refine WL_val (dd := some 15) rfl rfl rfl (r_addI rfl rfl (by omega) (by omega)) ?_
    refine WL_val (dd := some 6) rfl rfl rfl (r_assign (v := .int .i64 _) rfl) ?_
    refine WL_nil ?_
    refine hJ15 _ _ (k + 1) ?_ ?_ ?_ ?_
    · repeat (first | exact agree.mask _ _ _ | refine agree.updo ?_ rfl _ | refine agree.updL ?_ _ rfl | refine agree.maskS rfl ?_)
    · exact ⟨rfl, congrArg (Value.int .i64) (two_step k), trivial⟩
    · exact ⟨hB, hm0_0, (by omega), trivial⟩
    · first | omega | (dsimp only; omega)
  ·
    try with_reducible replace hc0 := of_decide_eq_false hc0
    refine WC_exit ?_
    refine hK9 _ _ ?_
    clear hK17 K16
    clear hJ15 J14
    clear hK9 K8
    refine WC_seq (fun K22 hK23 => ?_)
    refine WC_region ?_
    refine WL_val (dd := some 7) rfl rfl rfl (r_assign (v := .slice none 0 0) rfl) ?_
    refine WL_nil ?_
    refine hK23 _ _ ?_
    clear hK23 K22
    refine WC_seq (fun K24 hK25 => ?_)
    refine WC_seq (fun K26 hK27 => ?_)
    obtain rfl : k = n.toNat := by omega
    refine WC_region ?_
    refine WL_val (dd := some 8) rfl rfl rfl (r_assign (v := .int .i64 0) rfl) ?_
    refine WL_nil ?_
    refine hK27 _ _ ?_
    clear hK27 K26
    refine WC_block ?_
    refine WC_loop (σ := (Nat) × (Value)) [7, 8, 9, 10, 18, 19, 20, 21, 22, 23, 24, 25, 26, 27, 28, 29, 30, 31, 32, 33, 34, 35, 36, 37, 38, 39, 40] (fun (p, v0) => [(8, .int .i64 (p : Int)), (7, v0)]) (fun sg W => match sg with | (p, v0) => (Below w.heap.size w W) ∧ (At W b0_0 _ 24) ∧ (OwT encC 2 34 W w.heap.size v0 (primesM s n p)) ∧ (p ≤ 2 ^ n.toNat) ∧ (True)) (fun (p, v0) => 2 ^ n.toNat - p) ((0, .slice none 0 0)) ⟨rfl, rfl, trivial⟩ ⟨hB, hm0_0, OwT.nil, (Nat.zero_le _), trivial⟩ ?_
    clear hB hm0_0
    rintro ⟨p, v0⟩ g29 W28 ⟨hB, hm0_0, ho, hp, _⟩ J30 hJ31
    refine WC_seq (fun K32 hK33 => ?_)
    refine WC_seq (fun K34 hK35 => ?_)
    refine WC_region ?_
    refine WL_val (dd := some 18) rfl rfl rfl (r_move (v := .int .i64 _) rfl) ?_
    refine WL_val (dd := some 19) rfl rfl rfl (r_move (v := .int .i64 _) rfl) ?_
    refine WL_val (dd := some 20) rfl rfl rfl (r_lss rfl rfl) ?_
    refine WL_nil ?_
    refine hK35 _ _ ?_
    clear hK35 K34
    refine WC_cond (b := _) rfl (fun hc1 => ?_) (fun hc1 => ?_)
    ·
      try with_reducible replace hc1 := of_decide_eq_true hc1
      refine WC_skip ?_
      refine hK33 _ _ ?_
      clear hK33 K32
      refine WC_seq (fun K36 hK37 => ?_)
      refine WC_block ?_
      refine WC_seq (fun K38 hK39 => ?_)
      refine WC_region ?_
      refine WL_val (dd := some 9) rfl rfl rfl (r_assign (v := .int .i64 0) rfl) ?_
      refine WL_nil ?_
      refine hK39 _ _ ?_
      clear hK39 K38
      refine WC_block ?_
      refine WC_loop (σ := (Nat) × (Value)) [7, 9, 10, 23, 24, 25, 26, 27, 28, 29, 30, 31, 32, 33, 34, 35, 36, 37, 38, 39, 40] (fun (q, v1) => [(9, .int .i64 (q : Int)), (7, v1)]) (fun sg W => match sg with | (q, v1) => (Below w.heap.size w W) ∧ (At W b0_0 _ 24) ∧ (OwT encC 2 34 W w.heap.size v1 (primesM s n p ++ primesV s n p q)) ∧ (q ≤ 2 ^ n.toNat) ∧ (True)) (fun (q, v1) => 2 ^ n.toNat - q) ((0, v0)) ⟨rfl, rfl, trivial⟩ ⟨hB, hm0_0, (by rw [primesV, List.append_nil]; exact ho), (Nat.zero_le _), trivial⟩ ?_
      clear hB hm0_0 ho
      rintro ⟨q, v1⟩ g41 W40 ⟨hB, hm0_0, ho2, hq, _⟩ J42 hJ43
      refine WC_seq (fun K44 hK45 => ?_)
      refine WC_seq (fun K46 hK47 => ?_)
      refine WC_region ?_
      refine WL_val (dd := some 23) rfl rfl rfl (r_move (v := .int .i64 _) rfl) ?_
      refine WL_val (dd := some 24) rfl rfl rfl (r_move (v := .int .i64 _) rfl) ?_
      refine WL_val (dd := some 25) rfl rfl rfl (r_lss rfl rfl) ?_
      refine WL_nil ?_
      refine hK47 _ _ ?_
      clear hK47 K46
      refine WC_cond (b := _) rfl (fun hc2 => ?_) (fun hc2 => ?_)
      ·
        try with_reducible replace hc2 := of_decide_eq_true hc2
        refine WC_skip ?_
        refine hK45 _ _ ?_
        clear hK45 K44
        refine WC_seq (fun K48 hK49 => ?_)
        refine WC_block ?_
        refine WC_seq (fun K50 hK51 => ?_)
        have hl1 := primesM_len s n p
        have hl2 := primesV_len s n p q
        have hl3 : p * 2 ^ n.toNat ≤ 256 * 2 ^ n.toNat := Nat.mul_le_mul_right _ (by omega)
        refine WC_region ?_
        refine WL_val (dd := some 28) rfl rfl rfl (r_move (v := .int .i64 _) rfl) ?_
        refine WL_val (dd := some 29) rfl rfl rfl (r_convN rfl Try.underlying3 Try.underlying5 (by simp only [topN]; omega)) ?_
        refine WL_val (dd := some 30) rfl rfl rfl (r_move (v := .int .i64 _) rfl) ?_
        refine WL_val (dd := some 31) rfl rfl rfl (r_convN rfl Try.underlying3 Try.underlying5 (by simp only [topN]; omega)) ?_
        refine WL_val (dd := some 32) rfl rfl rfl (tb_build34_0_1 (h0 := rfl) (k0 := rfl) (h1 := rfl) (k1 := rfl) (c0_0 := .int .u8 _) (c1_0 := .int .u8 _)) ?_
        refine WL_step (dd := some 10) rfl rfl rfl (Y_alloc tb_z34 rfl (fun b13_5 W52 hb53 hE54 hm13_5 => ?_))
        have lo_b13_5 : w.heap.size ≤ b13_5 := hb53 ▸ (Below.size hB)
        have no_v1_b13_5 := OwT.neB (b := b13_5) ho2 (Nat.le_of_eq hb53.symm)
        clear hb53
        replace hB := below_ext hB hE54 (Nat.le_refl _)
        replace hm0_0 := hE54.at hm0_0
        replace ho2 := hE54.ow ho2
        clear hE54
        refine WL_step (dd := none) rfl rfl rfl (Y_storeW rfl rfl tb_ag34 rfl hm13_5 rfl (by rfl) (fun W55 hG56 hm57 => ?_))
        replace hB := below_grown hB hG56 (Nat.le_refl _) (fun j hj => by cases hj; exact lo_b13_5)
        replace hm0_0 := At.grownAt hm0_0 hm13_5 hG56 (by decide)
        replace ho2 := OwT.grownAtNe ho2 no_v1_b13_5 hG56
        clear hG56 hm13_5
        have hm13_5 := hm57
        clear hm57
        refine WL_nil ?_
        refine hK51 _ _ ?_
        clear hK51 K50
        refine WC_seq (fun K58 hK59 => ?_)
        refine WC_region ?_
        refine WL_val (dd := some 33) rfl rfl rfl (r_loadW rfl tb_ag34 rfl hm13_5) ?_
        refine WL_val (dd := some 34) rfl rfl rfl (r_loadW rfl tb_ag24 rfl hm0_0) ?_
        refine WL_val (dd := some 35) rfl rfl rfl (r_move (v := .int .i64 _) rfl) ?_
        refine WL_call (dd := some 36) rfl rfl rfl (r_call3 tb_c28 (v0 := .agg #[_, _]) rfl (v1 := .agg #[_, _, _, _]) rfl (v2 := .int .i64 _) rfl) (C_drawkniferef09_Prime _ _ _ _ _ (by first | assumption | omega) (by first | assumption | omega)) (fun v14_3 W60 hE61 hP14_3 => ?_)
        have hsz62 := (Below.size hB)
        replace hB := below_ext hB hE61 (Nat.le_refl _)
        replace hm0_0 := hE61.at hm0_0
        replace ho2 := hE61.ow ho2
        replace hm13_5 := hE61.at hm13_5
        clear hE61
        clear hsz62
        obtain rfl := hP14_3
        refine WL_nil ?_
        refine hK59 _ _ ?_
        clear hK59 K58
        refine WC_cond (b := _) rfl (fun hc3 => ?_) (fun hc3 => ?_)
        ·
          try with_reducible replace hc3 := of_decide_eq_true hc3
          refine WC_region ?_
          refine WL_val (dd := some 37) rfl rfl rfl (r_move (v := v1) rfl) ?_
          refine WL_val (dd := some 38) rfl rfl rfl (r_loadW rfl tb_ag34 rfl hm13_5) ?_
          refine WL_step (dd := some 39) rfl rfl rfl (Y_lit1 (u := .agg #[_, _]) rfl tb_el27 tb_zs34 rfl (by decide) (by decide) (fun b15_2 W63 hb64 hE65 hm15_2 => ?_))
          have lo_b15_2 : w.heap.size ≤ b15_2 := hb64 ▸ (Below.size hB)
          have no_v1_b15_2 := OwT.neB (b := b15_2) ho2 (Nat.le_of_eq hb64.symm)
          have ne_b13_5_b15_2 : b13_5 ≠ b15_2 := Nat.ne_of_lt (hb64 ▸ hm13_5.lt)
          clear hb64
          replace hB := below_ext hB hE65 (Nat.le_refl _)
          replace hm0_0 := hE65.at hm0_0
          replace ho2 := hE65.ow ho2
          replace hm13_5 := hE65.at hm13_5
          clear hE65
          refine WL_step (dd := some 40) rfl rfl rfl (Y_append (v := v1) (v2 := .slice (some ⟨b15_2, 0, none⟩) 1 1) rfl rfl tb_el27 tb_zs34 (by decide) ho2 (sl_lit1 hm15_2 rfl) rfl (by have := Below.size hB; omega) (by rw [List.length_append]; omega) (by rw [List.length_append]; omega) (fun v15_3 W66 hG67 ho15_3 => ?_))
          replace ho15_3 := OwT.snoc (enc := encC) (x := ⟨_, _⟩) rfl rfl rfl rfl ho15_3
          clear hm15_2
          replace hB := below_grown hB hG67 (Nat.le_refl _) (fun j hj => (OwT.lt ho2 j hj))
          replace hm0_0 := At.grownOw hm0_0 ho2 hG67 (by decide)
          replace hm13_5 := At.grownOwNe hm13_5 no_v1_b13_5 hG67
          clear hG67
          clear ho2
          refine WL_val (dd := some 7) rfl rfl rfl (r_assign (v := v15_3) rfl) ?_
          refine WL_nil ?_
          refine hK49 _ _ ?_
          clear hK49 K48
          refine WC_region ?_
          refine WL_val (dd := some 26) rfl rfl rfl (r_move (v := .int .i64 _) rfl) ?_
          refine WL_val (dd := some 27) rfl rfl rfl (r_addI rfl rfl (by omega) (by omega)) ?_
          refine WL_val (dd := some 9) rfl rfl rfl (r_assign (v := .int .i64 _) rfl) ?_
          refine WL_nil ?_
          refine hJ43 _ _ ((q + 1, v15_3)) ?_ ?_ ?_ ?_
          · repeat (first | exact agree.mask _ _ _ | refine agree.updo ?_ rfl _ | refine agree.updL ?_ _ rfl | refine agree.maskS rfl ?_)
          · exact ⟨rfl, rfl, trivial⟩
          · exact ⟨hB, hm0_0, (by first | (rw [primesV, if_pos hc3, ← List.append_assoc]; exact ho15_3) | (rw [primesV, if_neg (by rw [hc3]; decide)]; exact ho15_3)), (by omega), trivial⟩
          · show 2 ^ n.toNat - (q + 1) < 2 ^ n.toNat - q; omega
        ·
          try with_reducible replace hc3 := of_decide_eq_false hc3
          refine WC_skip ?_
          refine hK49 _ _ ?_
          clear hK49 K48
          refine WC_region ?_
          refine WL_val (dd := some 26) rfl rfl rfl (r_move (v := .int .i64 _) rfl) ?_
          refine WL_val (dd := some 27) rfl rfl rfl (r_addI rfl rfl (by omega) (by omega)) ?_
          refine WL_val (dd := some 9) rfl rfl rfl (r_assign (v := .int .i64 _) rfl) ?_
          refine WL_nil ?_
          refine hJ43 _ _ ((q + 1, v1)) ?_ ?_ ?_ ?_
          · repeat (first | exact agree.mask _ _ _ | refine agree.updo ?_ rfl _ | refine agree.updL ?_ _ rfl | refine agree.maskS rfl ?_)
          · exact ⟨rfl, rfl, trivial⟩
          · exact ⟨hB, hm0_0, (by first | (rw [primesV, if_pos hc3, ← List.append_assoc]; exact ho2) | (rw [primesV, if_neg (by rw [hc3]; decide)]; exact ho2)), (by omega), trivial⟩
          · show 2 ^ n.toNat - (q + 1) < 2 ^ n.toNat - q; omega
      ·
        try with_reducible replace hc2 := of_decide_eq_false hc2
        refine WC_exit ?_
        refine hK37 _ _ ?_
        clear hK45 K44
        clear hJ43 J42
        clear hK37 K36
        refine WC_region ?_
        refine WL_val (dd := some 21) rfl rfl rfl (r_move (v := .int .i64 _) rfl) ?_
        refine WL_val (dd := some 22) rfl rfl rfl (r_addI rfl rfl (by omega) (by omega)) ?_
        refine WL_val (dd := some 8) rfl rfl rfl (r_assign (v := .int .i64 _) rfl) ?_
        refine WL_nil ?_
        refine hJ31 _ _ ((p + 1, v1)) ?_ ?_ ?_ ?_
        · repeat (first | exact agree.mask _ _ _ | refine agree.updo ?_ rfl _ | refine agree.updL ?_ _ rfl | refine agree.maskS rfl ?_)
        · exact ⟨rfl, rfl, trivial⟩
        · exact ⟨hB, hm0_0, (by have e : q = 2 ^ n.toNat := (by omega); subst e; exact ho2), (by omega), trivial⟩
        · show 2 ^ n.toNat - (p + 1) < 2 ^ n.toNat - p; omega
    ·
      try with_reducible replace hc1 := of_decide_eq_false hc1
      refine WC_exit ?_
      refine hK25 _ _ ?_
      clear hK33 K32
      clear hJ31 J30
      clear hK25 K24
      refine WC_seq (fun K69 hK70 => ?_)
      refine WC_region ?_
      refine WL_val (dd := some 41) rfl rfl rfl (r_move (v := v0) rfl) ?_
      refine WL_val (dd := some 4) rfl rfl rfl (r_assign (v := v0) rfl) ?_
      refine WL_nil ?_
      refine hK70 _ _ ?_
      clear hK70 K69
      refine WC_ret ?_
      repeat (first | refine thenQ_ret ?_ | refine blockQ_ret ?_)
      refine ret_t (v := v0) rfl ?_
      refine ⟨hB, ?_⟩
      obtain rfl : p = 2 ^ n.toNat := by omega
      exact ho

end Go.Proofs.Ytdbcijijhhbkaaa
