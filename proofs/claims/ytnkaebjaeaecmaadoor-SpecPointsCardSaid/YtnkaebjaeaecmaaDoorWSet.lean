/-
  The walks of package set.
-/
import Derived.Test.YtnkaebjaeaecmaaDoorProg
import Derived.Test.YtnkaebjaeaecmaaDoorFrame
namespace Go.Proofs.YtnkaebjaeaecmaaDoor
set_option linter.unusedVariables false
set_option linter.unusedSimpArgs false
open Go Go.RowKit

theorem tb_mix : Tryd.prog.follows .mixedOrders = true := by kernel_rfl
theorem tb_c44 : callB Tryd.prog 44 = true := by kernel_rfl
theorem tb_c45 : callB Tryd.prog 45 = true := by kernel_rfl
theorem tb_ar51 : arrI Tryd.prog 51 = some (4, 1) := by kernel_rfl
theorem tb_sc49 : scalarB Tryd.prog 49 = true := by kernel_rfl
theorem tb_z51 : zeroI Tryd.prog 51 = some (.agg #[.int .u64 0, .int .u64 0, .int .u64 0, .int .u64 0]) := by kernel_rfl
theorem tb_ag51 : aggN Tryd.prog 51 = some 4 := by kernel_rfl
theorem tb_c61 : callB Tryd.prog 61 = true := by kernel_rfl
theorem tb_c59 : callB Tryd.prog 59 = true := by kernel_rfl
theorem tb_c60 : callB Tryd.prog 60 = true := by kernel_rfl
theorem tb_c71 : callB Tryd.prog 71 = true := by kernel_rfl
theorem tb_c56 : callB Tryd.prog 56 = true := by kernel_rfl
theorem tb_size49 : (Tryd.prog.info? 49).map (·.size) = some 1 := by kernel_rfl
theorem tb_build51_ {f : Nat → Value} {w : World} {d : Option Nat} {ty : TypeId} {ps : String} {af : Array Edge} {g : Option (Nat × Bool)}    :
    (execOp (evF f) ⟨d, .build 51 #[], ty, ps, af, g⟩).run Tryd.prog w = .ok (.value (.agg #[.int .u64 0, .int .u64 0, .int .u64 0, .int .u64 0])) w := by
  obtain ⟨i0, hi0, hz0⟩ := Option.bind_eq_some_iff.1 (show (Tryd.prog.info? 51).bind (·.zero) = _ from tb_z51)
  obtain ⟨j49, hj49, hs49⟩ := Option.map_eq_some_iff.1 tb_size49
  simp [execOp, Instr.build, zeroValue, typeInfo, sizeOf, hi0, hz0, run_underlying Tryd.underlying51, Instr.fill, cells_agg, hj49, hs49]
theorem tb_eq51 {f : Nat → Value} {w : World} {d : Option Nat} {ty t2 : TypeId} {ps : String} {af : Array Edge} {g : Option (Nat × Bool)} {x y : Operand} {a0 a1 a2 a3 b0 b1 b2 b3 : Int} (hx : evF f x = .agg #[.int .u64 a0, .int .u64 a1, .int .u64 a2, .int .u64 a3]) (hy : evF f y = .agg #[.int .u64 b0, .int .u64 b1, .int .u64 b2, .int .u64 b3]) :
    (execOp (evF f) ⟨d, .binOp .eql 51 x y t2, ty, ps, af, g⟩).run Tryd.prog w = .ok (.value (.bool (decide ((a0 = b0 ∧ a1 = b1 ∧ a2 = b2 ∧ a3 = b3))))) w := by
  have hg : Tryd.prog.eqGuardType Tryd.prog.depth 51 = false := by kernel_rfl
  have ha := run_equalIn_arr (P := Tryd.prog) w 9999 4 51 49 #[.int .u64 a0, .int .u64 a1, .int .u64 a2, .int .u64 a3] #[.int .u64 b0, .int .u64 b1, .int .u64 b2, .int .u64 b3]
    (fun i => .int .u64 ([a0, a1, a2, a3].getD i 0)) (fun i => .int .u64 ([b0, b1, b2, b3].getD i 0)) (fun i => [a0, a1, a2, a3].getD i 0 == [b0, b1, b2, b3].getD i 0) Tryd.underlying51 (by kernel_rfl) (by simp [isAgg, run_underlying Tryd.underlying49])
    (fun i hi => by
      have : i = 0 ∨ i = 1 ∨ i = 2 ∨ i = 3 := by omega
      rcases this with rfl | rfl | rfl | rfl <;> rfl)
    (fun i hi => by
      have : i = 0 ∨ i = 1 ∨ i = 2 ∨ i = 3 := by omega
      rcases this with rfl | rfl | rfl | rfl <;> rfl)
    (fun i hi => run_equalIn_int w 9998 49 .u64 .u64 _ _ Tryd.underlying49)
  simp only [execOp, hx, hy, Sem.run_bind, run_eqGuard_agg _ _ _ _ _ _ _ hg, Result.andThen_ok, run_eql_struct, ha]
  simp [List.range, List.range.loop]
  by_cases q0 : a0 = b0 <;> by_cases q1 : a1 = b1 <;> by_cases q2 : a2 = b2 <;> by_cases q3 : a3 = b3 <;> simp [q0, q1, q2, q3]
theorem tb_c43 : callB Tryd.prog 43 = true := by kernel_rfl

theorem C_set_may (p : Int) (w : World) :
    Fn Tryd.prog 44 #[.int .i64 p] w fun v w' => v = .bool (mayB p) := by
  refine Fn_intro (n := 9) Tryd.func44 rfl rfl (Nat.le_of_ble_eq_true rfl) ?_
  have hB : Below w.heap.size w w := Below.refl _ _
  refine WC_seq (fun K1 hK2 => ?_)
  refine WC_region ?_
  refine WL_val (dd := some 2) rfl rfl rfl (r_assign (v := .bool false) rfl) ?_
  refine WL_nil ?_
  refine hK2 _ _ ?_
  clear hK2 K1
  refine WC_seq (fun K3 hK4 => ?_)
  refine WC_region ?_
  refine WL_val (dd := some 3) rfl rfl rfl (r_move (v := .int .i64 _) rfl) ?_
  refine WL_val (dd := some 4) rfl rfl rfl (r_geq rfl rfl) ?_
  refine WL_split (dd := some 5) rfl rfl rfl (r_move (v := .bool _) rfl) (fun hs1_2 => ?_) (fun hs1_2 => ?_)
  ·
    try with_reducible replace hs1_2 := dec_t hs1_2
    refine WL_val (dd := some 6) rfl rfl rfl (r_move (v := .int .i64 _) rfl) ?_
    refine WL_val (dd := some 7) rfl rfl rfl (r_lss rfl rfl) ?_
    refine WL_val (dd := some 8) rfl rfl rfl (r_pick_t rfl (v := .bool _) rfl) ?_
    refine WL_val (dd := some 2) rfl rfl rfl (r_assign (v := .bool _) rfl) ?_
    refine WL_nil ?_
    refine hK4 _ _ ?_
    clear hK4 K3
    refine WC_ret ?_
    repeat (first | refine thenQ_ret ?_ | refine blockQ_ret ?_)
    refine ret_t (v := .bool _) rfl ?_
    refine ⟨hB, ?_⟩
    simp [mayB]; omega
  ·
    try with_reducible replace hs1_2 := dec_f hs1_2
    refine WL_skip (dd := some 6) rfl rfl rfl ?_
    refine WL_skip (dd := some 7) rfl rfl rfl ?_
    refine WL_val (dd := some 8) rfl rfl rfl (r_pick_f rfl (v := .bool false) rfl) ?_
    refine WL_val (dd := some 2) rfl rfl rfl (r_assign (v := .bool false) rfl) ?_
    refine WL_nil ?_
    refine hK4 _ _ ?_
    clear hK4 K3
    refine WC_ret ?_
    repeat (first | refine thenQ_ret ?_ | refine blockQ_ret ?_)
    refine ret_t (v := .bool false) rfl ?_
    refine ⟨hB, ?_⟩
    simp [mayB]; omega

theorem C_set_at (p : Int) (w : World) (h0 : 0 ≤ p) (h1 : p < 256) :
    Fn Tryd.prog 45 #[.int .i64 p] w fun v w' => v = .tuple #[.int .i64 ((p.toNat / 64 : Nat) : Int), .int .u64 ((2 ^ (p.toNat % 64) : Nat) : Int)] := by
  refine Fn_intro (n := 9) Tryd.func45 rfl rfl (Nat.le_of_ble_eq_true rfl) ?_
  have hB : Below w.heap.size w w := Below.refl _ _
  obtain ⟨q, rfl⟩ := Int.eq_ofNat_of_zero_le h0
  have hq : q < 256 := by omega
  refine WC_seq (fun K1 hK2 => ?_)
  refine WC_region ?_
  refine WL_val (dd := some 2) rfl rfl rfl (r_assign (v := .int .i64 0) rfl) ?_
  refine WL_val (dd := some 3) rfl rfl rfl (r_assign (v := .int .u64 0) rfl) ?_
  refine WL_nil ?_
  refine hK2 _ _ ?_
  clear hK2 K1
  refine WC_seq (fun K3 hK4 => ?_)
  refine WC_draw Ext tb_mix (fun W5 hE6 => ?_)
  replace hB := below_ext hB hE6 (Nat.le_refl _)
  have hS := Ext.refl W5
  refine WT_take (dd := some 4) 0 rfl (by kernel_rfl) (by kernel_rfl) (by kernel_rfl) rfl rfl rfl (fun _wq _hq => r_move (v := .int .i64 _) rfl) hS ?_
  refine WT_take (dd := some 5) 1 rfl (by kernel_rfl) (by kernel_rfl) (by kernel_rfl) rfl rfl rfl (fun _wq _hq => r_quoN (n := 64) rfl rfl rfl (by omega) (by first | assumption | (simp only [topN]; omega) | (simp only [topN]; decide))) hS ?_
  refine WT_take (dd := some 6) 2 rfl (by kernel_rfl) (by kernel_rfl) (by kernel_rfl) rfl rfl rfl (fun _wq _hq => r_move (v := .int .i64 _) rfl) hS ?_
  refine WT_take (dd := some 7) 3 rfl (by kernel_rfl) (by kernel_rfl) (by kernel_rfl) rfl rfl rfl (fun _wq _hq => r_remN (n := 64) rfl rfl rfl (by omega)) hS ?_
  refine WT_take (dd := some 8) 4 rfl (by kernel_rfl) (by kernel_rfl) (by kernel_rfl) rfl rfl rfl (fun _wq _hq => r_shl (m := 1) rfl rfl (by omega) (by simp only [IntKind.bits]; omega) (by exact shl1 _ _ (by simp only [bitsN]; omega))) hS ?_
  refine WT_take (dd := some 2) 5 rfl (by kernel_rfl) (by kernel_rfl) (by kernel_rfl) rfl rfl rfl (fun _wq _hq => r_assign (v := .int .i64 _) rfl) hS ?_
  refine WT_take (dd := some 3) 6 rfl (by kernel_rfl) (by kernel_rfl) (by kernel_rfl) rfl rfl rfl (fun _wq _hq => r_assign (v := .int .u64 _) rfl) hS ?_
  refine WT_done (by kernel_rfl) ?_
  refine hK4 _ _ ?_
  clear hK4 K3
  refine WC_ret ?_
  repeat (first | refine thenQ_ret ?_ | refine blockQ_ret ?_)
  refine ret_tt (v := .int .i64 _) rfl (v1 := .int .u64 _) rfl ?_
  refine ⟨hB, ?_⟩
  have e : ((q : Int) % 64).toNat = q % 64 := by omega
  simp [e]

theorem C_set_Has (s : Nat) (p : Int) (w : World) :
    Fn Tryd.prog 22 #[setV s, .int .i64 p] w fun v w' => v = .bool (hasB s p) := by
  refine Fn_intro (n := 21) Tryd.func22 rfl rfl (Nat.le_of_ble_eq_true rfl) ?_
  have hB : Below w.heap.size w w := Below.refl _ _
  refine WC_seq (fun K1 hK2 => ?_)
  refine WC_region ?_
  refine WL_step (dd := some 2) rfl rfl rfl (Y_box (c := #[_, _, _, _]) rfl rfl (fun b0_0 W3 hb4 hE5 hm0_0 => ?_))
  have lo_b0_0 : w.heap.size ≤ b0_0 := hb4 ▸ (Below.size hB)
  clear hb4
  replace hB := below_ext hB hE5 (Nat.le_refl _)
  clear hE5
  refine WL_val (dd := some 4) rfl rfl rfl (r_assign (v := .bool false) rfl) ?_
  refine WL_nil ?_
  refine hK2 _ _ ?_
  clear hK2 K1
  refine WC_seq (fun K6 hK7 => ?_)
  refine WC_seq (fun K8 hK9 => ?_)
  refine WC_region ?_
  refine WL_val (dd := some 7) rfl rfl rfl (r_move (v := .int .i64 _) rfl) ?_
  refine WL_call (dd := some 8) rfl rfl rfl (r_call1 tb_c44 (v0 := .int .i64 _) rfl) (C_set_may _ _) (fun v1_1 W10 hE11 hP1_1 => ?_)
  have hsz12 := (Below.size hB)
  replace hB := below_ext hB hE11 (Nat.le_refl _)
  replace hm0_0 := hE11.at hm0_0
  clear hE11
  clear hsz12
  obtain rfl := hP1_1
  refine WL_val (dd := some 9) rfl rfl rfl (r_not rfl) ?_
  refine WL_nil ?_
  refine hK9 _ _ ?_
  clear hK9 K8
  refine WC_cond (b := _) rfl (fun hc0 => ?_) (fun hc0 => ?_)
  ·
    try with_reducible replace hc0 := dec_t hc0
    refine WC_seq (fun K13 hK14 => ?_)
    refine WC_region ?_
    refine WL_val (dd := some 4) rfl rfl rfl (r_assign (v := .bool false) rfl) ?_
    refine WL_nil ?_
    refine hK14 _ _ ?_
    clear hK14 K13
    refine WC_ret ?_
    repeat (first | refine thenQ_ret ?_ | refine blockQ_ret ?_)
    try clear hK7 K6
    refine ret_t (v := .bool false) rfl ?_
    refine ⟨hB, ?_⟩
    first | exact congrArg Value.bool (hasB_word hq) | (simp at hc0; simp [hasB, hc0])
  ·
    try with_reducible replace hc0 := dec_f hc0
    refine WC_skip ?_
    refine hK7 _ _ ?_
    clear hK7 K6
    refine WC_seq (fun K15 hK16 => ?_)
    refine WC_region ?_
    refine WL_val (dd := some 11) rfl rfl rfl (r_move (v := .int .i64 _) rfl) ?_
    refine WL_call (dd := some 12) rfl rfl rfl (r_call1 tb_c45 (v0 := .int .i64 _) rfl) (C_set_at _ _ (by simp [mayB] at hc0; omega) (by simp [mayB] at hc0; omega)) (fun v3_1 W17 hE18 hP3_1 => ?_)
    have hsz19 := (Below.size hB)
    replace hB := below_ext hB hE18 (Nat.le_refl _)
    replace hm0_0 := hE18.at hm0_0
    clear hE18
    obtain rfl := hP3_1
    clear hsz19
    obtain ⟨q, rfl⟩ := Int.eq_ofNat_of_zero_le (show 0 ≤ p by simp [mayB] at hc0; omega)
    have hq : q < 256 := by simp [mayB] at hc0; omega
    simp only [Int.toNat_natCast]
    refine WL_val (dd := some 10) rfl rfl rfl (r_move (v := .tuple #[.int .i64 _, .int .u64 _]) rfl) ?_
    refine WL_val (dd := some 13) rfl rfl rfl (r_ext2_0 (h := rfl)) ?_
    refine WL_val (dd := some 14) rfl rfl rfl (r_ext2_1 (h := rfl)) ?_
    refine WL_val (dd := some 5) rfl rfl rfl (r_assign (v := .int .i64 _) rfl) ?_
    refine WL_val (dd := some 6) rfl rfl rfl (r_assign (v := .int .u64 _) rfl) ?_
    refine WL_nil ?_
    refine hK16 _ _ ?_
    clear hK16 K15
    refine WC_seq (fun K20 hK21 => ?_)
    refine WC_region ?_
    refine WL_val (dd := some 15) rfl rfl rfl (r_move (v := .int .i64 _) rfl) ?_
    refine WL_val (dd := some 16) rfl rfl rfl (r_idxA rfl rfl tb_ar51 (by omega) (by omega)) ?_
    refine WL_val (dd := some 17) rfl rfl rfl (r_load1 (v := wv s _) rfl tb_sc49 (At.cell hm0_0 (setA_get s _ (by omega)))) ?_
    refine WL_val (dd := some 18) rfl rfl rfl (r_move (v := .int .u64 _) rfl) ?_
    refine WL_val (dd := some 19) rfl rfl rfl (r_and (n := _) rfl rfl rfl (by exact wd_top _ _) (by rw [← Nat.one_mul (2 ^ _)]; exact shl1 _ _ (by simp only [bitsN]; omega))) ?_
    refine WL_val (dd := some 20) rfl rfl rfl (r_gtr rfl rfl) ?_
    refine WL_val (dd := some 4) rfl rfl rfl (r_assign (v := .bool _) rfl) ?_
    refine WL_nil ?_
    refine hK21 _ _ ?_
    clear hK21 K20
    refine WC_ret ?_
    repeat (first | refine thenQ_ret ?_ | refine blockQ_ret ?_)
    refine ret_t (v := .bool _) rfl ?_
    refine ⟨hB, ?_⟩
    first | exact congrArg Value.bool (hasB_word hq) | (simp at hc0; simp [hasB, hc0])

theorem C_set_With (s : Nat) (p : Int) (w : World) :
    Fn Tryd.prog 43 #[setV s, .int .i64 p] w fun v w' => v = setV (withS s p) := by
  refine Fn_intro (n := 21) Tryd.func43 rfl rfl (Nat.le_of_ble_eq_true rfl) ?_
  have hB : Below w.heap.size w w := Below.refl _ _
  refine WC_seq (fun K1 hK2 => ?_)
  refine WC_region ?_
  refine WL_step (dd := some 2) rfl rfl rfl (Y_box (c := #[_, _, _, _]) rfl rfl (fun b0_0 W3 hb4 hE5 hm0_0 => ?_))
  have lo_b0_0 : w.heap.size ≤ b0_0 := hb4 ▸ (Below.size hB)
  clear hb4
  replace hB := below_ext hB hE5 (Nat.le_refl _)
  clear hE5
  refine WL_step (dd := some 4) rfl rfl rfl (Y_alloc tb_z51 rfl (fun b0_1 W6 hb7 hE8 hm0_1 => ?_))
  have lo_b0_1 : w.heap.size ≤ b0_1 := hb7 ▸ (Below.size hB)
  have ne_b0_0_b0_1 : b0_0 ≠ b0_1 := Nat.ne_of_lt (hb7 ▸ hm0_0.lt)
  clear hb7
  replace hB := below_ext hB hE8 (Nat.le_refl _)
  replace hm0_0 := hE8.at hm0_0
  clear hE8
  replace hm0_1 : At W6 b0_1 #[wv 0 0, wv 0 1, wv 0 2, wv 0 3] 51 := hm0_1
  refine WL_nil ?_
  refine hK2 _ _ ?_
  clear hK2 K1
  refine WC_seq (fun K9 hK10 => ?_)
  refine WC_seq (fun K11 hK12 => ?_)
  refine WC_region ?_
  refine WL_val (dd := some 7) rfl rfl rfl (r_move (v := .int .i64 _) rfl) ?_
  refine WL_call (dd := some 8) rfl rfl rfl (r_call1 tb_c44 (v0 := .int .i64 _) rfl) (C_set_may _ _) (fun v1_1 W13 hE14 hP1_1 => ?_)
  have hsz15 := (Below.size hB)
  replace hB := below_ext hB hE14 (Nat.le_refl _)
  replace hm0_0 := hE14.at hm0_0
  replace hm0_1 := hE14.at hm0_1
  clear hE14
  clear hsz15
  obtain rfl := hP1_1
  refine WL_nil ?_
  refine hK12 _ _ ?_
  clear hK12 K11
  refine WC_cond (b := _) rfl (fun hc0 => ?_) (fun hc0 => ?_)
  ·
    try with_reducible replace hc0 := dec_t hc0
    refine WC_seq (fun K16 hK17 => ?_)
    refine WC_region ?_
    refine WL_val (dd := some 10) rfl rfl rfl (r_move (v := .int .i64 _) rfl) ?_
    refine WL_call (dd := some 11) rfl rfl rfl (r_call1 tb_c45 (v0 := .int .i64 _) rfl) (C_set_at _ _ (by simp [mayB] at hc0; omega) (by simp [mayB] at hc0; omega)) (fun v2_1 W18 hE19 hP2_1 => ?_)
    have hsz20 := (Below.size hB)
    replace hB := below_ext hB hE19 (Nat.le_refl _)
    replace hm0_0 := hE19.at hm0_0
    replace hm0_1 := hE19.at hm0_1
    clear hE19
    obtain rfl := hP2_1
    clear hsz20
    obtain ⟨q, rfl⟩ := Int.eq_ofNat_of_zero_le (show 0 ≤ p by simp [mayB] at hc0; omega)
    have hq : q < 256 := by simp [mayB] at hc0; omega
    simp only [Int.toNat_natCast]
    refine WL_val (dd := some 9) rfl rfl rfl (r_move (v := .tuple #[.int .i64 _, .int .u64 _]) rfl) ?_
    refine WL_val (dd := some 12) rfl rfl rfl (r_ext2_0 (h := rfl)) ?_
    refine WL_val (dd := some 13) rfl rfl rfl (r_ext2_1 (h := rfl)) ?_
    refine WL_val (dd := some 5) rfl rfl rfl (r_assign (v := .int .i64 _) rfl) ?_
    refine WL_val (dd := some 6) rfl rfl rfl (r_assign (v := .int .u64 _) rfl) ?_
    refine WL_nil ?_
    refine hK17 _ _ ?_
    clear hK17 K16
    refine WC_region ?_
    refine WL_val (dd := some 14) rfl rfl rfl (r_move (v := .int .i64 _) rfl) ?_
    refine WL_val (dd := some 15) rfl rfl rfl (r_idxA rfl rfl tb_ar51 (by omega) (by omega)) ?_
    refine WL_val (dd := some 16) rfl rfl rfl (r_load1 (v := wv s _) rfl tb_sc49 (At.cell hm0_0 (setA_get s _ (by omega)))) ?_
    refine WL_val (dd := some 17) rfl rfl rfl (r_move (v := .int .u64 _) rfl) ?_
    refine WL_val (dd := some 18) rfl rfl rfl (r_or (n := _) rfl rfl rfl (by exact wd_top _ _) (by rw [← Nat.one_mul (2 ^ _)]; exact shl1 _ _ (by simp only [bitsN]; omega))) ?_
    refine WL_val (dd := some 19) rfl rfl rfl (r_idxA rfl rfl tb_ar51 (by omega) (by omega)) ?_
    refine WL_step (dd := none) rfl rfl rfl (Y_store1 (v := .int .u64 _) rfl rfl tb_sc49 rfl hm0_0 (by simp; omega) (fun W21 hG22 hm23 => ?_))
    replace hB := below_grown hB hG22 (Nat.le_refl _) (fun j hj => by cases hj; exact lo_b0_0)
    replace hm0_1 := At.grownNe hm0_1 (Ne.symm ne_b0_0_b0_1) hG22
    clear hG22 hm0_0
    have hm0_0 := hm23
    clear hm23
    rw [setA_set (s' := withS s q) (by omega) (withS_wd hq)] at hm0_0
    refine WL_nil ?_
    refine hK10 _ _ ?_
    clear hK10 K9
    refine WC_seq (fun K24 hK25 => ?_)
    refine WC_region ?_
    refine WL_val (dd := some 20) rfl rfl rfl (r_loadW rfl tb_ag51 rfl hm0_0) ?_
    refine WL_step (dd := none) rfl rfl rfl (Y_storeW rfl rfl tb_ag51 rfl hm0_1 rfl (by rfl) (fun W26 hG27 hm28 => ?_))
    replace hB := below_grown hB hG27 (Nat.le_refl _) (fun j hj => by cases hj; exact lo_b0_1)
    replace hm0_0 := At.grownNe hm0_0 ne_b0_0_b0_1 hG27
    clear hG27 hm0_1
    have hm0_1 := hm28
    clear hm28
    refine WL_nil ?_
    refine hK25 _ _ ?_
    clear hK25 K24
    refine WC_ret ?_
    repeat (first | refine thenQ_ret ?_ | refine blockQ_ret ?_)
    refine ret_c rfl tb_ag51 hm0_1 rfl ?_
    refine ⟨hB, ?_⟩
    first | rfl | (simp [withS, hc0])
  ·
    try with_reducible replace hc0 := dec_f hc0
    refine WC_skip ?_
    refine hK10 _ _ ?_
    clear hK10 K9
    refine WC_seq (fun K29 hK30 => ?_)
    refine WC_region ?_
    refine WL_val (dd := some 20) rfl rfl rfl (r_loadW rfl tb_ag51 rfl hm0_0) ?_
    refine WL_step (dd := none) rfl rfl rfl (Y_storeW rfl rfl tb_ag51 rfl hm0_1 rfl (by rfl) (fun W31 hG32 hm33 => ?_))
    replace hB := below_grown hB hG32 (Nat.le_refl _) (fun j hj => by cases hj; exact lo_b0_1)
    replace hm0_0 := At.grownNe hm0_0 ne_b0_0_b0_1 hG32
    clear hG32 hm0_1
    have hm0_1 := hm33
    clear hm33
    refine WL_nil ?_
    refine hK30 _ _ ?_
    clear hK30 K29
    refine WC_ret ?_
    repeat (first | refine thenQ_ret ?_ | refine blockQ_ret ?_)
    refine ret_c rfl tb_ag51 hm0_1 rfl ?_
    refine ⟨hB, ?_⟩
    first | rfl | (simp [withS, hc0])

theorem C_set_both (s t q : Nat) (op : Nat → Nat → Nat) (w : World) (hq : callB Tryd.prog q = true) (hdo : ∀ (x y : Nat) (w : World), x < 18446744073709551616 → y < 18446744073709551616 → Fn Tryd.prog q #[.int .u64 (x : Int), .int .u64 (y : Int)] w fun v w' => v = .int .u64 ((op x y : Nat) : Int)) :
    Fn Tryd.prog 59 #[setV s, setV t, .func (.func q) #[] #[]] w fun v w' => v = .agg (mixA op s t 4) := by
  refine Fn_intro (n := 24) Tryd.func59 rfl rfl (Nat.le_of_ble_eq_true rfl) ?_
  have hB : Below w.heap.size w w := Below.refl _ _
  refine WC_seq (fun K1 hK2 => ?_)
  refine WC_region ?_
  refine WL_step (dd := some 3) rfl rfl rfl (Y_box (c := #[_, _, _, _]) rfl rfl (fun b0_0 W3 hb4 hE5 hm0_0 => ?_))
  have lo_b0_0 : w.heap.size ≤ b0_0 := hb4 ▸ (Below.size hB)
  clear hb4
  replace hB := below_ext hB hE5 (Nat.le_refl _)
  clear hE5
  refine WL_step (dd := some 4) rfl rfl rfl (Y_box (c := #[_, _, _, _]) rfl rfl (fun b0_1 W6 hb7 hE8 hm0_1 => ?_))
  have lo_b0_1 : w.heap.size ≤ b0_1 := hb7 ▸ (Below.size hB)
  have ne_b0_0_b0_1 : b0_0 ≠ b0_1 := Nat.ne_of_lt (hb7 ▸ hm0_0.lt)
  clear hb7
  replace hB := below_ext hB hE8 (Nat.le_refl _)
  replace hm0_0 := hE8.at hm0_0
  clear hE8
  refine WL_step (dd := some 6) rfl rfl rfl (Y_alloc tb_z51 rfl (fun b0_2 W9 hb10 hE11 hm0_2 => ?_))
  have lo_b0_2 : w.heap.size ≤ b0_2 := hb10 ▸ (Below.size hB)
  have ne_b0_0_b0_2 : b0_0 ≠ b0_2 := Nat.ne_of_lt (hb10 ▸ hm0_0.lt)
  have ne_b0_1_b0_2 : b0_1 ≠ b0_2 := Nat.ne_of_lt (hb10 ▸ hm0_1.lt)
  clear hb10
  replace hB := below_ext hB hE11 (Nat.le_refl _)
  replace hm0_0 := hE11.at hm0_0
  replace hm0_1 := hE11.at hm0_1
  clear hE11
  replace hm0_2 : At W9 b0_2 #[wv 0 0, wv 0 1, wv 0 2, wv 0 3] 51 := hm0_2
  refine WL_nil ?_
  refine hK2 _ _ ?_
  clear hK2 K1
  refine WC_seq (fun K12 hK13 => ?_)
  refine WC_region ?_
  refine WL_step (dd := some 7) rfl rfl rfl (Y_alloc tb_z51 rfl (fun b1_0 W14 hb15 hE16 hm1_0 => ?_))
  have lo_b1_0 : w.heap.size ≤ b1_0 := hb15 ▸ (Below.size hB)
  have ne_b0_0_b1_0 : b0_0 ≠ b1_0 := Nat.ne_of_lt (hb15 ▸ hm0_0.lt)
  have ne_b0_1_b1_0 : b0_1 ≠ b1_0 := Nat.ne_of_lt (hb15 ▸ hm0_1.lt)
  have ne_b0_2_b1_0 : b0_2 ≠ b1_0 := Nat.ne_of_lt (hb15 ▸ hm0_2.lt)
  clear hb15
  replace hB := below_ext hB hE16 (Nat.le_refl _)
  replace hm0_0 := hE16.at hm0_0
  replace hm0_1 := hE16.at hm0_1
  replace hm0_2 := hE16.at hm0_2
  clear hE16
  replace hm1_0 : At W14 b1_0 #[wv 0 0, wv 0 1, wv 0 2, wv 0 3] 51 := hm1_0
  refine WL_nil ?_
  refine hK13 _ _ ?_
  clear hK13 K12
  refine WC_seq (fun K17 hK18 => ?_)
  refine WC_seq (fun K19 hK20 => ?_)
  refine WC_region ?_
  refine WL_val (dd := some 9) rfl rfl rfl (r_move (v := .int .i64 0) rfl) ?_
  refine WL_nil ?_
  refine hK20 _ _ ?_
  clear hK20 K19
  refine WC_block ?_
  refine WC_loop (σ := (Nat)) [8, 9, 10, 11, 12, 13, 14, 15, 16, 17, 18, 19, 20, 21, 22] (fun k => [(9, .int .i64 (k : Int))]) (fun k W => (Below w.heap.size w W) ∧ (At W b0_0 _ 51) ∧ (At W b0_1 _ 51) ∧ (At W b0_2 _ 51) ∧ (At W b1_0 (mixA op s t k) 51) ∧ (k ≤ 4) ∧ (True)) (fun k => 4 - k) (0) ⟨rfl, trivial⟩ ⟨hB, hm0_0, hm0_1, hm0_2, hm1_0, (by omega), trivial⟩ ?_
  clear hB hm0_0 hm0_1 hm0_2 hm1_0
  rintro k g22 W21 ⟨hB, hm0_0, hm0_1, hm0_2, hm1_0, hk, _⟩ J23 hJ24
  refine WC_seq (fun K25 hK26 => ?_)
  refine WC_region ?_
  refine WL_val (dd := some 10) rfl rfl rfl (r_lss rfl rfl) ?_
  refine WL_nil ?_
  refine hK26 _ _ ?_
  clear hK26 K25
  refine WC_seq (fun K27 hK28 => ?_)
  refine WC_cond (b := _) rfl (fun hc0 => ?_) (fun hc0 => ?_)
  ·
    try with_reducible replace hc0 := dec_t hc0
    refine WC_skip ?_
    refine hK28 _ _ ?_
    clear hK28 K27
    refine WC_seq (fun K29 hK30 => ?_)
    refine WC_block ?_
    refine WC_seq (fun K31 hK32 => ?_)
    refine WC_region ?_
    refine WL_val (dd := some 11) rfl rfl rfl (r_move (v := .int .i64 _) rfl) ?_
    refine WL_val (dd := some 8) rfl rfl rfl (r_assign (v := .int .i64 _) rfl) ?_
    refine WL_nil ?_
    refine hK32 _ _ ?_
    clear hK32 K31
    refine WC_draw Ext tb_mix (fun W33 hE34 => ?_)
    replace hB := below_ext hB hE34 (Nat.le_refl _)
    replace hm0_0 := hE34.at hm0_0
    replace hm0_1 := hE34.at hm0_1
    replace hm0_2 := hE34.at hm0_2
    replace hm1_0 := hE34.at hm1_0
    have hS := Ext.refl W33
    refine WT_take (dd := some 12) 0 rfl (by kernel_rfl) (by kernel_rfl) (by kernel_rfl) rfl rfl rfl (fun _wq _hq => r_move (v := .int .i64 _) rfl) hS ?_
    refine WT_take (dd := some 13) 1 rfl (by kernel_rfl) (by kernel_rfl) (by kernel_rfl) rfl rfl rfl (fun _wq _hq => r_move (v := .func (.func q) #[] #[]) rfl) hS ?_
    refine WT_take (dd := some 14) 2 rfl (by kernel_rfl) (by kernel_rfl) (by kernel_rfl) rfl rfl rfl (fun _wq _hq => r_move (v := .int .i64 _) rfl) hS ?_
    refine WT_take (dd := some 15) 3 rfl (by kernel_rfl) (by kernel_rfl) (by kernel_rfl) rfl rfl rfl (fun _wq _hq => r_idxA rfl rfl tb_ar51 (by omega) (by omega)) hS ?_
    refine WT_take (dd := some 16) 4 rfl (by kernel_rfl) (by kernel_rfl) (by kernel_rfl) rfl rfl rfl (fun _wq hq => r_load1 (v := .int .u64 _) rfl tb_sc49 (At.cell (hq.at hm0_0) (setA_get s k (by omega)))) hS ?_
    refine WT_take (dd := some 17) 5 rfl (by kernel_rfl) (by kernel_rfl) (by kernel_rfl) rfl rfl rfl (fun _wq _hq => r_move (v := .int .i64 _) rfl) hS ?_
    refine WT_take (dd := some 18) 6 rfl (by kernel_rfl) (by kernel_rfl) (by kernel_rfl) rfl rfl rfl (fun _wq _hq => r_idxA rfl rfl tb_ar51 (by omega) (by omega)) hS ?_
    refine WT_take (dd := some 19) 7 rfl (by kernel_rfl) (by kernel_rfl) (by kernel_rfl) rfl rfl rfl (fun _wq hq => r_load1 (v := .int .u64 _) rfl tb_sc49 (At.cell (hq.at hm0_1) (setA_get t k (by omega)))) hS ?_
    refine WT_one (dd := some 20) 8 (by kernel_rfl) rfl rfl rfl rfl (Yd.call (r_callv2 (q := q) rfl hq (v0 := .int .u64 _) rfl (v1 := .int .u64 _) rfl) (hdo _ _ _ (wd_lt _ _) (wd_lt _ _)) (fun v5_8 W35 hE36 hP5_8 => ⟨.inl (hS.trans hE36), ?_⟩))
    have hsz37 := (Below.size hB)
    have sv38_hB := hB
    have sv38_hm0_0 := hm0_0
    have sv38_hm0_1 := hm0_1
    have sv38_hm0_2 := hm0_2
    have sv38_hm1_0 := hm1_0
    replace hB := below_ext hB hE36 (Nat.le_refl _)
    replace hm0_0 := hE36.at hm0_0
    replace hm0_1 := hE36.at hm0_1
    replace hm0_2 := hE36.at hm0_2
    replace hm1_0 := hE36.at hm1_0
    replace hS := hS.trans hE36
    clear hE36
    clear hsz37
    obtain rfl := hP5_8
    refine WT_take (dd := some 21) 9 rfl (by kernel_rfl) (by kernel_rfl) (by kernel_rfl) rfl rfl rfl (fun _wq _hq => r_idxA rfl rfl tb_ar51 (by omega) (by omega)) hS ?_
    refine WT_one (dd := none) 10 (by kernel_rfl) rfl rfl rfl rfl (Y_store1 (v := .int .u64 _) rfl rfl tb_sc49 rfl hm1_0 (by simp [mixA_size]; omega) (fun W39 hG40 hm41 => ⟨.inr (by kernel_rfl), ?_⟩))
    replace hB := below_grown hB hG40 (Nat.le_refl _) (fun j hj => by cases hj; exact lo_b1_0)
    replace hm0_0 := At.grownNe hm0_0 ne_b0_0_b1_0 hG40
    replace hm0_1 := At.grownNe hm0_1 ne_b0_1_b1_0 hG40
    replace hm0_2 := At.grownNe hm0_2 ne_b0_2_b1_0 hG40
    clear hG40 hm1_0
    have hm1_0 := hm41
    clear hm41
    rw [mixA_set op s t k (by omega)] at hm1_0
    refine WT_done (by kernel_rfl) ?_
    try clear sv38_hB sv38_hm0_0 sv38_hm0_1 sv38_hm0_2
    refine hK30 _ _ ?_
    clear hK30 K29
    refine WC_region ?_
    refine WL_val (dd := some 22) rfl rfl rfl (r_addI rfl rfl (by omega) (by omega)) ?_
    refine WL_val (dd := some 9) rfl rfl rfl (r_move (v := .int .i64 _) rfl) ?_
    refine WL_nil ?_
    refine hJ24 _ _ (k + 1) ?_ ?_ ?_ ?_
    · repeat (first | exact agree.mask _ _ _ | refine agree.updo ?_ rfl _ | refine agree.updL ?_ _ rfl | refine agree.maskS rfl ?_)
    · exact ⟨rfl, trivial⟩
    · exact ⟨hB, hm0_0, hm0_1, hm0_2, hm1_0, (by omega), trivial⟩
    · first | omega | (dsimp only; omega)
  ·
    try with_reducible replace hc0 := dec_f hc0
    refine WC_exit ?_
    refine hK18 _ _ ?_
    clear hK28 K27
    clear hJ24 J23
    clear hK18 K17
    refine WC_seq (fun K42 hK43 => ?_)
    refine WC_region ?_
    refine WL_val (dd := some 23) rfl rfl rfl (r_loadW rfl tb_ag51 rfl hm1_0) ?_
    refine WL_step (dd := none) rfl rfl rfl (Y_storeW rfl rfl tb_ag51 rfl hm0_2 rfl (by rfl) (fun W44 hG45 hm46 => ?_))
    replace hB := below_grown hB hG45 (Nat.le_refl _) (fun j hj => by cases hj; exact lo_b0_2)
    replace hm0_0 := At.grownNe hm0_0 ne_b0_0_b0_2 hG45
    replace hm0_1 := At.grownNe hm0_1 ne_b0_1_b0_2 hG45
    replace hm1_0 := At.grownNe hm1_0 (Ne.symm ne_b0_2_b1_0) hG45
    clear hG45 hm0_2
    have hm0_2 := hm46
    clear hm46
    refine WL_nil ?_
    refine hK43 _ _ ?_
    clear hK43 K42
    refine WC_ret ?_
    repeat (first | refine thenQ_ret ?_ | refine blockQ_ret ?_)
    refine ret_c rfl tb_ag51 hm0_2 rfl ?_
    refine ⟨hB, ?_⟩
    obtain rfl : k = 4 := by omega
    rfl

theorem C_set_Or_1 (x y : Nat) (w : World) (hx : x < 18446744073709551616) (hy : y < 18446744073709551616) :
    Fn Tryd.prog 61 #[.int .u64 (x : Int), .int .u64 (y : Int)] w fun v w' => v = .int .u64 ((x ||| y : Nat) : Int) := by
  refine Fn_intro (n := 8) Tryd.func61 rfl rfl (Nat.le_of_ble_eq_true rfl) ?_
  have hB : Below w.heap.size w w := Below.refl _ _
  refine WC_seq (fun K1 hK2 => ?_)
  refine WC_region ?_
  refine WL_val (dd := some 4) rfl rfl rfl (r_assign (v := .int .u64 0) rfl) ?_
  refine WL_nil ?_
  refine hK2 _ _ ?_
  clear hK2 K1
  refine WC_seq (fun K3 hK4 => ?_)
  refine WC_region ?_
  refine WL_val (dd := some 5) rfl rfl rfl (r_move (v := .int .u64 _) rfl) ?_
  refine WL_val (dd := some 6) rfl rfl rfl (r_move (v := .int .u64 _) rfl) ?_
  refine WL_val (dd := some 7) rfl rfl rfl (r_or (n := _) rfl rfl rfl (by first | assumption | (simp only [topN]; omega) | (simp only [topN]; decide)) (by first | assumption | (simp only [topN]; omega) | (simp only [topN]; decide))) ?_
  refine WL_val (dd := some 4) rfl rfl rfl (r_assign (v := .int .u64 _) rfl) ?_
  refine WL_nil ?_
  refine hK4 _ _ ?_
  clear hK4 K3
  refine WC_ret ?_
  repeat (first | refine thenQ_ret ?_ | refine blockQ_ret ?_)
  refine ret_t (v := .int .u64 _) rfl ?_
  refine ⟨hB, ?_⟩
  rfl

theorem C_set_Or (s t : Nat) (w : World) :
    Fn Tryd.prog 40 #[setV s, setV t] w fun v w' => v = setV (s ||| t) := by
  refine Fn_intro (n := 8) Tryd.func40 rfl rfl (Nat.le_of_ble_eq_true rfl) ?_
  have hB : Below w.heap.size w w := Below.refl _ _
  refine WC_seq (fun K1 hK2 => ?_)
  refine WC_region ?_
  refine WL_step (dd := some 2) rfl rfl rfl (Y_box (c := #[_, _, _, _]) rfl rfl (fun b0_0 W3 hb4 hE5 hm0_0 => ?_))
  have lo_b0_0 : w.heap.size ≤ b0_0 := hb4 ▸ (Below.size hB)
  clear hb4
  replace hB := below_ext hB hE5 (Nat.le_refl _)
  clear hE5
  refine WL_step (dd := some 3) rfl rfl rfl (Y_box (c := #[_, _, _, _]) rfl rfl (fun b0_1 W6 hb7 hE8 hm0_1 => ?_))
  have lo_b0_1 : w.heap.size ≤ b0_1 := hb7 ▸ (Below.size hB)
  have ne_b0_0_b0_1 : b0_0 ≠ b0_1 := Nat.ne_of_lt (hb7 ▸ hm0_0.lt)
  clear hb7
  replace hB := below_ext hB hE8 (Nat.le_refl _)
  replace hm0_0 := hE8.at hm0_0
  clear hE8
  refine WL_step (dd := some 4) rfl rfl rfl (Y_alloc tb_z51 rfl (fun b0_2 W9 hb10 hE11 hm0_2 => ?_))
  have lo_b0_2 : w.heap.size ≤ b0_2 := hb10 ▸ (Below.size hB)
  have ne_b0_0_b0_2 : b0_0 ≠ b0_2 := Nat.ne_of_lt (hb10 ▸ hm0_0.lt)
  have ne_b0_1_b0_2 : b0_1 ≠ b0_2 := Nat.ne_of_lt (hb10 ▸ hm0_1.lt)
  clear hb10
  replace hB := below_ext hB hE11 (Nat.le_refl _)
  replace hm0_0 := hE11.at hm0_0
  replace hm0_1 := hE11.at hm0_1
  clear hE11
  replace hm0_2 : At W9 b0_2 #[wv 0 0, wv 0 1, wv 0 2, wv 0 3] 51 := hm0_2
  refine WL_nil ?_
  refine hK2 _ _ ?_
  clear hK2 K1
  refine WC_seq (fun K12 hK13 => ?_)
  refine WC_region ?_
  refine WL_val (dd := some 5) rfl rfl rfl (r_loadW rfl tb_ag51 rfl hm0_0) ?_
  refine WL_val (dd := some 6) rfl rfl rfl (r_loadW rfl tb_ag51 rfl hm0_1) ?_
  refine WL_call (dd := some 7) rfl rfl rfl (r_call3 tb_c59 (v0 := .agg #[_, _, _, _]) rfl (v1 := .agg #[_, _, _, _]) rfl (v2 := .func (.func 61) #[] #[]) rfl) (C_set_both s t 61 (fun x y => x ||| y) _ tb_c61 (fun x y w hx hy => C_set_Or_1 x y w hx hy)) (fun v1_2 W14 hE15 hP1_2 => ?_)
  have hsz16 := (Below.size hB)
  replace hB := below_ext hB hE15 (Nat.le_refl _)
  replace hm0_0 := hE15.at hm0_0
  replace hm0_1 := hE15.at hm0_1
  replace hm0_2 := hE15.at hm0_2
  clear hE15
  rw [mixA_all (r := s ||| t) (fun j => wd_or s t j)] at hP1_2
  obtain rfl := hP1_2
  clear hsz16
  refine WL_step (dd := none) rfl rfl rfl (Y_storeW rfl rfl tb_ag51 rfl hm0_2 rfl (by rfl) (fun W17 hG18 hm19 => ?_))
  replace hB := below_grown hB hG18 (Nat.le_refl _) (fun j hj => by cases hj; exact lo_b0_2)
  replace hm0_0 := At.grownNe hm0_0 ne_b0_0_b0_2 hG18
  replace hm0_1 := At.grownNe hm0_1 ne_b0_1_b0_2 hG18
  clear hG18 hm0_2
  have hm0_2 := hm19
  clear hm19
  refine WL_nil ?_
  refine hK13 _ _ ?_
  clear hK13 K12
  refine WC_ret ?_
  repeat (first | refine thenQ_ret ?_ | refine blockQ_ret ?_)
  refine ret_c rfl tb_ag51 hm0_2 rfl ?_
  refine ⟨hB, ?_⟩
  rfl

theorem C_set_And_1 (x y : Nat) (w : World) (hx : x < 18446744073709551616) (hy : y < 18446744073709551616) :
    Fn Tryd.prog 60 #[.int .u64 (x : Int), .int .u64 (y : Int)] w fun v w' => v = .int .u64 ((x &&& y : Nat) : Int) := by
  refine Fn_intro (n := 8) Tryd.func60 rfl rfl (Nat.le_of_ble_eq_true rfl) ?_
  have hB : Below w.heap.size w w := Below.refl _ _
  refine WC_seq (fun K1 hK2 => ?_)
  refine WC_region ?_
  refine WL_val (dd := some 4) rfl rfl rfl (r_assign (v := .int .u64 0) rfl) ?_
  refine WL_nil ?_
  refine hK2 _ _ ?_
  clear hK2 K1
  refine WC_seq (fun K3 hK4 => ?_)
  refine WC_region ?_
  refine WL_val (dd := some 5) rfl rfl rfl (r_move (v := .int .u64 _) rfl) ?_
  refine WL_val (dd := some 6) rfl rfl rfl (r_move (v := .int .u64 _) rfl) ?_
  refine WL_val (dd := some 7) rfl rfl rfl (r_and (n := _) rfl rfl rfl (by first | assumption | (simp only [topN]; omega) | (simp only [topN]; decide)) (by first | assumption | (simp only [topN]; omega) | (simp only [topN]; decide))) ?_
  refine WL_val (dd := some 4) rfl rfl rfl (r_assign (v := .int .u64 _) rfl) ?_
  refine WL_nil ?_
  refine hK4 _ _ ?_
  clear hK4 K3
  refine WC_ret ?_
  repeat (first | refine thenQ_ret ?_ | refine blockQ_ret ?_)
  refine ret_t (v := .int .u64 _) rfl ?_
  refine ⟨hB, ?_⟩
  rfl

theorem C_set_And (s t : Nat) (w : World) :
    Fn Tryd.prog 36 #[setV s, setV t] w fun v w' => v = setV (s &&& t) := by
  refine Fn_intro (n := 8) Tryd.func36 rfl rfl (Nat.le_of_ble_eq_true rfl) ?_
  have hB : Below w.heap.size w w := Below.refl _ _
  refine WC_seq (fun K1 hK2 => ?_)
  refine WC_region ?_
  refine WL_step (dd := some 2) rfl rfl rfl (Y_box (c := #[_, _, _, _]) rfl rfl (fun b0_0 W3 hb4 hE5 hm0_0 => ?_))
  have lo_b0_0 : w.heap.size ≤ b0_0 := hb4 ▸ (Below.size hB)
  clear hb4
  replace hB := below_ext hB hE5 (Nat.le_refl _)
  clear hE5
  refine WL_step (dd := some 3) rfl rfl rfl (Y_box (c := #[_, _, _, _]) rfl rfl (fun b0_1 W6 hb7 hE8 hm0_1 => ?_))
  have lo_b0_1 : w.heap.size ≤ b0_1 := hb7 ▸ (Below.size hB)
  have ne_b0_0_b0_1 : b0_0 ≠ b0_1 := Nat.ne_of_lt (hb7 ▸ hm0_0.lt)
  clear hb7
  replace hB := below_ext hB hE8 (Nat.le_refl _)
  replace hm0_0 := hE8.at hm0_0
  clear hE8
  refine WL_step (dd := some 4) rfl rfl rfl (Y_alloc tb_z51 rfl (fun b0_2 W9 hb10 hE11 hm0_2 => ?_))
  have lo_b0_2 : w.heap.size ≤ b0_2 := hb10 ▸ (Below.size hB)
  have ne_b0_0_b0_2 : b0_0 ≠ b0_2 := Nat.ne_of_lt (hb10 ▸ hm0_0.lt)
  have ne_b0_1_b0_2 : b0_1 ≠ b0_2 := Nat.ne_of_lt (hb10 ▸ hm0_1.lt)
  clear hb10
  replace hB := below_ext hB hE11 (Nat.le_refl _)
  replace hm0_0 := hE11.at hm0_0
  replace hm0_1 := hE11.at hm0_1
  clear hE11
  replace hm0_2 : At W9 b0_2 #[wv 0 0, wv 0 1, wv 0 2, wv 0 3] 51 := hm0_2
  refine WL_nil ?_
  refine hK2 _ _ ?_
  clear hK2 K1
  refine WC_seq (fun K12 hK13 => ?_)
  refine WC_region ?_
  refine WL_val (dd := some 5) rfl rfl rfl (r_loadW rfl tb_ag51 rfl hm0_0) ?_
  refine WL_val (dd := some 6) rfl rfl rfl (r_loadW rfl tb_ag51 rfl hm0_1) ?_
  refine WL_call (dd := some 7) rfl rfl rfl (r_call3 tb_c59 (v0 := .agg #[_, _, _, _]) rfl (v1 := .agg #[_, _, _, _]) rfl (v2 := .func (.func 60) #[] #[]) rfl) (C_set_both s t 60 (fun x y => x &&& y) _ tb_c60 (fun x y w hx hy => C_set_And_1 x y w hx hy)) (fun v1_2 W14 hE15 hP1_2 => ?_)
  have hsz16 := (Below.size hB)
  replace hB := below_ext hB hE15 (Nat.le_refl _)
  replace hm0_0 := hE15.at hm0_0
  replace hm0_1 := hE15.at hm0_1
  replace hm0_2 := hE15.at hm0_2
  clear hE15
  rw [mixA_all (r := s &&& t) (fun j => wd_and s t j)] at hP1_2
  obtain rfl := hP1_2
  clear hsz16
  refine WL_step (dd := none) rfl rfl rfl (Y_storeW rfl rfl tb_ag51 rfl hm0_2 rfl (by rfl) (fun W17 hG18 hm19 => ?_))
  replace hB := below_grown hB hG18 (Nat.le_refl _) (fun j hj => by cases hj; exact lo_b0_2)
  replace hm0_0 := At.grownNe hm0_0 ne_b0_0_b0_2 hG18
  replace hm0_1 := At.grownNe hm0_1 ne_b0_1_b0_2 hG18
  clear hG18 hm0_2
  have hm0_2 := hm19
  clear hm19
  refine WL_nil ?_
  refine hK13 _ _ ?_
  clear hK13 K12
  refine WC_ret ?_
  repeat (first | refine thenQ_ret ?_ | refine blockQ_ret ?_)
  refine ret_c rfl tb_ag51 hm0_2 rfl ?_
  refine ⟨hB, ?_⟩
  rfl

theorem C_set_Less_1 (x y : Nat) (w : World) (hx : x < 18446744073709551616) (hy : y < 18446744073709551616) :
    Fn Tryd.prog 71 #[.int .u64 (x : Int), .int .u64 (y : Int)] w fun v w' => v = .int .u64 ((andNot x y : Nat) : Int) := by
  refine Fn_intro (n := 8) Tryd.func71 rfl rfl (Nat.le_of_ble_eq_true rfl) ?_
  have hB : Below w.heap.size w w := Below.refl _ _
  refine WC_seq (fun K1 hK2 => ?_)
  refine WC_region ?_
  refine WL_val (dd := some 4) rfl rfl rfl (r_assign (v := .int .u64 0) rfl) ?_
  refine WL_nil ?_
  refine hK2 _ _ ?_
  clear hK2 K1
  refine WC_seq (fun K3 hK4 => ?_)
  refine WC_region ?_
  refine WL_val (dd := some 5) rfl rfl rfl (r_move (v := .int .u64 _) rfl) ?_
  refine WL_val (dd := some 6) rfl rfl rfl (r_move (v := .int .u64 _) rfl) ?_
  refine WL_val (dd := some 7) rfl rfl rfl (r_andNot (n := _) rfl rfl rfl (by first | assumption | (simp only [topN]; omega) | (simp only [topN]; decide)) (by first | assumption | (simp only [topN]; omega) | (simp only [topN]; decide))) ?_
  refine WL_val (dd := some 4) rfl rfl rfl (r_assign (v := .int .u64 _) rfl) ?_
  refine WL_nil ?_
  refine hK4 _ _ ?_
  clear hK4 K3
  refine WC_ret ?_
  repeat (first | refine thenQ_ret ?_ | refine blockQ_ret ?_)
  refine ret_t (v := .int .u64 _) rfl ?_
  refine ⟨hB, ?_⟩
  rfl

theorem C_set_Less (s t : Nat) (w : World) :
    Fn Tryd.prog 56 #[setV s, setV t] w fun v w' => v = setV (andNot s t) := by
  refine Fn_intro (n := 8) Tryd.func56 rfl rfl (Nat.le_of_ble_eq_true rfl) ?_
  have hB : Below w.heap.size w w := Below.refl _ _
  refine WC_seq (fun K1 hK2 => ?_)
  refine WC_region ?_
  refine WL_step (dd := some 2) rfl rfl rfl (Y_box (c := #[_, _, _, _]) rfl rfl (fun b0_0 W3 hb4 hE5 hm0_0 => ?_))
  have lo_b0_0 : w.heap.size ≤ b0_0 := hb4 ▸ (Below.size hB)
  clear hb4
  replace hB := below_ext hB hE5 (Nat.le_refl _)
  clear hE5
  refine WL_step (dd := some 3) rfl rfl rfl (Y_box (c := #[_, _, _, _]) rfl rfl (fun b0_1 W6 hb7 hE8 hm0_1 => ?_))
  have lo_b0_1 : w.heap.size ≤ b0_1 := hb7 ▸ (Below.size hB)
  have ne_b0_0_b0_1 : b0_0 ≠ b0_1 := Nat.ne_of_lt (hb7 ▸ hm0_0.lt)
  clear hb7
  replace hB := below_ext hB hE8 (Nat.le_refl _)
  replace hm0_0 := hE8.at hm0_0
  clear hE8
  refine WL_step (dd := some 4) rfl rfl rfl (Y_alloc tb_z51 rfl (fun b0_2 W9 hb10 hE11 hm0_2 => ?_))
  have lo_b0_2 : w.heap.size ≤ b0_2 := hb10 ▸ (Below.size hB)
  have ne_b0_0_b0_2 : b0_0 ≠ b0_2 := Nat.ne_of_lt (hb10 ▸ hm0_0.lt)
  have ne_b0_1_b0_2 : b0_1 ≠ b0_2 := Nat.ne_of_lt (hb10 ▸ hm0_1.lt)
  clear hb10
  replace hB := below_ext hB hE11 (Nat.le_refl _)
  replace hm0_0 := hE11.at hm0_0
  replace hm0_1 := hE11.at hm0_1
  clear hE11
  replace hm0_2 : At W9 b0_2 #[wv 0 0, wv 0 1, wv 0 2, wv 0 3] 51 := hm0_2
  refine WL_nil ?_
  refine hK2 _ _ ?_
  clear hK2 K1
  refine WC_seq (fun K12 hK13 => ?_)
  refine WC_region ?_
  refine WL_val (dd := some 5) rfl rfl rfl (r_loadW rfl tb_ag51 rfl hm0_0) ?_
  refine WL_val (dd := some 6) rfl rfl rfl (r_loadW rfl tb_ag51 rfl hm0_1) ?_
  refine WL_call (dd := some 7) rfl rfl rfl (r_call3 tb_c59 (v0 := .agg #[_, _, _, _]) rfl (v1 := .agg #[_, _, _, _]) rfl (v2 := .func (.func 71) #[] #[]) rfl) (C_set_both s t 71 (fun x y => andNot x y) _ tb_c71 (fun x y w hx hy => C_set_Less_1 x y w hx hy)) (fun v1_2 W14 hE15 hP1_2 => ?_)
  have hsz16 := (Below.size hB)
  replace hB := below_ext hB hE15 (Nat.le_refl _)
  replace hm0_0 := hE15.at hm0_0
  replace hm0_1 := hE15.at hm0_1
  replace hm0_2 := hE15.at hm0_2
  clear hE15
  rw [mixA_all (r := andNot s t) (fun j => wd_andNot s t j)] at hP1_2
  obtain rfl := hP1_2
  clear hsz16
  refine WL_step (dd := none) rfl rfl rfl (Y_storeW rfl rfl tb_ag51 rfl hm0_2 rfl (by rfl) (fun W17 hG18 hm19 => ?_))
  replace hB := below_grown hB hG18 (Nat.le_refl _) (fun j hj => by cases hj; exact lo_b0_2)
  replace hm0_0 := At.grownNe hm0_0 ne_b0_0_b0_2 hG18
  replace hm0_1 := At.grownNe hm0_1 ne_b0_1_b0_2 hG18
  clear hG18 hm0_2
  have hm0_2 := hm19
  clear hm19
  refine WL_nil ?_
  refine hK13 _ _ ?_
  clear hK13 K12
  refine WC_ret ?_
  repeat (first | refine thenQ_ret ?_ | refine blockQ_ret ?_)
  refine ret_c rfl tb_ag51 hm0_2 rfl ?_
  refine ⟨hB, ?_⟩
  rfl

theorem C_set_Within (s t : Nat) (w : World) :
    Fn Tryd.prog 38 #[setV s, setV t] w fun v w' => v = .bool (withinB s t) := by
  refine Fn_intro (n := 10) Tryd.func38 rfl rfl (Nat.le_of_ble_eq_true rfl) ?_
  have hB : Below w.heap.size w w := Below.refl _ _
  refine WC_seq (fun K1 hK2 => ?_)
  refine WC_region ?_
  refine WL_step (dd := some 2) rfl rfl rfl (Y_box (c := #[_, _, _, _]) rfl rfl (fun b0_0 W3 hb4 hE5 hm0_0 => ?_))
  have lo_b0_0 : w.heap.size ≤ b0_0 := hb4 ▸ (Below.size hB)
  clear hb4
  replace hB := below_ext hB hE5 (Nat.le_refl _)
  clear hE5
  refine WL_step (dd := some 3) rfl rfl rfl (Y_box (c := #[_, _, _, _]) rfl rfl (fun b0_1 W6 hb7 hE8 hm0_1 => ?_))
  have lo_b0_1 : w.heap.size ≤ b0_1 := hb7 ▸ (Below.size hB)
  have ne_b0_0_b0_1 : b0_0 ≠ b0_1 := Nat.ne_of_lt (hb7 ▸ hm0_0.lt)
  clear hb7
  replace hB := below_ext hB hE8 (Nat.le_refl _)
  replace hm0_0 := hE8.at hm0_0
  clear hE8
  refine WL_val (dd := some 4) rfl rfl rfl (r_assign (v := .bool false) rfl) ?_
  refine WL_nil ?_
  refine hK2 _ _ ?_
  clear hK2 K1
  refine WC_seq (fun K9 hK10 => ?_)
  refine WC_region ?_
  refine WL_val (dd := some 5) rfl rfl rfl (r_loadW rfl tb_ag51 rfl hm0_0) ?_
  refine WL_val (dd := some 6) rfl rfl rfl (r_loadW rfl tb_ag51 rfl hm0_1) ?_
  refine WL_call (dd := some 7) rfl rfl rfl (r_call2 tb_c56 (v0 := .agg #[_, _, _, _]) rfl (v1 := .agg #[_, _, _, _]) rfl) (C_set_Less _ _ _) (fun v1_2 W11 hE12 hP1_2 => ?_)
  have hsz13 := (Below.size hB)
  replace hB := below_ext hB hE12 (Nat.le_refl _)
  replace hm0_0 := hE12.at hm0_0
  replace hm0_1 := hE12.at hm0_1
  clear hE12
  clear hsz13
  obtain rfl := hP1_2
  refine WL_val (dd := some 8) (v := setV 0) rfl rfl rfl (tb_build51_ ) ?_
  refine WL_val (dd := some 9) rfl rfl rfl (tb_eq51 rfl rfl) ?_
  refine WL_val (dd := some 4) rfl rfl rfl (r_assign (v := .bool _) rfl) ?_
  refine WL_nil ?_
  refine hK10 _ _ ?_
  clear hK10 K9
  refine WC_ret ?_
  repeat (first | refine thenQ_ret ?_ | refine blockQ_ret ?_)
  refine ret_t (v := .bool _) rfl ?_
  refine ⟨hB, ?_⟩
  simp [withinB, wd_zero]

theorem C_set_All (n : Int) (w : World) :
    Fn Tryd.prog 21 #[.int .i64 n] w fun v w' => v = if 0 ≤ n ∧ n ≤ 8 then .tuple #[setV (allS n.toNat), .int .i64 0] else .tuple #[setV 0, .int .i64 1] := by
  refine Fn_intro (n := 23) Tryd.func21 rfl rfl (Nat.le_of_ble_eq_true rfl) ?_
  have hB : Below w.heap.size w w := Below.refl _ _
  refine WC_seq (fun K1 hK2 => ?_)
  refine WC_region ?_
  refine WL_step (dd := some 2) rfl rfl rfl (Y_alloc tb_z51 rfl (fun b0_0 W3 hb4 hE5 hm0_0 => ?_))
  have lo_b0_0 : w.heap.size ≤ b0_0 := hb4 ▸ (Below.size hB)
  clear hb4
  replace hB := below_ext hB hE5 (Nat.le_refl _)
  clear hE5
  replace hm0_0 : At W3 b0_0 #[wv 0 0, wv 0 1, wv 0 2, wv 0 3] 51 := hm0_0
  refine WL_val (dd := some 3) rfl rfl rfl (r_assign (v := .int .i64 0) rfl) ?_
  refine WL_nil ?_
  refine hK2 _ _ ?_
  clear hK2 K1
  refine WC_seq (fun K6 hK7 => ?_)
  refine WC_seq (fun K8 hK9 => ?_)
  refine WC_region ?_
  refine WL_val (dd := some 6) rfl rfl rfl (r_move (v := .int .i64 _) rfl) ?_
  refine WL_val (dd := some 7) rfl rfl rfl (r_lss rfl rfl) ?_
  refine WL_split (dd := some 8) rfl rfl rfl (r_move (v := .bool _) rfl) (fun hs1_2 => ?_) (fun hs1_2 => ?_)
  ·
    try with_reducible replace hs1_2 := dec_t hs1_2
    refine WL_skip (dd := some 9) rfl rfl rfl ?_
    refine WL_skip (dd := some 10) rfl rfl rfl ?_
    refine WL_val (dd := some 11) rfl rfl rfl (r_pick_t rfl (v := .bool true) rfl) ?_
    refine WL_nil ?_
    refine hK9 _ _ ?_
    clear hK9 K8
    refine WC_cond_true rfl ?_
    refine WC_seq (fun K10 hK11 => ?_)
    refine WC_region ?_
    refine WL_val (dd := some 12) (v := setV 0) rfl rfl rfl (tb_build51_ ) ?_
    refine WL_step (dd := none) rfl rfl rfl (Y_storeW rfl rfl tb_ag51 rfl hm0_0 rfl (by rfl) (fun W12 hG13 hm14 => ?_))
    replace hB := below_grown hB hG13 (Nat.le_refl _) (fun j hj => by cases hj; exact lo_b0_0)
    clear hG13 hm0_0
    have hm0_0 := hm14
    clear hm14
    refine WL_val (dd := some 3) rfl rfl rfl (r_assign (v := .int .i64 1) rfl) ?_
    refine WL_nil ?_
    refine hK11 _ _ ?_
    clear hK11 K10
    refine WC_ret ?_
    repeat (first | refine thenQ_ret ?_ | refine blockQ_ret ?_)
    try clear hK7 K6
    refine ret_ct rfl tb_ag51 hm0_0 rfl (v1 := .int .i64 1) rfl ?_
    refine ⟨hB, ?_⟩
    rw [if_neg (by omega)]
  ·
    try with_reducible replace hs1_2 := dec_f hs1_2
    refine WL_val (dd := some 9) rfl rfl rfl (r_move (v := .int .i64 _) rfl) ?_
    refine WL_val (dd := some 10) rfl rfl rfl (r_gtr rfl rfl) ?_
    refine WL_val (dd := some 11) rfl rfl rfl (r_pick_f rfl (v := .bool _) rfl) ?_
    refine WL_nil ?_
    refine hK9 _ _ ?_
    clear hK9 K8
    refine WC_cond (b := _) rfl (fun hc0 => ?_) (fun hc0 => ?_)
    ·
      try with_reducible replace hc0 := dec_t hc0
      refine WC_seq (fun K15 hK16 => ?_)
      refine WC_region ?_
      refine WL_val (dd := some 12) (v := setV 0) rfl rfl rfl (tb_build51_ ) ?_
      refine WL_step (dd := none) rfl rfl rfl (Y_storeW rfl rfl tb_ag51 rfl hm0_0 rfl (by rfl) (fun W17 hG18 hm19 => ?_))
      replace hB := below_grown hB hG18 (Nat.le_refl _) (fun j hj => by cases hj; exact lo_b0_0)
      clear hG18 hm0_0
      have hm0_0 := hm19
      clear hm19
      refine WL_val (dd := some 3) rfl rfl rfl (r_assign (v := .int .i64 1) rfl) ?_
      refine WL_nil ?_
      refine hK16 _ _ ?_
      clear hK16 K15
      refine WC_ret ?_
      repeat (first | refine thenQ_ret ?_ | refine blockQ_ret ?_)
      try clear hK7 K6
      refine ret_ct rfl tb_ag51 hm0_0 rfl (v1 := .int .i64 1) rfl ?_
      refine ⟨hB, ?_⟩
      rw [if_neg (by omega)]
    ·
      try with_reducible replace hc0 := dec_f hc0
      refine WC_skip ?_
      refine hK7 _ _ ?_
      clear hK7 K6
      refine WC_seq (fun K20 hK21 => ?_)
      have hn : 0 ≤ n ∧ n ≤ 8 := by omega
      refine WC_region ?_
      refine WL_step (dd := some 4) rfl rfl rfl (Y_alloc tb_z51 rfl (fun b3_0 W22 hb23 hE24 hm3_0 => ?_))
      have lo_b3_0 : w.heap.size ≤ b3_0 := hb23 ▸ (Below.size hB)
      have ne_b0_0_b3_0 : b0_0 ≠ b3_0 := Nat.ne_of_lt (hb23 ▸ hm0_0.lt)
      clear hb23
      replace hB := below_ext hB hE24 (Nat.le_refl _)
      replace hm0_0 := hE24.at hm0_0
      clear hE24
      replace hm3_0 : At W22 b3_0 #[wv 0 0, wv 0 1, wv 0 2, wv 0 3] 51 := hm3_0
      refine WL_nil ?_
      refine hK21 _ _ ?_
      clear hK21 K20
      refine WC_seq (fun K25 hK26 => ?_)
      refine WC_seq (fun K27 hK28 => ?_)
      have hp := two_pow_le hn.2
      refine WC_region ?_
      refine WL_val (dd := some 13) rfl rfl rfl (r_move (v := .int .i64 _) rfl) ?_
      refine WL_val (dd := some 14) rfl rfl rfl (r_shl (m := 1) rfl rfl (by omega) (by simp only [IntKind.bits]; omega) (by exact shl1 _ _ (by simp only [bitsN]; omega))) ?_
      refine WL_val (dd := some 15) rfl rfl rfl (r_move (v := .int .i64 0) rfl) ?_
      refine WL_nil ?_
      refine hK28 _ _ ?_
      clear hK28 K27
      refine WC_block ?_
      refine WC_loop (σ := (Nat)) [5, 15, 16, 17, 18, 19, 20, 21] (fun k => [(15, .int .i64 (k : Int))]) (fun k W => (Below w.heap.size w W) ∧ (At W b0_0 _ 51) ∧ (At W b3_0 #[wv (firstS k) 0, wv (firstS k) 1, wv (firstS k) 2, wv (firstS k) 3] 51) ∧ (k ≤ 2 ^ n.toNat) ∧ (True)) (fun k => 2 ^ n.toNat - k) (0) ⟨rfl, trivial⟩ ⟨hB, hm0_0, hm3_0, (Nat.zero_le _), trivial⟩ ?_
      clear hB hm0_0 hm3_0
      rintro k g30 W29 ⟨hB, hm0_0, hm3_0, hk, _⟩ J31 hJ32
      refine WC_seq (fun K33 hK34 => ?_)
      refine WC_region ?_
      refine WL_val (dd := some 16) rfl rfl rfl (r_lss rfl rfl) ?_
      refine WL_nil ?_
      refine hK34 _ _ ?_
      clear hK34 K33
      refine WC_seq (fun K35 hK36 => ?_)
      refine WC_cond (b := _) rfl (fun hc1 => ?_) (fun hc1 => ?_)
      ·
        try with_reducible replace hc1 := dec_t hc1
        refine WC_skip ?_
        refine hK36 _ _ ?_
        clear hK36 K35
        refine WC_seq (fun K37 hK38 => ?_)
        refine WC_block ?_
        refine WC_seq (fun K39 hK40 => ?_)
        refine WC_region ?_
        refine WL_val (dd := some 17) rfl rfl rfl (r_move (v := .int .i64 _) rfl) ?_
        refine WL_val (dd := some 5) rfl rfl rfl (r_assign (v := .int .i64 _) rfl) ?_
        refine WL_nil ?_
        refine hK40 _ _ ?_
        clear hK40 K39
        refine WC_region ?_
        refine WL_val (dd := some 18) rfl rfl rfl (r_loadW rfl tb_ag51 rfl hm3_0) ?_
        refine WL_val (dd := some 19) rfl rfl rfl (r_move (v := .int .i64 _) rfl) ?_
        refine WL_call (dd := some 20) rfl rfl rfl (r_call2 tb_c43 (v0 := .agg #[_, _, _, _]) rfl (v1 := .int .i64 _) rfl) (C_set_With _ _ _) (fun v7_2 W41 hE42 hP7_2 => ?_)
        have hsz43 := (Below.size hB)
        replace hB := below_ext hB hE42 (Nat.le_refl _)
        replace hm0_0 := hE42.at hm0_0
        replace hm3_0 := hE42.at hm3_0
        clear hE42
        clear hsz43
        obtain rfl := hP7_2
        rw [withS_firstS (by simp only [Nat.one_mul] at hc1; omega)]
        refine WL_step (dd := none) rfl rfl rfl (Y_storeW rfl rfl tb_ag51 rfl hm3_0 rfl (by rfl) (fun W44 hG45 hm46 => ?_))
        replace hB := below_grown hB hG45 (Nat.le_refl _) (fun j hj => by cases hj; exact lo_b3_0)
        replace hm0_0 := At.grownNe hm0_0 ne_b0_0_b3_0 hG45
        clear hG45 hm3_0
        have hm3_0 := hm46
        clear hm46
        refine WL_nil ?_
        refine hK38 _ _ ?_
        clear hK38 K37
        refine WC_region ?_
        refine WL_val (dd := some 21) rfl rfl rfl (r_addI rfl rfl (by omega) (by omega)) ?_
        refine WL_val (dd := some 15) rfl rfl rfl (r_move (v := .int .i64 _) rfl) ?_
        refine WL_nil ?_
        refine hJ32 _ _ (k + 1) ?_ ?_ ?_ ?_
        · repeat (first | exact agree.mask _ _ _ | refine agree.updo ?_ rfl _ | refine agree.updL ?_ _ rfl | refine agree.maskS rfl ?_)
        · exact ⟨rfl, trivial⟩
        · exact ⟨hB, hm0_0, hm3_0, (by simp only [Nat.one_mul] at hc1; omega), trivial⟩
        · simp only [Nat.one_mul] at hc1; omega
      ·
        try with_reducible replace hc1 := dec_f hc1
        refine WC_exit ?_
        refine hK26 _ _ ?_
        clear hK36 K35
        clear hJ32 J31
        clear hK26 K25
        refine WC_seq (fun K47 hK48 => ?_)
        refine WC_region ?_
        refine WL_val (dd := some 22) rfl rfl rfl (r_loadW rfl tb_ag51 rfl hm3_0) ?_
        refine WL_step (dd := none) rfl rfl rfl (Y_storeW rfl rfl tb_ag51 rfl hm0_0 rfl (by rfl) (fun W49 hG50 hm51 => ?_))
        replace hB := below_grown hB hG50 (Nat.le_refl _) (fun j hj => by cases hj; exact lo_b0_0)
        replace hm3_0 := At.grownNe hm3_0 (Ne.symm ne_b0_0_b3_0) hG50
        clear hG50 hm0_0
        have hm0_0 := hm51
        clear hm51
        refine WL_val (dd := some 3) rfl rfl rfl (r_assign (v := .int .i64 0) rfl) ?_
        refine WL_nil ?_
        refine hK48 _ _ ?_
        clear hK48 K47
        refine WC_ret ?_
        repeat (first | refine thenQ_ret ?_ | refine blockQ_ret ?_)
        refine ret_ct rfl tb_ag51 hm0_0 rfl (v1 := .int .i64 0) rfl ?_
        refine ⟨hB, ?_⟩
        obtain rfl : k = 2 ^ n.toNat := by simp only [Nat.one_mul] at hc1; omega
        rw [if_pos hn]; rfl

end Go.Proofs.YtnkaebjaeaecmaaDoor
