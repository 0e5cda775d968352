/-
  The walks of package set.
-/
import Derived.Test.YtpamgfbecgjjeaaProg
import Derived.Test.YtpamgfbecgjjeaaFrame
namespace Go.Proofs.Ytpamgfbecgjjeaa
set_option linter.unusedVariables false
set_option linter.unusedSimpArgs false
open Go Go.RowKit

theorem tb_mix : Try.prog.follows .mixedOrders = true := by kernel_rfl
theorem tb_c142 : callB Try.prog 142 = true := by kernel_rfl
theorem tb_c143 : callB Try.prog 143 = true := by kernel_rfl
theorem tb_ar69 : arrI Try.prog 69 = some (4, 1) := by kernel_rfl
theorem tb_sc67 : scalarB Try.prog 67 = true := by kernel_rfl
theorem tb_z69 : zeroI Try.prog 69 = some (.agg #[.int .u64 0, .int .u64 0, .int .u64 0, .int .u64 0]) := by kernel_rfl
theorem tb_ag69 : aggN Try.prog 69 = some 4 := by kernel_rfl
theorem tb_c138 : callB Try.prog 138 = true := by kernel_rfl
theorem tb_c137 : callB Try.prog 137 = true := by kernel_rfl
theorem tb_c144 : callB Try.prog 144 = true := by kernel_rfl
theorem tb_c130 : callB Try.prog 130 = true := by kernel_rfl
theorem tb_size67 : (Try.prog.info? 67).map (·.size) = some 1 := by kernel_rfl
theorem tb_build69_ {f : Nat → Value} {w : World} {d : Option Nat} {ty : TypeId} {ps : String} {af : Array Edge} {g : Option (Nat × Bool)}    :
    (execOp (evF f) ⟨d, .build 69 #[], ty, ps, af, g⟩).run Try.prog w = .ok (.value (.agg #[.int .u64 0, .int .u64 0, .int .u64 0, .int .u64 0])) w := by
  obtain ⟨i0, hi0, hz0⟩ := Option.bind_eq_some_iff.1 (show (Try.prog.info? 69).bind (·.zero) = _ from tb_z69)
  obtain ⟨j67, hj67, hs67⟩ := Option.map_eq_some_iff.1 tb_size67
  simp [execOp, Instr.build, zeroValue, typeInfo, sizeOf, hi0, hz0, run_underlying Try.underlying69, Instr.fill, cells_agg, hj67, hs67]
theorem tb_eq69 {f : Nat → Value} {w : World} {d : Option Nat} {ty t2 : TypeId} {ps : String} {af : Array Edge} {g : Option (Nat × Bool)} {x y : Operand} {a0 a1 a2 a3 b0 b1 b2 b3 : Int} (hx : evF f x = .agg #[.int .u64 a0, .int .u64 a1, .int .u64 a2, .int .u64 a3]) (hy : evF f y = .agg #[.int .u64 b0, .int .u64 b1, .int .u64 b2, .int .u64 b3]) :
    (execOp (evF f) ⟨d, .binOp .eql 69 x y t2, ty, ps, af, g⟩).run Try.prog w = .ok (.value (.bool (decide ((a0 = b0 ∧ a1 = b1 ∧ a2 = b2 ∧ a3 = b3))))) w := by
  have hg : Try.prog.eqGuardType Try.prog.depth 69 = false := by kernel_rfl
  have ha := run_equalIn_arr (P := Try.prog) w 9999 4 69 67 #[.int .u64 a0, .int .u64 a1, .int .u64 a2, .int .u64 a3] #[.int .u64 b0, .int .u64 b1, .int .u64 b2, .int .u64 b3]
    (fun i => .int .u64 ([a0, a1, a2, a3].getD i 0)) (fun i => .int .u64 ([b0, b1, b2, b3].getD i 0)) (fun i => [a0, a1, a2, a3].getD i 0 == [b0, b1, b2, b3].getD i 0) Try.underlying69 (by kernel_rfl) (by simp [isAgg, run_underlying Try.underlying67])
    (fun i hi => by
      have : i = 0 ∨ i = 1 ∨ i = 2 ∨ i = 3 := by omega
      rcases this with rfl | rfl | rfl | rfl <;> rfl)
    (fun i hi => by
      have : i = 0 ∨ i = 1 ∨ i = 2 ∨ i = 3 := by omega
      rcases this with rfl | rfl | rfl | rfl <;> rfl)
    (fun i hi => run_equalIn_int w 9998 67 .u64 .u64 _ _ Try.underlying67)
  simp only [execOp, hx, hy, Sem.run_bind, run_eqGuard_agg _ _ _ _ _ _ _ hg, Result.andThen_ok, run_eql_struct, ha]
  simp [List.range, List.range.loop]
  by_cases q0 : a0 = b0 <;> by_cases q1 : a1 = b1 <;> by_cases q2 : a2 = b2 <;> by_cases q3 : a3 = b3 <;> simp [q0, q1, q2, q3]
theorem tb_c129 : callB Try.prog 129 = true := by kernel_rfl
theorem tb_c134 : callB Try.prog 134 = true := by kernel_rfl
theorem tb_el22 : elemI Try.prog 22 = some (3, 1, 8) := by kernel_rfl
theorem tb_zs3 : (zeroI Try.prog 3).map (fun z => z.cells.size) = some 1 := by kernel_rfl
theorem tb_c108 : callB Try.prog 108 = true := by kernel_rfl
theorem tb_sc3 : scalarB Try.prog 3 = true := by kernel_rfl

theorem C_set_may (p : Int) (w : World) :
    Fn Try.prog 142 #[.int .i64 p] w fun v w' => v = .bool (mayB p) := by
 refine Fn_intro (n := 9) Try.func142 rfl rfl (Nat.le_of_ble_eq_true rfl) ?_
 have hB : Below w.heap.size w w := Below.refl _ _
 refine WC_seq (fun K1 hK2 => ?_)
 refine WC_region ?_
 refine WL_val (dd := some 2) rfl rfl rfl (r_assign (v := .bool false) rfl) ?_
 refine WL_nil ?_
 refine hK2 _ _ ?_
 clear hK2 K1
 refine WC_seq (fun K3 hK4 => ?_)
 refine WC_region ?_
 refine WL_val (dd := some 3) rfl rfl rfl (r_move (v := .int .i64 _) rfl) ?_
 refine WL_val (dd := some 4) rfl rfl rfl (r_geq rfl rfl) ?_
 refine WL_split (dd := some 5) rfl rfl rfl (r_move (v := .bool _) rfl) (fun hs1_2 => ?_) (fun hs1_2 => ?_)
 ·
  try with_reducible replace hs1_2 := of_decide_eq_true hs1_2
  refine WL_val (dd := some 6) rfl rfl rfl (r_move (v := .int .i64 _) rfl) ?_
  refine WL_val (dd := some 7) rfl rfl rfl (r_lss rfl rfl) ?_
  refine WL_val (dd := some 8) rfl rfl rfl (r_pick_t rfl (v := .bool _) rfl) ?_
  refine WL_val (dd := some 2) rfl rfl rfl (r_assign (v := .bool _) rfl) ?_
  refine WL_nil ?_
  refine hK4 _ _ ?_
  clear hK4 K3
  refine WC_ret ?_
  repeat (first | refine thenQ_ret ?_ | refine blockQ_ret ?_)
  refine ret_t (v := .bool _) rfl ?_
  refine ⟨hB, ?_⟩
  simp [mayB]; omega
 ·
  try with_reducible replace hs1_2 := of_decide_eq_false hs1_2
  refine WL_skip (dd := some 6) rfl rfl rfl ?_
  refine WL_skip (dd := some 7) rfl rfl rfl ?_
  refine WL_val (dd := some 8) rfl rfl rfl (r_pick_f rfl (v := .bool false) rfl) ?_
  refine WL_val (dd := some 2) rfl rfl rfl (r_assign (v := .bool false) rfl) ?_
  refine WL_nil ?_
  refine hK4 _ _ ?_
  clear hK4 K3
  refine WC_ret ?_
  repeat (first | refine thenQ_ret ?_ | refine blockQ_ret ?_)
  refine ret_t (v := .bool false) rfl ?_
  refine ⟨hB, ?_⟩
  simp [mayB]; omega

theorem C_set_at (p : Int) (w : World) (h0 : 0 ≤ p) (h1 : p < 256) :
    Fn Try.prog 143 #[.int .i64 p] w fun v w' => v = .tuple #[.int .i64 ((p.toNat / 64 : Nat) : Int), .int .u64 ((2 ^ (p.toNat % 64) : Nat) : Int)] := by
 refine Fn_intro (n := 9) Try.func143 rfl rfl (Nat.le_of_ble_eq_true rfl) ?_
 have hB : Below w.heap.size w w := Below.refl _ _
 obtain ⟨q, rfl⟩ := Int.eq_ofNat_of_zero_le h0
 have hq : q < 256 := by omega
 refine WC_seq (fun K1 hK2 => ?_)
 refine WC_region ?_
 refine WL_val (dd := some 2) rfl rfl rfl (r_assign (v := .int .i64 0) rfl) ?_
 refine WL_val (dd := some 3) rfl rfl rfl (r_assign (v := .int .u64 0) rfl) ?_
 refine WL_nil ?_
 refine hK2 _ _ ?_
 clear hK2 K1
 refine WC_seq (fun K3 hK4 => ?_)
 refine WC_draw Ext tb_mix (fun W5 hE6 => ?_)
 replace hB := below_ext hB hE6 (Nat.le_refl _)
 have hS := Ext.refl W5
 refine WT_take (dd := some 4) 0 rfl (by kernel_rfl) (by kernel_rfl) (by kernel_rfl) rfl rfl rfl (fun _wq _hq => r_move (v := .int .i64 _) rfl) hS ?_
 refine WT_take (dd := some 5) 1 rfl (by kernel_rfl) (by kernel_rfl) (by kernel_rfl) rfl rfl rfl (fun _wq _hq => r_quoN (n := 64) rfl rfl rfl (by omega) (by first | assumption | (simp only [topN]; omega) | (simp only [topN]; decide))) hS ?_
 refine WT_take (dd := some 6) 2 rfl (by kernel_rfl) (by kernel_rfl) (by kernel_rfl) rfl rfl rfl (fun _wq _hq => r_move (v := .int .i64 _) rfl) hS ?_
 refine WT_take (dd := some 7) 3 rfl (by kernel_rfl) (by kernel_rfl) (by kernel_rfl) rfl rfl rfl (fun _wq _hq => r_remN (n := 64) rfl rfl rfl (by omega)) hS ?_
 refine WT_take (dd := some 8) 4 rfl (by kernel_rfl) (by kernel_rfl) (by kernel_rfl) rfl rfl rfl (fun _wq _hq => r_shl (m := 1) rfl rfl (by omega) (by simp only [IntKind.bits]; omega) (by exact shl1 _ _ (by simp only [bitsN]; omega))) hS ?_
 refine WT_take (dd := some 2) 5 rfl (by kernel_rfl) (by kernel_rfl) (by kernel_rfl) rfl rfl rfl (fun _wq _hq => r_assign (v := .int .i64 _) rfl) hS ?_
 refine WT_take (dd := some 3) 6 rfl (by kernel_rfl) (by kernel_rfl) (by kernel_rfl) rfl rfl rfl (fun _wq _hq => r_assign (v := .int .u64 _) rfl) hS ?_
 refine WT_done (by kernel_rfl) ?_
 refine hK4 _ _ ?_
 clear hK4 K3
 refine WC_ret ?_
 repeat (first | refine thenQ_ret ?_ | refine blockQ_ret ?_)
 refine ret_tt (v := .int .i64 _) rfl (v1 := .int .u64 _) rfl ?_
 refine ⟨hB, ?_⟩
 have e : ((q : Int) % 64).toNat = q % 64 := by omega
 simp [e]

theorem C_set_Has (s : Nat) (p : Int) (w : World) :
    Fn Try.prog 134 #[setV s, .int .i64 p] w fun v w' => v = .bool (hasB s p) := by
 refine Fn_intro (n := 21) Try.func134 rfl rfl (Nat.le_of_ble_eq_true rfl) ?_
 have hB : Below w.heap.size w w := Below.refl _ _
 refine WC_seq (fun K1 hK2 => ?_)
 refine WC_region ?_
 refine WL_step (dd := some 2) rfl rfl rfl (Y_box (c := #[_, _, _, _]) rfl rfl (fun b0_0 W3 hb4 hE5 hm0_0 => ?_))
 have lo_b0_0 : w.heap.size ≤ b0_0 := hb4 ▸ (Below.size hB)
 clear hb4
 replace hB := below_ext hB hE5 (Nat.le_refl _)
 clear hE5
 refine WL_val (dd := some 4) rfl rfl rfl (r_assign (v := .bool false) rfl) ?_
 refine WL_nil ?_
 refine hK2 _ _ ?_
 clear hK2 K1
 refine WC_seq (fun K6 hK7 => ?_)
 refine WC_seq (fun K8 hK9 => ?_)
 refine WC_region ?_
 refine WL_val (dd := some 7) rfl rfl rfl (r_move (v := .int .i64 _) rfl) ?_
 refine WL_call (dd := some 8) rfl rfl rfl (r_call1 tb_c142 (v0 := .int .i64 _) rfl) (C_set_may _ _) (fun v1_1 W10 hE11 hP1_1 => ?_)
 have hsz12 := (Below.size hB)
 replace hB := below_ext hB hE11 (Nat.le_refl _)
 replace hm0_0 := hE11.at hm0_0
 clear hE11
 clear hsz12
 obtain rfl := hP1_1
 refine WL_val (dd := some 9) rfl rfl rfl (r_not rfl) ?_
 refine WL_nil ?_
 refine hK9 _ _ ?_
 clear hK9 K8
 refine WC_cond (b := _) rfl (fun hc0 => ?_) (fun hc0 => ?_)
 ·
  try with_reducible replace hc0 := of_decide_eq_true hc0
  refine WC_seq (fun K13 hK14 => ?_)
  refine WC_region ?_
  refine WL_val (dd := some 4) rfl rfl rfl (r_assign (v := .bool false) rfl) ?_
  refine WL_nil ?_
  refine hK14 _ _ ?_
  clear hK14 K13
  refine WC_ret ?_
  repeat (first | refine thenQ_ret ?_ | refine blockQ_ret ?_)
  try clear hK7 K6
  refine ret_t (v := .bool false) rfl ?_
  refine ⟨hB, ?_⟩
  first | exact congrArg Value.bool (hasB_word hq) | (simp at hc0; simp [hasB, hc0])
 ·
  try with_reducible replace hc0 := of_decide_eq_false hc0
  refine WC_skip ?_
  refine hK7 _ _ ?_
  clear hK7 K6
  refine WC_seq (fun K15 hK16 => ?_)
  refine WC_region ?_
  refine WL_val (dd := some 11) rfl rfl rfl (r_move (v := .int .i64 _) rfl) ?_
  refine WL_call (dd := some 12) rfl rfl rfl (r_call1 tb_c143 (v0 := .int .i64 _) rfl) (C_set_at _ _ (by simp [mayB] at hc0; omega) (by simp [mayB] at hc0; omega)) (fun v3_1 W17 hE18 hP3_1 => ?_)
  have hsz19 := (Below.size hB)
  replace hB := below_ext hB hE18 (Nat.le_refl _)
  replace hm0_0 := hE18.at hm0_0
  clear hE18
  obtain rfl := hP3_1
  clear hsz19
  obtain ⟨q, rfl⟩ := Int.eq_ofNat_of_zero_le (show 0 ≤ p by simp [mayB] at hc0; omega)
  have hq : q < 256 := by simp [mayB] at hc0; omega
  simp only [Int.toNat_natCast]
  refine WL_val (dd := some 10) rfl rfl rfl (r_move (v := .tuple #[.int .i64 _, .int .u64 _]) rfl) ?_
  refine WL_val (dd := some 13) rfl rfl rfl (r_ext2_0 (h := rfl)) ?_
  refine WL_val (dd := some 14) rfl rfl rfl (r_ext2_1 (h := rfl)) ?_
  refine WL_val (dd := some 5) rfl rfl rfl (r_assign (v := .int .i64 _) rfl) ?_
  refine WL_val (dd := some 6) rfl rfl rfl (r_assign (v := .int .u64 _) rfl) ?_
  refine WL_nil ?_
  refine hK16 _ _ ?_
  clear hK16 K15
  refine WC_seq (fun K20 hK21 => ?_)
  refine WC_region ?_
  refine WL_val (dd := some 15) rfl rfl rfl (r_move (v := .int .i64 _) rfl) ?_
  refine WL_val (dd := some 16) rfl rfl rfl (r_idxA rfl rfl tb_ar69 (by omega) (by omega)) ?_
  refine WL_val (dd := some 17) rfl rfl rfl (r_load1 (v := wv s _) rfl tb_sc67 (At.cell hm0_0 (setA_get s _ (by omega)))) ?_
  refine WL_val (dd := some 18) rfl rfl rfl (r_move (v := .int .u64 _) rfl) ?_
  refine WL_val (dd := some 19) rfl rfl rfl (r_and (n := _) rfl rfl rfl (by exact wd_top _ _) (by rw [← Nat.one_mul (2 ^ _)]; exact shl1 _ _ (by simp only [bitsN]; omega))) ?_
  refine WL_val (dd := some 20) rfl rfl rfl (r_gtr rfl rfl) ?_
  refine WL_val (dd := some 4) rfl rfl rfl (r_assign (v := .bool _) rfl) ?_
  refine WL_nil ?_
  refine hK21 _ _ ?_
  clear hK21 K20
  refine WC_ret ?_
  repeat (first | refine thenQ_ret ?_ | refine blockQ_ret ?_)
  refine ret_t (v := .bool _) rfl ?_
  refine ⟨hB, ?_⟩
  first | exact congrArg Value.bool (hasB_word hq) | (simp at hc0; simp [hasB, hc0])

theorem C_set_With (s : Nat) (p : Int) (w : World) :
    Fn Try.prog 129 #[setV s, .int .i64 p] w fun v w' => v = setV (withS s p) := by
 refine Fn_intro (n := 21) Try.func129 rfl rfl (Nat.le_of_ble_eq_true rfl) ?_
 have hB : Below w.heap.size w w := Below.refl _ _
 refine WC_seq (fun K1 hK2 => ?_)
 refine WC_region ?_
 refine WL_step (dd := some 2) rfl rfl rfl (Y_box (c := #[_, _, _, _]) rfl rfl (fun b0_0 W3 hb4 hE5 hm0_0 => ?_))
 have lo_b0_0 : w.heap.size ≤ b0_0 := hb4 ▸ (Below.size hB)
 clear hb4
 replace hB := below_ext hB hE5 (Nat.le_refl _)
 clear hE5
 refine WL_step (dd := some 4) rfl rfl rfl (Y_alloc tb_z69 rfl (fun b0_1 W6 hb7 hE8 hm0_1 => ?_))
 have lo_b0_1 : w.heap.size ≤ b0_1 := hb7 ▸ (Below.size hB)
 have ne_b0_0_b0_1 : b0_0 ≠ b0_1 := Nat.ne_of_lt (hb7 ▸ hm0_0.lt)
 clear hb7
 replace hB := below_ext hB hE8 (Nat.le_refl _)
 replace hm0_0 := hE8.at hm0_0
 clear hE8
 replace hm0_1 : At W6 b0_1 #[wv 0 0, wv 0 1, wv 0 2, wv 0 3] 69 := hm0_1
 refine WL_nil ?_
 refine hK2 _ _ ?_
 clear hK2 K1
 refine WC_seq (fun K9 hK10 => ?_)
 refine WC_seq (fun K11 hK12 => ?_)
 refine WC_region ?_
 refine WL_val (dd := some 7) rfl rfl rfl (r_move (v := .int .i64 _) rfl) ?_
 refine WL_call (dd := some 8) rfl rfl rfl (r_call1 tb_c142 (v0 := .int .i64 _) rfl) (C_set_may _ _) (fun v1_1 W13 hE14 hP1_1 => ?_)
 have hsz15 := (Below.size hB)
 replace hB := below_ext hB hE14 (Nat.le_refl _)
 replace hm0_0 := hE14.at hm0_0
 replace hm0_1 := hE14.at hm0_1
 clear hE14
 clear hsz15
 obtain rfl := hP1_1
 refine WL_nil ?_
 refine hK12 _ _ ?_
 clear hK12 K11
 refine WC_cond (b := _) rfl (fun hc0 => ?_) (fun hc0 => ?_)
 ·
  try with_reducible replace hc0 := of_decide_eq_true hc0
  refine WC_seq (fun K16 hK17 => ?_)
  refine WC_region ?_
  refine WL_val (dd := some 10) rfl rfl rfl (r_move (v := .int .i64 _) rfl) ?_
  refine WL_call (dd := some 11) rfl rfl rfl (r_call1 tb_c143 (v0 := .int .i64 _) rfl) (C_set_at _ _ (by simp [mayB] at hc0; omega) (by simp [mayB] at hc0; omega)) (fun v2_1 W18 hE19 hP2_1 => ?_)
  have hsz20 := (Below.size hB)
  replace hB := below_ext hB hE19 (Nat.le_refl _)
  replace hm0_0 := hE19.at hm0_0
  replace hm0_1 := hE19.at hm0_1
  clear hE19
  obtain rfl := hP2_1
  clear hsz20
  obtain ⟨q, rfl⟩ := Int.eq_ofNat_of_zero_le (show 0 ≤ p by simp [mayB] at hc0; omega)
  have hq : q < 256 := by simp [mayB] at hc0; omega
  simp only [Int.toNat_natCast]
  refine WL_val (dd := some 9) rfl rfl rfl (r_move (v := .tuple #[.int .i64 _, .int .u64 _]) rfl) ?_
  refine WL_val (dd := some 12) rfl rfl rfl (r_ext2_0 (h := rfl)) ?_
  refine WL_val (dd := some 13) rfl rfl rfl (r_ext2_1 (h := rfl)) ?_
  refine WL_val (dd := some 5) rfl rfl rfl (r_assign (v := .int .i64 _) rfl) ?_
  refine WL_val (dd := some 6) rfl rfl rfl (r_assign (v := .int .u64 _) rfl) ?_
  refine WL_nil ?_
  refine hK17 _ _ ?_
  clear hK17 K16
  refine WC_region ?_
  refine WL_val (dd := some 14) rfl rfl rfl (r_move (v := .int .i64 _) rfl) ?_
  refine WL_val (dd := some 15) rfl rfl rfl (r_idxA rfl rfl tb_ar69 (by omega) (by omega)) ?_
  refine WL_val (dd := some 16) rfl rfl rfl (r_load1 (v := wv s _) rfl tb_sc67 (At.cell hm0_0 (setA_get s _ (by omega)))) ?_
  refine WL_val (dd := some 17) rfl rfl rfl (r_move (v := .int .u64 _) rfl) ?_
  refine WL_val (dd := some 18) rfl rfl rfl (r_or (n := _) rfl rfl rfl (by exact wd_top _ _) (by rw [← Nat.one_mul (2 ^ _)]; exact shl1 _ _ (by simp only [bitsN]; omega))) ?_
  refine WL_val (dd := some 19) rfl rfl rfl (r_idxA rfl rfl tb_ar69 (by omega) (by omega)) ?_
  refine WL_step (dd := none) rfl rfl rfl (Y_store1 (v := .int .u64 _) rfl rfl tb_sc67 rfl hm0_0 (by simp; omega) (fun W21 hG22 hm23 => ?_))
  replace hB := below_grown hB hG22 (Nat.le_refl _) (fun j hj => by cases hj; exact lo_b0_0)
  replace hm0_1 := At.grownNe hm0_1 (Ne.symm ne_b0_0_b0_1) hG22
  clear hG22 hm0_0
  have hm0_0 := hm23
  clear hm23
  rw [setA_set (s' := withS s q) (by omega) (withS_wd hq)] at hm0_0
  refine WL_nil ?_
  refine hK10 _ _ ?_
  clear hK10 K9
  refine WC_seq (fun K24 hK25 => ?_)
  refine WC_region ?_
  refine WL_val (dd := some 20) rfl rfl rfl (r_loadW rfl tb_ag69 rfl hm0_0) ?_
  refine WL_step (dd := none) rfl rfl rfl (Y_storeW rfl rfl tb_ag69 rfl hm0_1 rfl (by rfl) (fun W26 hG27 hm28 => ?_))
  replace hB := below_grown hB hG27 (Nat.le_refl _) (fun j hj => by cases hj; exact lo_b0_1)
  replace hm0_0 := At.grownNe hm0_0 ne_b0_0_b0_1 hG27
  clear hG27 hm0_1
  have hm0_1 := hm28
  clear hm28
  refine WL_nil ?_
  refine hK25 _ _ ?_
  clear hK25 K24
  refine WC_ret ?_
  repeat (first | refine thenQ_ret ?_ | refine blockQ_ret ?_)
  refine ret_c rfl tb_ag69 hm0_1 rfl ?_
  refine ⟨hB, ?_⟩
  first | rfl | (simp [withS, hc0])
 ·
  try with_reducible replace hc0 := of_decide_eq_false hc0
  refine WC_skip ?_
  refine hK10 _ _ ?_
  clear hK10 K9
  refine WC_seq (fun K29 hK30 => ?_)
  refine WC_region ?_
  refine WL_val (dd := some 20) rfl rfl rfl (r_loadW rfl tb_ag69 rfl hm0_0) ?_
  refine WL_step (dd := none) rfl rfl rfl (Y_storeW rfl rfl tb_ag69 rfl hm0_1 rfl (by rfl) (fun W31 hG32 hm33 => ?_))
  replace hB := below_grown hB hG32 (Nat.le_refl _) (fun j hj => by cases hj; exact lo_b0_1)
  replace hm0_0 := At.grownNe hm0_0 ne_b0_0_b0_1 hG32
  clear hG32 hm0_1
  have hm0_1 := hm33
  clear hm33
  refine WL_nil ?_
  refine hK30 _ _ ?_
  clear hK30 K29
  refine WC_ret ?_
  repeat (first | refine thenQ_ret ?_ | refine blockQ_ret ?_)
  refine ret_c rfl tb_ag69 hm0_1 rfl ?_
  refine ⟨hB, ?_⟩
  first | rfl | (simp [withS, hc0])

theorem C_set_both (s t q : Nat) (op : Nat → Nat → Nat) (w : World) (hq : callB Try.prog q = true) (hdo : ∀ (x y : Nat) (w : World), x < 18446744073709551616 → y < 18446744073709551616 → Fn Try.prog q #[.int .u64 (x : Int), .int .u64 (y : Int)] w fun v w' => v = .int .u64 ((op x y : Nat) : Int)) :
    Fn Try.prog 137 #[setV s, setV t, .func (.func q) #[] #[]] w fun v w' => v = .agg (mixA op s t 4) := by
 refine Fn_intro (n := 24) Try.func137 rfl rfl (Nat.le_of_ble_eq_true rfl) ?_
 have hB : Below w.heap.size w w := Below.refl _ _
 refine WC_seq (fun K1 hK2 => ?_)
 refine WC_region ?_
 refine WL_step (dd := some 3) rfl rfl rfl (Y_box (c := #[_, _, _, _]) rfl rfl (fun b0_0 W3 hb4 hE5 hm0_0 => ?_))
 have lo_b0_0 : w.heap.size ≤ b0_0 := hb4 ▸ (Below.size hB)
 clear hb4
 replace hB := below_ext hB hE5 (Nat.le_refl _)
 clear hE5
 refine WL_step (dd := some 4) rfl rfl rfl (Y_box (c := #[_, _, _, _]) rfl rfl (fun b0_1 W6 hb7 hE8 hm0_1 => ?_))
 have lo_b0_1 : w.heap.size ≤ b0_1 := hb7 ▸ (Below.size hB)
 have ne_b0_0_b0_1 : b0_0 ≠ b0_1 := Nat.ne_of_lt (hb7 ▸ hm0_0.lt)
 clear hb7
 replace hB := below_ext hB hE8 (Nat.le_refl _)
 replace hm0_0 := hE8.at hm0_0
 clear hE8
 refine WL_step (dd := some 6) rfl rfl rfl (Y_alloc tb_z69 rfl (fun b0_2 W9 hb10 hE11 hm0_2 => ?_))
 have lo_b0_2 : w.heap.size ≤ b0_2 := hb10 ▸ (Below.size hB)
 have ne_b0_0_b0_2 : b0_0 ≠ b0_2 := Nat.ne_of_lt (hb10 ▸ hm0_0.lt)
 have ne_b0_1_b0_2 : b0_1 ≠ b0_2 := Nat.ne_of_lt (hb10 ▸ hm0_1.lt)
 clear hb10
 replace hB := below_ext hB hE11 (Nat.le_refl _)
 replace hm0_0 := hE11.at hm0_0
 replace hm0_1 := hE11.at hm0_1
 clear hE11
 replace hm0_2 : At W9 b0_2 #[wv 0 0, wv 0 1, wv 0 2, wv 0 3] 69 := hm0_2
 refine WL_nil ?_
 refine hK2 _ _ ?_
 clear hK2 K1
 refine WC_seq (fun K12 hK13 => ?_)
 refine WC_region ?_
 refine WL_step (dd := some 7) rfl rfl rfl (Y_alloc tb_z69 rfl (fun b1_0 W14 hb15 hE16 hm1_0 => ?_))
 have lo_b1_0 : w.heap.size ≤ b1_0 := hb15 ▸ (Below.size hB)
 have ne_b0_0_b1_0 : b0_0 ≠ b1_0 := Nat.ne_of_lt (hb15 ▸ hm0_0.lt)
 have ne_b0_1_b1_0 : b0_1 ≠ b1_0 := Nat.ne_of_lt (hb15 ▸ hm0_1.lt)
 have ne_b0_2_b1_0 : b0_2 ≠ b1_0 := Nat.ne_of_lt (hb15 ▸ hm0_2.lt)
 clear hb15
 replace hB := below_ext hB hE16 (Nat.le_refl _)
 replace hm0_0 := hE16.at hm0_0
 replace hm0_1 := hE16.at hm0_1
 replace hm0_2 := hE16.at hm0_2
 clear hE16
 replace hm1_0 : At W14 b1_0 #[wv 0 0, wv 0 1, wv 0 2, wv 0 3] 69 := hm1_0
 refine WL_nil ?_
 refine hK13 _ _ ?_
 clear hK13 K12
 refine WC_seq (fun K17 hK18 => ?_)
 refine WC_seq (fun K19 hK20 => ?_)
 refine WC_region ?_
 refine WL_val (dd := some 9) rfl rfl rfl (r_move (v := .int .i64 0) rfl) ?_
 refine WL_nil ?_
 refine hK20 _ _ ?_
 clear hK20 K19
 refine WC_block ?_
 refine WC_loop (σ := (Nat)) [8, 9, 10, 11, 12, 13, 14, 15, 16, 17, 18, 19, 20, 21, 22] (fun k => [(9, .int .i64 (k : Int))]) (fun k W => (Below w.heap.size w W) ∧ (At W b0_0 _ 69) ∧ (At W b0_1 _ 69) ∧ (At W b0_2 _ 69) ∧ (At W b1_0 (mixA op s t k) 69) ∧ (k ≤ 4) ∧ (True)) (fun k => 4 - k) (0) ⟨rfl, trivial⟩ ⟨hB, hm0_0, hm0_1, hm0_2, hm1_0, (by omega), trivial⟩ ?_
 clear hB hm0_0 hm0_1 hm0_2 hm1_0
 rintro k g22 W21 ⟨hB, hm0_0, hm0_1, hm0_2, hm1_0, hk, _⟩ J23 hJ24
 refine WC_seq (fun K25 hK26 => ?_)
 refine WC_region ?_
 refine WL_val (dd := some 10) rfl rfl rfl (r_lss rfl rfl) ?_
 refine WL_nil ?_
 refine hK26 _ _ ?_
 clear hK26 K25
 refine WC_seq (fun K27 hK28 => ?_)
 refine WC_cond (b := _) rfl (fun hc0 => ?_) (fun hc0 => ?_)
 ·
  try with_reducible replace hc0 := of_decide_eq_true hc0
  refine WC_skip ?_
  refine hK28 _ _ ?_
  clear hK28 K27
  refine WC_seq (fun K29 hK30 => ?_)
  refine WC_block ?_
  refine WC_seq (fun K31 hK32 => ?_)
  refine WC_region ?_
  refine WL_val (dd := some 11) rfl rfl rfl (r_move (v := .int .i64 _) rfl) ?_
  refine WL_val (dd := some 8) rfl rfl rfl (r_assign (v := .int .i64 _) rfl) ?_
  refine WL_nil ?_
  refine hK32 _ _ ?_
  clear hK32 K31
  refine WC_draw Ext tb_mix (fun W33 hE34 => ?_)
  replace hB := below_ext hB hE34 (Nat.le_refl _)
  replace hm0_0 := hE34.at hm0_0
  replace hm0_1 := hE34.at hm0_1
  replace hm0_2 := hE34.at hm0_2
  replace hm1_0 := hE34.at hm1_0
  have hS := Ext.refl W33
  refine WT_take (dd := some 12) 0 rfl (by kernel_rfl) (by kernel_rfl) (by kernel_rfl) rfl rfl rfl (fun _wq _hq => r_move (v := .int .i64 _) rfl) hS ?_
  refine WT_take (dd := some 13) 1 rfl (by kernel_rfl) (by kernel_rfl) (by kernel_rfl) rfl rfl rfl (fun _wq _hq => r_move (v := .func (.func q) #[] #[]) rfl) hS ?_
  refine WT_take (dd := some 14) 2 rfl (by kernel_rfl) (by kernel_rfl) (by kernel_rfl) rfl rfl rfl (fun _wq _hq => r_move (v := .int .i64 _) rfl) hS ?_
  refine WT_take (dd := some 15) 3 rfl (by kernel_rfl) (by kernel_rfl) (by kernel_rfl) rfl rfl rfl (fun _wq _hq => r_idxA rfl rfl tb_ar69 (by omega) (by omega)) hS ?_
  refine WT_take (dd := some 16) 4 rfl (by kernel_rfl) (by kernel_rfl) (by kernel_rfl) rfl rfl rfl (fun _wq hq => r_load1 (v := .int .u64 _) rfl tb_sc67 (At.cell (hq.at hm0_0) (setA_get s k (by omega)))) hS ?_
  refine WT_take (dd := some 17) 5 rfl (by kernel_rfl) (by kernel_rfl) (by kernel_rfl) rfl rfl rfl (fun _wq _hq => r_move (v := .int .i64 _) rfl) hS ?_
  refine WT_take (dd := some 18) 6 rfl (by kernel_rfl) (by kernel_rfl) (by kernel_rfl) rfl rfl rfl (fun _wq _hq => r_idxA rfl rfl tb_ar69 (by omega) (by omega)) hS ?_
  refine WT_take (dd := some 19) 7 rfl (by kernel_rfl) (by kernel_rfl) (by kernel_rfl) rfl rfl rfl (fun _wq hq => r_load1 (v := .int .u64 _) rfl tb_sc67 (At.cell (hq.at hm0_1) (setA_get t k (by omega)))) hS ?_
  refine WT_one (dd := some 20) 8 (by kernel_rfl) rfl rfl rfl rfl (Yd.call (r_callv2 (q := q) rfl hq (v0 := .int .u64 _) rfl (v1 := .int .u64 _) rfl) (hdo _ _ _ (wd_lt _ _) (wd_lt _ _)) (fun v5_8 W35 hE36 hP5_8 => ⟨.inl (hS.trans hE36), ?_⟩))
  have hsz37 := (Below.size hB)
  have sv38_hB := hB
  have sv38_hm0_0 := hm0_0
  have sv38_hm0_1 := hm0_1
  have sv38_hm0_2 := hm0_2
  have sv38_hm1_0 := hm1_0
  replace hB := below_ext hB hE36 (Nat.le_refl _)
  replace hm0_0 := hE36.at hm0_0
  replace hm0_1 := hE36.at hm0_1
  replace hm0_2 := hE36.at hm0_2
  replace hm1_0 := hE36.at hm1_0
  replace hS := hS.trans hE36
  clear hE36
  clear hsz37
  obtain rfl := hP5_8
  refine WT_take (dd := some 21) 9 rfl (by kernel_rfl) (by kernel_rfl) (by kernel_rfl) rfl rfl rfl (fun _wq _hq => r_idxA rfl rfl tb_ar69 (by omega) (by omega)) hS ?_
  refine WT_one (dd := none) 10 (by kernel_rfl) rfl rfl rfl rfl (Y_store1 (v := .int .u64 _) rfl rfl tb_sc67 rfl hm1_0 (by simp [mixA_size]; omega) (fun W39 hG40 hm41 => ⟨.inr (by kernel_rfl), ?_⟩))
  replace hB := below_grown hB hG40 (Nat.le_refl _) (fun j hj => by cases hj; exact lo_b1_0)
  replace hm0_0 := At.grownNe hm0_0 ne_b0_0_b1_0 hG40
  replace hm0_1 := At.grownNe hm0_1 ne_b0_1_b1_0 hG40
  replace hm0_2 := At.grownNe hm0_2 ne_b0_2_b1_0 hG40
  clear hG40 hm1_0
  have hm1_0 := hm41
  clear hm41
  rw [mixA_set op s t k (by omega)] at hm1_0
  refine WT_done (by kernel_rfl) ?_
  try clear sv38_hB sv38_hm0_0 sv38_hm0_1 sv38_hm0_2
  refine hK30 _ _ ?_
  clear hK30 K29
  refine WC_region ?_
  refine WL_val (dd := some 22) rfl rfl rfl (r_addI rfl rfl (by omega) (by omega)) ?_
  refine WL_val (dd := some 9) rfl rfl rfl (r_move (v := .int .i64 _) rfl) ?_
  refine WL_nil ?_
  refine hJ24 _ _ (k + 1) ?_ ?_ ?_ ?_
  · repeat (first | exact agree.mask _ _ _ | refine agree.updo ?_ rfl _ | refine agree.updL ?_ _ rfl | refine agree.maskS rfl ?_)
  · exact ⟨rfl, trivial⟩
  · exact ⟨hB, hm0_0, hm0_1, hm0_2, hm1_0, (by omega), trivial⟩
  · first | omega | (dsimp only; omega)
 ·
  try with_reducible replace hc0 := of_decide_eq_false hc0
  refine WC_exit ?_
  refine hK18 _ _ ?_
  clear hK28 K27
  clear hJ24 J23
  clear hK18 K17
  refine WC_seq (fun K42 hK43 => ?_)
  refine WC_region ?_
  refine WL_val (dd := some 23) rfl rfl rfl (r_loadW rfl tb_ag69 rfl hm1_0) ?_
  refine WL_step (dd := none) rfl rfl rfl (Y_storeW rfl rfl tb_ag69 rfl hm0_2 rfl (by rfl) (fun W44 hG45 hm46 => ?_))
  replace hB := below_grown hB hG45 (Nat.le_refl _) (fun j hj => by cases hj; exact lo_b0_2)
  replace hm0_0 := At.grownNe hm0_0 ne_b0_0_b0_2 hG45
  replace hm0_1 := At.grownNe hm0_1 ne_b0_1_b0_2 hG45
  replace hm1_0 := At.grownNe hm1_0 (Ne.symm ne_b0_2_b1_0) hG45
  clear hG45 hm0_2
  have hm0_2 := hm46
  clear hm46
  refine WL_nil ?_
  refine hK43 _ _ ?_
  clear hK43 K42
  refine WC_ret ?_
  repeat (first | refine thenQ_ret ?_ | refine blockQ_ret ?_)
  refine ret_c rfl tb_ag69 hm0_2 rfl ?_
  refine ⟨hB, ?_⟩
  obtain rfl : k = 4 := by omega
  rfl

theorem C_set_And_1 (x y : Nat) (w : World) (hx : x < 18446744073709551616) (hy : y < 18446744073709551616) :
    Fn Try.prog 138 #[.int .u64 (x : Int), .int .u64 (y : Int)] w fun v w' => v = .int .u64 ((x &&& y : Nat) : Int) := by
 refine Fn_intro (n := 8) Try.func138 rfl rfl (Nat.le_of_ble_eq_true rfl) ?_
 have hB : Below w.heap.size w w := Below.refl _ _
 refine WC_seq (fun K1 hK2 => ?_)
 refine WC_region ?_
 refine WL_val (dd := some 4) rfl rfl rfl (r_assign (v := .int .u64 0) rfl) ?_
 refine WL_nil ?_
 refine hK2 _ _ ?_
 clear hK2 K1
 refine WC_seq (fun K3 hK4 => ?_)
 refine WC_region ?_
 refine WL_val (dd := some 5) rfl rfl rfl (r_move (v := .int .u64 _) rfl) ?_
 refine WL_val (dd := some 6) rfl rfl rfl (r_move (v := .int .u64 _) rfl) ?_
 refine WL_val (dd := some 7) rfl rfl rfl (r_and (n := _) rfl rfl rfl (by first | assumption | (simp only [topN]; omega) | (simp only [topN]; decide)) (by first | assumption | (simp only [topN]; omega) | (simp only [topN]; decide))) ?_
 refine WL_val (dd := some 4) rfl rfl rfl (r_assign (v := .int .u64 _) rfl) ?_
 refine WL_nil ?_
 refine hK4 _ _ ?_
 clear hK4 K3
 refine WC_ret ?_
 repeat (first | refine thenQ_ret ?_ | refine blockQ_ret ?_)
 refine ret_t (v := .int .u64 _) rfl ?_
 refine ⟨hB, ?_⟩
 rfl

theorem C_set_And (s t : Nat) (w : World) :
    Fn Try.prog 113 #[setV s, setV t] w fun v w' => v = setV (s &&& t) := by
 refine Fn_intro (n := 8) Try.func113 rfl rfl (Nat.le_of_ble_eq_true rfl) ?_
 have hB : Below w.heap.size w w := Below.refl _ _
 refine WC_seq (fun K1 hK2 => ?_)
 refine WC_region ?_
 refine WL_step (dd := some 2) rfl rfl rfl (Y_box (c := #[_, _, _, _]) rfl rfl (fun b0_0 W3 hb4 hE5 hm0_0 => ?_))
 have lo_b0_0 : w.heap.size ≤ b0_0 := hb4 ▸ (Below.size hB)
 clear hb4
 replace hB := below_ext hB hE5 (Nat.le_refl _)
 clear hE5
 refine WL_step (dd := some 3) rfl rfl rfl (Y_box (c := #[_, _, _, _]) rfl rfl (fun b0_1 W6 hb7 hE8 hm0_1 => ?_))
 have lo_b0_1 : w.heap.size ≤ b0_1 := hb7 ▸ (Below.size hB)
 have ne_b0_0_b0_1 : b0_0 ≠ b0_1 := Nat.ne_of_lt (hb7 ▸ hm0_0.lt)
 clear hb7
 replace hB := below_ext hB hE8 (Nat.le_refl _)
 replace hm0_0 := hE8.at hm0_0
 clear hE8
 refine WL_step (dd := some 4) rfl rfl rfl (Y_alloc tb_z69 rfl (fun b0_2 W9 hb10 hE11 hm0_2 => ?_))
 have lo_b0_2 : w.heap.size ≤ b0_2 := hb10 ▸ (Below.size hB)
 have ne_b0_0_b0_2 : b0_0 ≠ b0_2 := Nat.ne_of_lt (hb10 ▸ hm0_0.lt)
 have ne_b0_1_b0_2 : b0_1 ≠ b0_2 := Nat.ne_of_lt (hb10 ▸ hm0_1.lt)
 clear hb10
 replace hB := below_ext hB hE11 (Nat.le_refl _)
 replace hm0_0 := hE11.at hm0_0
 replace hm0_1 := hE11.at hm0_1
 clear hE11
 replace hm0_2 : At W9 b0_2 #[wv 0 0, wv 0 1, wv 0 2, wv 0 3] 69 := hm0_2
 refine WL_nil ?_
 refine hK2 _ _ ?_
 clear hK2 K1
 refine WC_seq (fun K12 hK13 => ?_)
 refine WC_region ?_
 refine WL_val (dd := some 5) rfl rfl rfl (r_loadW rfl tb_ag69 rfl hm0_0) ?_
 refine WL_val (dd := some 6) rfl rfl rfl (r_loadW rfl tb_ag69 rfl hm0_1) ?_
 refine WL_call (dd := some 7) rfl rfl rfl (r_call3 tb_c137 (v0 := .agg #[_, _, _, _]) rfl (v1 := .agg #[_, _, _, _]) rfl (v2 := .func (.func 138) #[] #[]) rfl) (C_set_both s t 138 (fun x y => x &&& y) _ tb_c138 (fun x y w hx hy => C_set_And_1 x y w hx hy)) (fun v1_2 W14 hE15 hP1_2 => ?_)
 have hsz16 := (Below.size hB)
 replace hB := below_ext hB hE15 (Nat.le_refl _)
 replace hm0_0 := hE15.at hm0_0
 replace hm0_1 := hE15.at hm0_1
 replace hm0_2 := hE15.at hm0_2
 clear hE15
 rw [mixA_all (r := s &&& t) (fun j => wd_and s t j)] at hP1_2
 obtain rfl := hP1_2
 clear hsz16
 refine WL_step (dd := none) rfl rfl rfl (Y_storeW rfl rfl tb_ag69 rfl hm0_2 rfl (by rfl) (fun W17 hG18 hm19 => ?_))
 replace hB := below_grown hB hG18 (Nat.le_refl _) (fun j hj => by cases hj; exact lo_b0_2)
 replace hm0_0 := At.grownNe hm0_0 ne_b0_0_b0_2 hG18
 replace hm0_1 := At.grownNe hm0_1 ne_b0_1_b0_2 hG18
 clear hG18 hm0_2
 have hm0_2 := hm19
 clear hm19
 refine WL_nil ?_
 refine hK13 _ _ ?_
 clear hK13 K12
 refine WC_ret ?_
 repeat (first | refine thenQ_ret ?_ | refine blockQ_ret ?_)
 refine ret_c rfl tb_ag69 hm0_2 rfl ?_
 refine ⟨hB, ?_⟩
 rfl

theorem C_set_Less_1 (x y : Nat) (w : World) (hx : x < 18446744073709551616) (hy : y < 18446744073709551616) :
    Fn Try.prog 144 #[.int .u64 (x : Int), .int .u64 (y : Int)] w fun v w' => v = .int .u64 ((andNot x y : Nat) : Int) := by
 refine Fn_intro (n := 8) Try.func144 rfl rfl (Nat.le_of_ble_eq_true rfl) ?_
 have hB : Below w.heap.size w w := Below.refl _ _
 refine WC_seq (fun K1 hK2 => ?_)
 refine WC_region ?_
 refine WL_val (dd := some 4) rfl rfl rfl (r_assign (v := .int .u64 0) rfl) ?_
 refine WL_nil ?_
 refine hK2 _ _ ?_
 clear hK2 K1
 refine WC_seq (fun K3 hK4 => ?_)
 refine WC_region ?_
 refine WL_val (dd := some 5) rfl rfl rfl (r_move (v := .int .u64 _) rfl) ?_
 refine WL_val (dd := some 6) rfl rfl rfl (r_move (v := .int .u64 _) rfl) ?_
 refine WL_val (dd := some 7) rfl rfl rfl (r_andNot (n := _) rfl rfl rfl (by first | assumption | (simp only [topN]; omega) | (simp only [topN]; decide)) (by first | assumption | (simp only [topN]; omega) | (simp only [topN]; decide))) ?_
 refine WL_val (dd := some 4) rfl rfl rfl (r_assign (v := .int .u64 _) rfl) ?_
 refine WL_nil ?_
 refine hK4 _ _ ?_
 clear hK4 K3
 refine WC_ret ?_
 repeat (first | refine thenQ_ret ?_ | refine blockQ_ret ?_)
 refine ret_t (v := .int .u64 _) rfl ?_
 refine ⟨hB, ?_⟩
 rfl

theorem C_set_Less (s t : Nat) (w : World) :
    Fn Try.prog 130 #[setV s, setV t] w fun v w' => v = setV (andNot s t) := by
 refine Fn_intro (n := 8) Try.func130 rfl rfl (Nat.le_of_ble_eq_true rfl) ?_
 have hB : Below w.heap.size w w := Below.refl _ _
 refine WC_seq (fun K1 hK2 => ?_)
 refine WC_region ?_
 refine WL_step (dd := some 2) rfl rfl rfl (Y_box (c := #[_, _, _, _]) rfl rfl (fun b0_0 W3 hb4 hE5 hm0_0 => ?_))
 have lo_b0_0 : w.heap.size ≤ b0_0 := hb4 ▸ (Below.size hB)
 clear hb4
 replace hB := below_ext hB hE5 (Nat.le_refl _)
 clear hE5
 refine WL_step (dd := some 3) rfl rfl rfl (Y_box (c := #[_, _, _, _]) rfl rfl (fun b0_1 W6 hb7 hE8 hm0_1 => ?_))
 have lo_b0_1 : w.heap.size ≤ b0_1 := hb7 ▸ (Below.size hB)
 have ne_b0_0_b0_1 : b0_0 ≠ b0_1 := Nat.ne_of_lt (hb7 ▸ hm0_0.lt)
 clear hb7
 replace hB := below_ext hB hE8 (Nat.le_refl _)
 replace hm0_0 := hE8.at hm0_0
 clear hE8
 refine WL_step (dd := some 4) rfl rfl rfl (Y_alloc tb_z69 rfl (fun b0_2 W9 hb10 hE11 hm0_2 => ?_))
 have lo_b0_2 : w.heap.size ≤ b0_2 := hb10 ▸ (Below.size hB)
 have ne_b0_0_b0_2 : b0_0 ≠ b0_2 := Nat.ne_of_lt (hb10 ▸ hm0_0.lt)
 have ne_b0_1_b0_2 : b0_1 ≠ b0_2 := Nat.ne_of_lt (hb10 ▸ hm0_1.lt)
 clear hb10
 replace hB := below_ext hB hE11 (Nat.le_refl _)
 replace hm0_0 := hE11.at hm0_0
 replace hm0_1 := hE11.at hm0_1
 clear hE11
 replace hm0_2 : At W9 b0_2 #[wv 0 0, wv 0 1, wv 0 2, wv 0 3] 69 := hm0_2
 refine WL_nil ?_
 refine hK2 _ _ ?_
 clear hK2 K1
 refine WC_seq (fun K12 hK13 => ?_)
 refine WC_region ?_
 refine WL_val (dd := some 5) rfl rfl rfl (r_loadW rfl tb_ag69 rfl hm0_0) ?_
 refine WL_val (dd := some 6) rfl rfl rfl (r_loadW rfl tb_ag69 rfl hm0_1) ?_
 refine WL_call (dd := some 7) rfl rfl rfl (r_call3 tb_c137 (v0 := .agg #[_, _, _, _]) rfl (v1 := .agg #[_, _, _, _]) rfl (v2 := .func (.func 144) #[] #[]) rfl) (C_set_both s t 144 (fun x y => andNot x y) _ tb_c144 (fun x y w hx hy => C_set_Less_1 x y w hx hy)) (fun v1_2 W14 hE15 hP1_2 => ?_)
 have hsz16 := (Below.size hB)
 replace hB := below_ext hB hE15 (Nat.le_refl _)
 replace hm0_0 := hE15.at hm0_0
 replace hm0_1 := hE15.at hm0_1
 replace hm0_2 := hE15.at hm0_2
 clear hE15
 rw [mixA_all (r := andNot s t) (fun j => wd_andNot s t j)] at hP1_2
 obtain rfl := hP1_2
 clear hsz16
 refine WL_step (dd := none) rfl rfl rfl (Y_storeW rfl rfl tb_ag69 rfl hm0_2 rfl (by rfl) (fun W17 hG18 hm19 => ?_))
 replace hB := below_grown hB hG18 (Nat.le_refl _) (fun j hj => by cases hj; exact lo_b0_2)
 replace hm0_0 := At.grownNe hm0_0 ne_b0_0_b0_2 hG18
 replace hm0_1 := At.grownNe hm0_1 ne_b0_1_b0_2 hG18
 clear hG18 hm0_2
 have hm0_2 := hm19
 clear hm19
 refine WL_nil ?_
 refine hK13 _ _ ?_
 clear hK13 K12
 refine WC_ret ?_
 repeat (first | refine thenQ_ret ?_ | refine blockQ_ret ?_)
 refine ret_c rfl tb_ag69 hm0_2 rfl ?_
 refine ⟨hB, ?_⟩
 rfl

theorem C_set_Within (s t : Nat) (w : World) :
    Fn Try.prog 106 #[setV s, setV t] w fun v w' => v = .bool (withinB s t) := by
 refine Fn_intro (n := 10) Try.func106 rfl rfl (Nat.le_of_ble_eq_true rfl) ?_
 have hB : Below w.heap.size w w := Below.refl _ _
 refine WC_seq (fun K1 hK2 => ?_)
 refine WC_region ?_
 refine WL_step (dd := some 2) rfl rfl rfl (Y_box (c := #[_, _, _, _]) rfl rfl (fun b0_0 W3 hb4 hE5 hm0_0 => ?_))
 have lo_b0_0 : w.heap.size ≤ b0_0 := hb4 ▸ (Below.size hB)
 clear hb4
 replace hB := below_ext hB hE5 (Nat.le_refl _)
 clear hE5
 refine WL_step (dd := some 3) rfl rfl rfl (Y_box (c := #[_, _, _, _]) rfl rfl (fun b0_1 W6 hb7 hE8 hm0_1 => ?_))
 have lo_b0_1 : w.heap.size ≤ b0_1 := hb7 ▸ (Below.size hB)
 have ne_b0_0_b0_1 : b0_0 ≠ b0_1 := Nat.ne_of_lt (hb7 ▸ hm0_0.lt)
 clear hb7
 replace hB := below_ext hB hE8 (Nat.le_refl _)
 replace hm0_0 := hE8.at hm0_0
 clear hE8
 refine WL_val (dd := some 4) rfl rfl rfl (r_assign (v := .bool false) rfl) ?_
 refine WL_nil ?_
 refine hK2 _ _ ?_
 clear hK2 K1
 refine WC_seq (fun K9 hK10 => ?_)
 refine WC_region ?_
 refine WL_val (dd := some 5) rfl rfl rfl (r_loadW rfl tb_ag69 rfl hm0_0) ?_
 refine WL_val (dd := some 6) rfl rfl rfl (r_loadW rfl tb_ag69 rfl hm0_1) ?_
 refine WL_call (dd := some 7) rfl rfl rfl (r_call2 tb_c130 (v0 := .agg #[_, _, _, _]) rfl (v1 := .agg #[_, _, _, _]) rfl) (C_set_Less _ _ _) (fun v1_2 W11 hE12 hP1_2 => ?_)
 have hsz13 := (Below.size hB)
 replace hB := below_ext hB hE12 (Nat.le_refl _)
 replace hm0_0 := hE12.at hm0_0
 replace hm0_1 := hE12.at hm0_1
 clear hE12
 clear hsz13
 obtain rfl := hP1_2
 refine WL_val (dd := some 8) (v := setV 0) rfl rfl rfl (tb_build69_ ) ?_
 refine WL_val (dd := some 9) rfl rfl rfl (tb_eq69 rfl rfl) ?_
 refine WL_val (dd := some 4) rfl rfl rfl (r_assign (v := .bool _) rfl) ?_
 refine WL_nil ?_
 refine hK10 _ _ ?_
 clear hK10 K9
 refine WC_ret ?_
 repeat (first | refine thenQ_ret ?_ | refine blockQ_ret ?_)
 refine ret_t (v := .bool _) rfl ?_
 refine ⟨hB, ?_⟩
 simp [withinB, wd_zero]

theorem C_set_All (n : Int) (w : World) :
    Fn Try.prog 105 #[.int .i64 n] w fun v w' => v = if 0 ≤ n ∧ n ≤ 8 then .tuple #[setV (allS n.toNat), .int .i64 0] else .tuple #[setV 0, .int .i64 1] := by
 refine Fn_intro (n := 23) Try.func105 rfl rfl (Nat.le_of_ble_eq_true rfl) ?_
 have hB : Below w.heap.size w w := Below.refl _ _
 refine WC_seq (fun K1 hK2 => ?_)
 refine WC_region ?_
 refine WL_step (dd := some 2) rfl rfl rfl (Y_alloc tb_z69 rfl (fun b0_0 W3 hb4 hE5 hm0_0 => ?_))
 have lo_b0_0 : w.heap.size ≤ b0_0 := hb4 ▸ (Below.size hB)
 clear hb4
 replace hB := below_ext hB hE5 (Nat.le_refl _)
 clear hE5
 replace hm0_0 : At W3 b0_0 #[wv 0 0, wv 0 1, wv 0 2, wv 0 3] 69 := hm0_0
 refine WL_val (dd := some 3) rfl rfl rfl (r_assign (v := .int .i64 0) rfl) ?_
 refine WL_nil ?_
 refine hK2 _ _ ?_
 clear hK2 K1
 refine WC_seq (fun K6 hK7 => ?_)
 refine WC_seq (fun K8 hK9 => ?_)
 refine WC_region ?_
 refine WL_val (dd := some 6) rfl rfl rfl (r_move (v := .int .i64 _) rfl) ?_
 refine WL_val (dd := some 7) rfl rfl rfl (r_lss rfl rfl) ?_
 refine WL_split (dd := some 8) rfl rfl rfl (r_move (v := .bool _) rfl) (fun hs1_2 => ?_) (fun hs1_2 => ?_)
 ·
  try with_reducible replace hs1_2 := of_decide_eq_true hs1_2
  refine WL_skip (dd := some 9) rfl rfl rfl ?_
  refine WL_skip (dd := some 10) rfl rfl rfl ?_
  refine WL_val (dd := some 11) rfl rfl rfl (r_pick_t rfl (v := .bool true) rfl) ?_
  refine WL_nil ?_
  refine hK9 _ _ ?_
  clear hK9 K8
  refine WC_cond_true rfl ?_
  refine WC_seq (fun K10 hK11 => ?_)
  refine WC_region ?_
  refine WL_val (dd := some 12) (v := setV 0) rfl rfl rfl (tb_build69_ ) ?_
  refine WL_step (dd := none) rfl rfl rfl (Y_storeW rfl rfl tb_ag69 rfl hm0_0 rfl (by rfl) (fun W12 hG13 hm14 => ?_))
  replace hB := below_grown hB hG13 (Nat.le_refl _) (fun j hj => by cases hj; exact lo_b0_0)
  clear hG13 hm0_0
  have hm0_0 := hm14
  clear hm14
  refine WL_val (dd := some 3) rfl rfl rfl (r_assign (v := .int .i64 1) rfl) ?_
  refine WL_nil ?_
  refine hK11 _ _ ?_
  clear hK11 K10
  refine WC_ret ?_
  repeat (first | refine thenQ_ret ?_ | refine blockQ_ret ?_)
  try clear hK7 K6
  refine ret_ct rfl tb_ag69 hm0_0 rfl (v1 := .int .i64 1) rfl ?_
  refine ⟨hB, ?_⟩
  rw [if_neg (by omega)]
 ·
  try with_reducible replace hs1_2 := of_decide_eq_false hs1_2
  refine WL_val (dd := some 9) rfl rfl rfl (r_move (v := .int .i64 _) rfl) ?_
  refine WL_val (dd := some 10) rfl rfl rfl (r_gtr rfl rfl) ?_
  refine WL_val (dd := some 11) rfl rfl rfl (r_pick_f rfl (v := .bool _) rfl) ?_
  refine WL_nil ?_
  refine hK9 _ _ ?_
  clear hK9 K8
  refine WC_cond (b := _) rfl (fun hc0 => ?_) (fun hc0 => ?_)
  ·
   try with_reducible replace hc0 := of_decide_eq_true hc0
   refine WC_seq (fun K15 hK16 => ?_)
   refine WC_region ?_
   refine WL_val (dd := some 12) (v := setV 0) rfl rfl rfl (tb_build69_ ) ?_
   refine WL_step (dd := none) rfl rfl rfl (Y_storeW rfl rfl tb_ag69 rfl hm0_0 rfl (by rfl) (fun W17 hG18 hm19 => ?_))
   replace hB := below_grown hB hG18 (Nat.le_refl _) (fun j hj => by cases hj; exact lo_b0_0)
   clear hG18 hm0_0
   have hm0_0 := hm19
   clear hm19
   refine WL_val (dd := some 3) rfl rfl rfl (r_assign (v := .int .i64 1) rfl) ?_
   refine WL_nil ?_
   refine hK16 _ _ ?_
   clear hK16 K15
   refine WC_ret ?_
   repeat (first | refine thenQ_ret ?_ | refine blockQ_ret ?_)
   try clear hK7 K6
   refine ret_ct rfl tb_ag69 hm0_0 rfl (v1 := .int .i64 1) rfl ?_
   refine ⟨hB, ?_⟩
   rw [if_neg (by omega)]
  ·
   try with_reducible replace hc0 := of_decide_eq_false hc0
   refine WC_skip ?_
   refine hK7 _ _ ?_
   clear hK7 K6
   refine WC_seq (fun K20 hK21 => ?_)
   have hn : 0 ≤ n ∧ n ≤ 8 := by omega
   refine WC_region ?_
   refine WL_step (dd := some 4) rfl rfl rfl (Y_alloc tb_z69 rfl (fun b3_0 W22 hb23 hE24 hm3_0 => ?_))
   have lo_b3_0 : w.heap.size ≤ b3_0 := hb23 ▸ (Below.size hB)
   have ne_b0_0_b3_0 : b0_0 ≠ b3_0 := Nat.ne_of_lt (hb23 ▸ hm0_0.lt)
   clear hb23
   replace hB := below_ext hB hE24 (Nat.le_refl _)
   replace hm0_0 := hE24.at hm0_0
   clear hE24
   replace hm3_0 : At W22 b3_0 #[wv 0 0, wv 0 1, wv 0 2, wv 0 3] 69 := hm3_0
   refine WL_nil ?_
   refine hK21 _ _ ?_
   clear hK21 K20
   refine WC_seq (fun K25 hK26 => ?_)
   refine WC_seq (fun K27 hK28 => ?_)
   have hp := two_pow_le hn.2
   refine WC_region ?_
   refine WL_val (dd := some 13) rfl rfl rfl (r_move (v := .int .i64 _) rfl) ?_
   refine WL_val (dd := some 14) rfl rfl rfl (r_shl (m := 1) rfl rfl (by omega) (by simp only [IntKind.bits]; omega) (by exact shl1 _ _ (by simp only [bitsN]; omega))) ?_
   refine WL_val (dd := some 15) rfl rfl rfl (r_move (v := .int .i64 0) rfl) ?_
   refine WL_nil ?_
   refine hK28 _ _ ?_
   clear hK28 K27
   refine WC_block ?_
   refine WC_loop (σ := (Nat)) [5, 15, 16, 17, 18, 19, 20, 21] (fun k => [(15, .int .i64 (k : Int))]) (fun k W => (Below w.heap.size w W) ∧ (At W b0_0 _ 69) ∧ (At W b3_0 #[wv (firstS k) 0, wv (firstS k) 1, wv (firstS k) 2, wv (firstS k) 3] 69) ∧ (k ≤ 2 ^ n.toNat) ∧ (True)) (fun k => 2 ^ n.toNat - k) (0) ⟨rfl, trivial⟩ ⟨hB, hm0_0, hm3_0, (Nat.zero_le _), trivial⟩ ?_
   clear hB hm0_0 hm3_0
   rintro k g30 W29 ⟨hB, hm0_0, hm3_0, hk, _⟩ J31 hJ32
   refine WC_seq (fun K33 hK34 => ?_)
   refine WC_region ?_
   refine WL_val (dd := some 16) rfl rfl rfl (r_lss rfl rfl) ?_
   refine WL_nil ?_
   refine hK34 _ _ ?_
   clear hK34 K33
   refine WC_seq (fun K35 hK36 => ?_)
   refine WC_cond (b := _) rfl (fun hc1 => ?_) (fun hc1 => ?_)
   ·
    try with_reducible replace hc1 := of_decide_eq_true hc1
    refine WC_skip ?_
    refine hK36 _ _ ?_
    clear hK36 K35
    refine WC_seq (fun K37 hK38 => ?_)
    refine WC_block ?_
    refine WC_seq (fun K39 hK40 => ?_)
    refine WC_region ?_
    refine WL_val (dd := some 17) rfl rfl rfl (r_move (v := .int .i64 _) rfl) ?_
    refine WL_val (dd := some 5) rfl rfl rfl (r_assign (v := .int .i64 _) rfl) ?_
    refine WL_nil ?_
    refine hK40 _ _ ?_
    clear hK40 K39
    refine WC_region ?_
    refine WL_val (dd := some 18) rfl rfl rfl (r_loadW rfl tb_ag69 rfl hm3_0) ?_
    refine WL_val (dd := some 19) rfl rfl rfl (r_move (v := .int .i64 _) rfl) ?_
    refine WL_call (dd := some 20) rfl rfl rfl (r_call2 tb_c129 (v0 := .agg #[_, _, _, _]) rfl (v1 := .int .i64 _) rfl) (C_set_With _ _ _) (fun v7_2 W41 hE42 hP7_2 => ?_)
    have hsz43 := (Below.size hB)
    replace hB := below_ext hB hE42 (Nat.le_refl _)
    replace hm0_0 := hE42.at hm0_0
    replace hm3_0 := hE42.at hm3_0
    clear hE42
    clear hsz43
    obtain rfl := hP7_2
    rw [withS_firstS (by simp only [Nat.one_mul] at hc1; omega)]
    refine WL_step (dd := none) rfl rfl rfl (Y_storeW rfl rfl tb_ag69 rfl hm3_0 rfl (by rfl) (fun W44 hG45 hm46 => ?_))
    replace hB := below_grown hB hG45 (Nat.le_refl _) (fun j hj => by cases hj; exact lo_b3_0)
    replace hm0_0 := At.grownNe hm0_0 ne_b0_0_b3_0 hG45
    clear hG45 hm3_0
    have hm3_0 := hm46
    clear hm46
    refine WL_nil ?_
    refine hK38 _ _ ?_
    clear hK38 K37
    refine WC_region ?_
    refine WL_val (dd := some 21) rfl rfl rfl (r_addI rfl rfl (by omega) (by omega)) ?_
    refine WL_val (dd := some 15) rfl rfl rfl (r_move (v := .int .i64 _) rfl) ?_
    refine WL_nil ?_
    refine hJ32 _ _ (k + 1) ?_ ?_ ?_ ?_
    · repeat (first | exact agree.mask _ _ _ | refine agree.updo ?_ rfl _ | refine agree.updL ?_ _ rfl | refine agree.maskS rfl ?_)
    · exact ⟨rfl, trivial⟩
    · exact ⟨hB, hm0_0, hm3_0, (by simp only [Nat.one_mul] at hc1; omega), trivial⟩
    · simp only [Nat.one_mul] at hc1; omega
   ·
    try with_reducible replace hc1 := of_decide_eq_false hc1
    refine WC_exit ?_
    refine hK26 _ _ ?_
    clear hK36 K35
    clear hJ32 J31
    clear hK26 K25
    refine WC_seq (fun K47 hK48 => ?_)
    refine WC_region ?_
    refine WL_val (dd := some 22) rfl rfl rfl (r_loadW rfl tb_ag69 rfl hm3_0) ?_
    refine WL_step (dd := none) rfl rfl rfl (Y_storeW rfl rfl tb_ag69 rfl hm0_0 rfl (by rfl) (fun W49 hG50 hm51 => ?_))
    replace hB := below_grown hB hG50 (Nat.le_refl _) (fun j hj => by cases hj; exact lo_b0_0)
    replace hm3_0 := At.grownNe hm3_0 (Ne.symm ne_b0_0_b3_0) hG50
    clear hG50 hm0_0
    have hm0_0 := hm51
    clear hm51
    refine WL_val (dd := some 3) rfl rfl rfl (r_assign (v := .int .i64 0) rfl) ?_
    refine WL_nil ?_
    refine hK48 _ _ ?_
    clear hK48 K47
    refine WC_ret ?_
    repeat (first | refine thenQ_ret ?_ | refine blockQ_ret ?_)
    refine ret_ct rfl tb_ag69 hm0_0 rfl (v1 := .int .i64 0) rfl ?_
    refine ⟨hB, ?_⟩
    obtain rfl : k = 2 ^ n.toNat := by simp only [Nat.one_mul] at hc1; omega
    rw [if_pos hn]; rfl

theorem C_set_List (s : Nat) (w : World) :
    Fn Try.prog 108 #[setV s] w fun v w' => OwT encI 1 3 w' w.heap.size v (listS s) := by
 refine Fn_intro (n := 17) Try.func108 rfl rfl (Nat.le_of_ble_eq_true rfl) ?_
 have hB : Below w.heap.size w w := Below.refl _ _
 refine WC_seq (fun K1 hK2 => ?_)
 refine WC_region ?_
 refine WL_step (dd := some 1) rfl rfl rfl (Y_box (c := #[_, _, _, _]) rfl rfl (fun b0_0 W3 hb4 hE5 hm0_0 => ?_))
 have lo_b0_0 : w.heap.size ≤ b0_0 := hb4 ▸ (Below.size hB)
 clear hb4
 replace hB := below_ext hB hE5 (Nat.le_refl _)
 clear hE5
 refine WL_val (dd := some 2) rfl rfl rfl (r_assign (v := .slice none 0 0) rfl) ?_
 refine WL_nil ?_
 refine hK2 _ _ ?_
 clear hK2 K1
 refine WC_seq (fun K6 hK7 => ?_)
 refine WC_region ?_
 refine WL_val (dd := some 3) rfl rfl rfl (r_assign (v := .slice none 0 0) rfl) ?_
 refine WL_nil ?_
 refine hK7 _ _ ?_
 clear hK7 K6
 refine WC_seq (fun K8 hK9 => ?_)
 refine WC_seq (fun K10 hK11 => ?_)
 refine WC_region ?_
 refine WL_val (dd := some 5) rfl rfl rfl (r_move (v := .int .i64 0) rfl) ?_
 refine WL_nil ?_
 refine hK11 _ _ ?_
 clear hK11 K10
 refine WC_block ?_
 refine WC_loop (σ := (Nat) × (Value)) [3, 4, 5, 6, 7, 8, 9, 10, 11, 12, 13, 14, 15] (fun (k, v0) => [(5, .int .i64 (k : Int)), (3, v0)]) (fun sg W => match sg with | (k, v0) => (Below w.heap.size w W) ∧ (At W b0_0 _ 69) ∧ (OwT encI 1 3 W w.heap.size v0 (listTo s k)) ∧ (k ≤ 256) ∧ (True)) (fun (k, v0) => 256 - k) ((0, .slice none 0 0)) ⟨rfl, rfl, trivial⟩ ⟨hB, hm0_0, OwT.nil, (by omega), trivial⟩ ?_
 clear hB hm0_0
 rintro ⟨k, v0⟩ g13 W12 ⟨hB, hm0_0, ho, hk, _⟩ J14 hJ15
 refine WC_seq (fun K16 hK17 => ?_)
 refine WC_region ?_
 refine WL_val (dd := some 6) rfl rfl rfl (r_lss rfl rfl) ?_
 refine WL_nil ?_
 refine hK17 _ _ ?_
 clear hK17 K16
 refine WC_seq (fun K18 hK19 => ?_)
 refine WC_cond (b := _) rfl (fun hc0 => ?_) (fun hc0 => ?_)
 ·
  try with_reducible replace hc0 := of_decide_eq_true hc0
  refine WC_skip ?_
  refine hK19 _ _ ?_
  clear hK19 K18
  refine WC_seq (fun K20 hK21 => ?_)
  refine WC_block ?_
  refine WC_seq (fun K22 hK23 => ?_)
  refine WC_region ?_
  refine WL_val (dd := some 7) rfl rfl rfl (r_move (v := .int .i64 _) rfl) ?_
  refine WL_val (dd := some 4) rfl rfl rfl (r_assign (v := .int .i64 _) rfl) ?_
  refine WL_nil ?_
  refine hK23 _ _ ?_
  clear hK23 K22
  refine WC_seq (fun K24 hK25 => ?_)
  refine WC_region ?_
  refine WL_val (dd := some 8) rfl rfl rfl (r_loadW rfl tb_ag69 rfl hm0_0) ?_
  refine WL_val (dd := some 9) rfl rfl rfl (r_move (v := .int .i64 _) rfl) ?_
  refine WL_call (dd := some 10) rfl rfl rfl (r_call2 tb_c134 (v0 := .agg #[_, _, _, _]) rfl (v1 := .int .i64 _) rfl) (C_set_Has _ _ _) (fun v5_2 W26 hE27 hP5_2 => ?_)
  have hsz28 := (Below.size hB)
  replace hB := below_ext hB hE27 (Nat.le_refl _)
  replace hm0_0 := hE27.at hm0_0
  replace ho := hE27.ow ho
  clear hE27
  clear hsz28
  obtain rfl := hP5_2
  refine WL_nil ?_
  refine hK25 _ _ ?_
  clear hK25 K24
  refine WC_cond (b := _) rfl (fun hc1 => ?_) (fun hc1 => ?_)
  ·
   try with_reducible replace hc1 := of_decide_eq_true hc1
   refine WC_region ?_
   refine WL_val (dd := some 11) rfl rfl rfl (r_move (v := v0) rfl) ?_
   refine WL_val (dd := some 12) rfl rfl rfl (r_move (v := .int .i64 _) rfl) ?_
   refine WL_step (dd := some 13) rfl rfl rfl (Y_lit1 (u := .int .i64 _) rfl tb_el22 tb_zs3 rfl (by decide) (by decide) (fun b6_2 W29 hb30 hE31 hm6_2 => ?_))
   have lo_b6_2 : w.heap.size ≤ b6_2 := hb30 ▸ (Below.size hB)
   have no_v0_b6_2 := OwT.neB (b := b6_2) ho (Nat.le_of_eq hb30.symm)
   clear hb30
   replace hB := below_ext hB hE31 (Nat.le_refl _)
   replace hm0_0 := hE31.at hm0_0
   replace ho := hE31.ow ho
   clear hE31
   refine WL_step (dd := some 14) rfl rfl rfl (Y_append (v := v0) (v2 := .slice (some ⟨b6_2, 0, none⟩) 1 1) rfl rfl tb_el22 tb_zs3 (by decide) ho (sl_lit1 hm6_2 rfl) rfl (by have := Below.size hB; omega) (by have := listTo_len s k; omega) (by have := listTo_len s k; omega) (fun v6_3 W32 hG33 ho6_3 => ?_))
   replace ho6_3 := OwT.snoc (enc := encI) (x := _) rfl rfl rfl rfl ho6_3
   clear hm6_2
   replace hB := below_grown hB hG33 (Nat.le_refl _) (fun j hj => (OwT.lt ho j hj))
   replace hm0_0 := At.grownOw hm0_0 ho hG33 (by decide)
   clear hG33
   clear ho
   refine WL_val (dd := some 3) rfl rfl rfl (r_assign (v := v6_3) rfl) ?_
   refine WL_nil ?_
   refine hK21 _ _ ?_
   clear hK21 K20
   refine WC_region ?_
   refine WL_val (dd := some 15) rfl rfl rfl (r_addI rfl rfl (by omega) (by omega)) ?_
   refine WL_val (dd := some 5) rfl rfl rfl (r_move (v := .int .i64 _) rfl) ?_
   refine WL_nil ?_
   rw [hasB_nat (by omega)] at hc1
   refine hJ15 _ _ ((k + 1, v6_3)) ?_ ?_ ?_ ?_
   · repeat (first | exact agree.mask _ _ _ | refine agree.updo ?_ rfl _ | refine agree.updL ?_ _ rfl | refine agree.maskS rfl ?_)
   · exact ⟨rfl, rfl, trivial⟩
   · exact ⟨hB, hm0_0, (by first | (rw [listTo_succ, if_pos hc1]; exact ho6_3) | (rw [listTo_succ, if_neg (by rw [hc1]; decide)]; exact ho6_3)), (by omega), trivial⟩
   · show 256 - (k + 1) < 256 - k; omega
  ·
   try with_reducible replace hc1 := of_decide_eq_false hc1
   refine WC_skip ?_
   refine hK21 _ _ ?_
   clear hK21 K20
   refine WC_region ?_
   refine WL_val (dd := some 15) rfl rfl rfl (r_addI rfl rfl (by omega) (by omega)) ?_
   refine WL_val (dd := some 5) rfl rfl rfl (r_move (v := .int .i64 _) rfl) ?_
   refine WL_nil ?_
   rw [hasB_nat (by omega)] at hc1
   refine hJ15 _ _ ((k + 1, v0)) ?_ ?_ ?_ ?_
   · repeat (first | exact agree.mask _ _ _ | refine agree.updo ?_ rfl _ | refine agree.updL ?_ _ rfl | refine agree.maskS rfl ?_)
   · exact ⟨rfl, rfl, trivial⟩
   · exact ⟨hB, hm0_0, (by first | (rw [listTo_succ, if_pos hc1]; exact ho) | (rw [listTo_succ, if_neg (by rw [hc1]; decide)]; exact ho)), (by omega), trivial⟩
   · show 256 - (k + 1) < 256 - k; omega
 ·
  try with_reducible replace hc0 := of_decide_eq_false hc0
  refine WC_exit ?_
  refine hK9 _ _ ?_
  clear hK19 K18
  clear hJ15 J14
  clear hK9 K8
  refine WC_seq (fun K35 hK36 => ?_)
  refine WC_region ?_
  refine WL_val (dd := some 16) rfl rfl rfl (r_move (v := v0) rfl) ?_
  refine WL_val (dd := some 2) rfl rfl rfl (r_assign (v := v0) rfl) ?_
  refine WL_nil ?_
  refine hK36 _ _ ?_
  clear hK36 K35
  refine WC_ret ?_
  repeat (first | refine thenQ_ret ?_ | refine blockQ_ret ?_)
  refine ret_t (v := v0) rfl ?_
  refine ⟨hB, ?_⟩
  obtain rfl : k = 256 := by omega
  exact ho

theorem C_set_Half (s : Nat) (i : Int) (one : Bool) (w : World) :
    Fn Try.prog 132 #[setV s, .int .i64 i, .bool one] w fun v w' => v = setV (if 0 ≤ i ∧ i < 8 then halfS s i.toNat one else 0) := by
 refine Fn_intro (n := 36) Try.func132 rfl rfl (Nat.le_of_ble_eq_true rfl) ?_
 have hB : Below w.heap.size w w := Below.refl _ _
 refine WC_seq (fun K1 hK2 => ?_)
 refine WC_region ?_
 refine WL_step (dd := some 3) rfl rfl rfl (Y_box (c := #[_, _, _, _]) rfl rfl (fun b0_0 W3 hb4 hE5 hm0_0 => ?_))
 have lo_b0_0 : w.heap.size ≤ b0_0 := hb4 ▸ (Below.size hB)
 clear hb4
 replace hB := below_ext hB hE5 (Nat.le_refl _)
 clear hE5
 refine WL_step (dd := some 6) rfl rfl rfl (Y_alloc tb_z69 rfl (fun b0_1 W6 hb7 hE8 hm0_1 => ?_))
 have lo_b0_1 : w.heap.size ≤ b0_1 := hb7 ▸ (Below.size hB)
 have ne_b0_0_b0_1 : b0_0 ≠ b0_1 := Nat.ne_of_lt (hb7 ▸ hm0_0.lt)
 clear hb7
 replace hB := below_ext hB hE8 (Nat.le_refl _)
 replace hm0_0 := hE8.at hm0_0
 clear hE8
 replace hm0_1 : At W6 b0_1 #[wv 0 0, wv 0 1, wv 0 2, wv 0 3] 69 := hm0_1
 refine WL_nil ?_
 refine hK2 _ _ ?_
 clear hK2 K1
 refine WC_seq (fun K9 hK10 => ?_)
 refine WC_region ?_
 refine WL_step (dd := some 7) rfl rfl rfl (Y_alloc tb_z69 rfl (fun b1_0 W11 hb12 hE13 hm1_0 => ?_))
 have lo_b1_0 : w.heap.size ≤ b1_0 := hb12 ▸ (Below.size hB)
 have ne_b0_0_b1_0 : b0_0 ≠ b1_0 := Nat.ne_of_lt (hb12 ▸ hm0_0.lt)
 have ne_b0_1_b1_0 : b0_1 ≠ b1_0 := Nat.ne_of_lt (hb12 ▸ hm0_1.lt)
 clear hb12
 replace hB := below_ext hB hE13 (Nat.le_refl _)
 replace hm0_0 := hE13.at hm0_0
 replace hm0_1 := hE13.at hm0_1
 clear hE13
 replace hm1_0 : At W11 b1_0 #[wv 0 0, wv 0 1, wv 0 2, wv 0 3] 69 := hm1_0
 refine WL_nil ?_
 refine hK10 _ _ ?_
 clear hK10 K9
 refine WC_seq (fun K14 hK15 => ?_)
 refine WC_seq (fun K16 hK17 => ?_)
 refine WC_region ?_
 refine WL_val (dd := some 10) rfl rfl rfl (r_move (v := .int .i64 _) rfl) ?_
 refine WL_val (dd := some 11) rfl rfl rfl (r_lss rfl rfl) ?_
 refine WL_split (dd := some 12) rfl rfl rfl (r_move (v := .bool _) rfl) (fun hs2_2 => ?_) (fun hs2_2 => ?_)
 ·
  try with_reducible replace hs2_2 := of_decide_eq_true hs2_2
  refine WL_skip (dd := some 13) rfl rfl rfl ?_
  refine WL_skip (dd := some 14) rfl rfl rfl ?_
  refine WL_val (dd := some 15) rfl rfl rfl (r_pick_t rfl (v := .bool true) rfl) ?_
  refine WL_nil ?_
  refine hK17 _ _ ?_
  clear hK17 K16
  refine WC_cond_true rfl ?_
  refine WC_seq (fun K18 hK19 => ?_)
  refine WC_region ?_
  refine WL_val (dd := some 16) rfl rfl rfl (r_loadW rfl tb_ag69 rfl hm1_0) ?_
  refine WL_step (dd := none) rfl rfl rfl (Y_storeW rfl rfl tb_ag69 rfl hm0_1 rfl (by rfl) (fun W20 hG21 hm22 => ?_))
  replace hB := below_grown hB hG21 (Nat.le_refl _) (fun j hj => by cases hj; exact lo_b0_1)
  replace hm0_0 := At.grownNe hm0_0 ne_b0_0_b0_1 hG21
  replace hm1_0 := At.grownNe hm1_0 (Ne.symm ne_b0_1_b1_0) hG21
  clear hG21 hm0_1
  have hm0_1 := hm22
  clear hm22
  refine WL_nil ?_
  refine hK19 _ _ ?_
  clear hK19 K18
  refine WC_ret ?_
  repeat (first | refine thenQ_ret ?_ | refine blockQ_ret ?_)
  try clear hK15 K14
  refine ret_c rfl tb_ag69 hm0_1 rfl ?_
  refine ⟨hB, ?_⟩
  rw [if_neg (by omega)]
 ·
  try with_reducible replace hs2_2 := of_decide_eq_false hs2_2
  refine WL_val (dd := some 13) rfl rfl rfl (r_move (v := .int .i64 _) rfl) ?_
  refine WL_val (dd := some 14) rfl rfl rfl (r_geq rfl rfl) ?_
  refine WL_val (dd := some 15) rfl rfl rfl (r_pick_f rfl (v := .bool _) rfl) ?_
  refine WL_nil ?_
  refine hK17 _ _ ?_
  clear hK17 K16
  refine WC_cond (b := _) rfl (fun hc0 => ?_) (fun hc0 => ?_)
  ·
   try with_reducible replace hc0 := of_decide_eq_true hc0
   refine WC_seq (fun K23 hK24 => ?_)
   refine WC_region ?_
   refine WL_val (dd := some 16) rfl rfl rfl (r_loadW rfl tb_ag69 rfl hm1_0) ?_
   refine WL_step (dd := none) rfl rfl rfl (Y_storeW rfl rfl tb_ag69 rfl hm0_1 rfl (by rfl) (fun W25 hG26 hm27 => ?_))
   replace hB := below_grown hB hG26 (Nat.le_refl _) (fun j hj => by cases hj; exact lo_b0_1)
   replace hm0_0 := At.grownNe hm0_0 ne_b0_0_b0_1 hG26
   replace hm1_0 := At.grownNe hm1_0 (Ne.symm ne_b0_1_b1_0) hG26
   clear hG26 hm0_1
   have hm0_1 := hm27
   clear hm27
   refine WL_nil ?_
   refine hK24 _ _ ?_
   clear hK24 K23
   refine WC_ret ?_
   repeat (first | refine thenQ_ret ?_ | refine blockQ_ret ?_)
   try clear hK15 K14
   refine ret_c rfl tb_ag69 hm0_1 rfl ?_
   refine ⟨hB, ?_⟩
   rw [if_neg (by omega)]
  ·
   try with_reducible replace hc0 := of_decide_eq_false hc0
   refine WC_skip ?_
   refine hK15 _ _ ?_
   clear hK15 K14
   refine WC_seq (fun K28 hK29 => ?_)
   refine WC_seq (fun K30 hK31 => ?_)
   have hi : 0 ≤ i ∧ i < 8 := by omega
   have hl := listS_len s
   refine WC_region ?_
   refine WL_val (dd := some 17) rfl rfl rfl (r_loadW rfl tb_ag69 rfl hm0_0) ?_
   refine WL_call (dd := some 18) rfl rfl rfl (r_call1 tb_c108 (v0 := .agg #[_, _, _, _]) rfl) (C_set_List _ _) (fun v4_1 W32 hE33 hP4_1 => ?_)
   have hsz34 := (Below.size hB)
   replace hB := below_ext hB hE33 (Nat.le_refl _)
   replace hm0_0 := hE33.at hm0_0
   replace hm0_1 := hE33.at hm0_1
   replace hm1_0 := hE33.at hm1_0
   clear hE33
   replace hP4_1 := OwT.mono hP4_1 hsz34
   clear hsz34
   refine WL_val (dd := some 19) rfl rfl rfl (r_lenS (v := v4_1) rfl hP4_1.sl tb_el22) ?_
   refine WL_val (dd := some 20) rfl rfl rfl (r_move (v := .int .i64 0) rfl) ?_
   refine WL_nil ?_
   refine hK31 _ _ ?_
   clear hK31 K30
   refine WC_block ?_
   refine WC_loop (σ := (Nat)) [9, 20, 21, 22, 23, 24, 25, 26, 27, 28, 29, 30, 31, 32, 33, 34] (fun k => [(20, .int .i64 (k : Int))]) (fun k W => (Below w.heap.size w W) ∧ (At W b0_0 _ 69) ∧ (At W b0_1 _ 69) ∧ (OwT encI 1 3 W w.heap.size v4_1 _) ∧ (At W b1_0 #[wv (halfTo (listS s) i.toNat one k) 0, wv (halfTo (listS s) i.toNat one k) 1, wv (halfTo (listS s) i.toNat one k) 2, wv (halfTo (listS s) i.toNat one k) 3] 69) ∧ (k ≤ (listS s).length) ∧ (True)) (fun k => (listS s).length - k) (0) ⟨rfl, trivial⟩ ⟨hB, hm0_0, hm0_1, hP4_1, hm1_0, (Nat.zero_le _), trivial⟩ ?_
   clear hB hm0_0 hm0_1 hm1_0 hP4_1
   rintro k g36 W35 ⟨hB, hm0_0, hm0_1, hP4_1, hm1_0, hk, _⟩ J37 hJ38
   refine WC_seq (fun K39 hK40 => ?_)
   refine WC_region ?_
   refine WL_val (dd := some 21) rfl rfl rfl (r_lss rfl rfl) ?_
   refine WL_nil ?_
   refine hK40 _ _ ?_
   clear hK40 K39
   refine WC_seq (fun K41 hK42 => ?_)
   refine WC_cond (b := _) rfl (fun hc1 => ?_) (fun hc1 => ?_)
   ·
    try with_reducible replace hc1 := of_decide_eq_true hc1
    refine WC_skip ?_
    refine hK42 _ _ ?_
    clear hK42 K41
    refine WC_seq (fun K43 hK44 => ?_)
    refine WC_block ?_
    refine WC_seq (fun K45 hK46 => ?_)
    refine WC_region ?_
    refine WL_val (dd := some 22) rfl rfl rfl (r_idxS (v := v4_1) rfl hP4_1.sl rfl tb_el22 (by omega) (by omega)) ?_
    refine WL_val (dd := some 23) rfl rfl rfl (r_load1 (v := .int .i64 _) rfl tb_sc3 (SlT.cell hP4_1.sl encI_len 0 (by omega) (by omega) 0 rfl)) ?_
    refine WL_val (dd := some 9) rfl rfl rfl (r_assign (v := .int .i64 _) rfl) ?_
    refine WL_nil ?_
    refine hK46 _ _ ?_
    clear hK46 K45
    refine WC_seq (fun K47 hK48 => ?_)
    obtain ⟨p, hp1, hp2, hp3⟩ := listS_get (s := s) (i := k) (by omega)
    have hp4 : (listS s).getD (k : Int).toNat 0 = (p : Int) := hp3
    rw [hp4]
    refine WC_region ?_
    refine WL_val (dd := some 24) rfl rfl rfl (r_move (v := .int .i64 _) rfl) ?_
    refine WL_val (dd := some 25) rfl rfl rfl (r_move (v := .int .i64 _) rfl) ?_
    refine WL_val (dd := some 26) rfl rfl rfl (r_shr rfl rfl (by omega) (by simp only [IntKind.bits]; omega)) ?_
    refine WL_val (dd := some 27) rfl rfl rfl (r_and (n := 1) rfl rfl rfl (by exact Nat.lt_of_le_of_lt (Nat.div_le_self _ _) (by simp only [topN]; omega)) (by first | assumption | (simp only [topN]; omega) | (simp only [topN]; decide))) ?_
    refine WL_val (dd := some 28) rfl rfl rfl (r_eql rfl rfl) ?_
    refine WL_val (dd := some 29) rfl rfl rfl (r_move (v := .bool _) rfl) ?_
    refine WL_val (dd := some 30) rfl rfl rfl (r_eqlB rfl rfl Try.underlying4) ?_
    refine WL_nil ?_
    refine hK48 _ _ ?_
    clear hK48 K47
    refine WC_cond (b := _) rfl (fun hc2 => ?_) (fun hc2 => ?_)
    ·
     try with_reducible replace hc2 := of_decide_eq_true hc2
     refine WC_region ?_
     refine WL_val (dd := some 31) rfl rfl rfl (r_loadW rfl tb_ag69 rfl hm1_0) ?_
     refine WL_val (dd := some 32) rfl rfl rfl (r_move (v := .int .i64 _) rfl) ?_
     refine WL_call (dd := some 33) rfl rfl rfl (r_call2 tb_c129 (v0 := .agg #[_, _, _, _]) rfl (v1 := .int .i64 _) rfl) (C_set_With _ _ _) (fun v8_2 W49 hE50 hP8_2 => ?_)
     have hsz51 := (Below.size hB)
     replace hB := below_ext hB hE50 (Nat.le_refl _)
     replace hm0_0 := hE50.at hm0_0
     replace hm0_1 := hE50.at hm0_1
     replace hP4_1 := hE50.ow hP4_1
     replace hm1_0 := hE50.at hm1_0
     clear hE50
     clear hsz51
     obtain rfl := hP8_2
     refine WL_step (dd := none) rfl rfl rfl (Y_storeW rfl rfl tb_ag69 rfl hm1_0 rfl (by rfl) (fun W52 hG53 hm54 => ?_))
     replace hB := below_grown hB hG53 (Nat.le_refl _) (fun j hj => by cases hj; exact lo_b1_0)
     replace hm0_0 := At.grownNe hm0_0 ne_b0_0_b1_0 hG53
     replace hm0_1 := At.grownNe hm0_1 ne_b0_1_b1_0 hG53
     replace hP4_1 := OwT.grownAt hP4_1 hm1_0 hG53 (by decide)
     clear hG53 hm1_0
     have hm1_0 := hm54
     clear hm54
     refine WL_nil ?_
     refine hK44 _ _ ?_
     clear hK44 K43
     refine WC_region ?_
     refine WL_val (dd := some 34) rfl rfl rfl (r_addI rfl rfl (by omega) (by omega)) ?_
     refine WL_val (dd := some 20) rfl rfl rfl (r_move (v := .int .i64 _) rfl) ?_
     refine WL_nil ?_
     rw [and_one, dec_cast] at hc2
     refine hJ38 _ _ (k + 1) ?_ ?_ ?_ ?_
     · repeat (first | exact agree.mask _ _ _ | refine agree.updo ?_ rfl _ | refine agree.updL ?_ _ rfl | refine agree.maskS rfl ?_)
     · exact ⟨rfl, trivial⟩
     · exact ⟨hB, hm0_0, hm0_1, hP4_1, (by first | (rw [halfTo_succ (by omega), hp3, Int.toNat_natCast, if_pos (by simpa using hc2)]; exact hm1_0) | (rw [halfTo_succ (by omega), hp3, Int.toNat_natCast, if_neg (by simpa using hc2)]; exact hm1_0)), (by omega), trivial⟩
     · first | omega | (dsimp only; omega)
    ·
     try with_reducible replace hc2 := of_decide_eq_false hc2
     refine WC_skip ?_
     refine hK44 _ _ ?_
     clear hK44 K43
     refine WC_region ?_
     refine WL_val (dd := some 34) rfl rfl rfl (r_addI rfl rfl (by omega) (by omega)) ?_
     refine WL_val (dd := some 20) rfl rfl rfl (r_move (v := .int .i64 _) rfl) ?_
     refine WL_nil ?_
     rw [and_one, dec_cast] at hc2
     refine hJ38 _ _ (k + 1) ?_ ?_ ?_ ?_
     · repeat (first | exact agree.mask _ _ _ | refine agree.updo ?_ rfl _ | refine agree.updL ?_ _ rfl | refine agree.maskS rfl ?_)
     · exact ⟨rfl, trivial⟩
     · exact ⟨hB, hm0_0, hm0_1, hP4_1, (by first | (rw [halfTo_succ (by omega), hp3, Int.toNat_natCast, if_pos (by simpa using hc2)]; exact hm1_0) | (rw [halfTo_succ (by omega), hp3, Int.toNat_natCast, if_neg (by simpa using hc2)]; exact hm1_0)), (by omega), trivial⟩
     · first | omega | (dsimp only; omega)
   ·
    try with_reducible replace hc1 := of_decide_eq_false hc1
    refine WC_exit ?_
    refine hK29 _ _ ?_
    clear hK42 K41
    clear hJ38 J37
    clear hK29 K28
    refine WC_seq (fun K55 hK56 => ?_)
    refine WC_region ?_
    refine WL_val (dd := some 35) rfl rfl rfl (r_loadW rfl tb_ag69 rfl hm1_0) ?_
    refine WL_step (dd := none) rfl rfl rfl (Y_storeW rfl rfl tb_ag69 rfl hm0_1 rfl (by rfl) (fun W57 hG58 hm59 => ?_))
    replace hB := below_grown hB hG58 (Nat.le_refl _) (fun j hj => by cases hj; exact lo_b0_1)
    replace hm0_0 := At.grownNe hm0_0 ne_b0_0_b0_1 hG58
    replace hP4_1 := OwT.grownAt hP4_1 hm0_1 hG58 (by decide)
    replace hm1_0 := At.grownNe hm1_0 (Ne.symm ne_b0_1_b1_0) hG58
    clear hG58 hm0_1
    have hm0_1 := hm59
    clear hm59
    refine WL_nil ?_
    refine hK56 _ _ ?_
    clear hK56 K55
    refine WC_ret ?_
    repeat (first | refine thenQ_ret ?_ | refine blockQ_ret ?_)
    refine ret_c rfl tb_ag69 hm0_1 rfl ?_
    refine ⟨hB, ?_⟩
    obtain rfl : k = (listS s).length := by omega
    rw [if_pos hi, halfS_eq]

end Go.Proofs.Ytpamgfbecgjjeaa
