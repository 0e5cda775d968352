/-
  The walks of the document's first two layers.
-/
import Derived.Test.YtnkaebjaeaecmaaDoorProg
import Derived.Test.YtnkaebjaeaecmaaDoorRef
import Derived.Test.YtnkaebjaeaecmaaDoorWSet
namespace Go.Proofs.YtnkaebjaeaecmaaDoor
set_option linter.unusedVariables false
set_option linter.unusedSimpArgs false
open Go Go.RowKit

theorem tb_c72 : callB Tryd.prog 72 = true := by kernel_rfl
theorem tb_fo42_0 : fieldO Tryd.prog 42 0 = some 0 := by kernel_rfl
theorem tb_sc5 : scalarB Tryd.prog 5 = true := by kernel_rfl
theorem tb_fo42_1 : fieldO Tryd.prog 42 1 = some 1 := by kernel_rfl
theorem tb_el43 : elemI Tryd.prog 43 = some (3, 1, 8) := by kernel_rfl
theorem tb_zs3 : (zeroI Tryd.prog 3).map (fun z => z.cells.size) = some 1 := by kernel_rfl
theorem tb_z42 : zeroI Tryd.prog 42 = some (.agg #[.int .u8 0, .int .u8 0]) := by kernel_rfl
theorem tb_sc3 : scalarB Tryd.prog 3 = true := by kernel_rfl
theorem tb_ag42 : aggN Tryd.prog 42 = some 2 := by kernel_rfl
theorem tb_c41 : callB Tryd.prog 41 = true := by kernel_rfl
theorem tb_c42 : callB Tryd.prog 42 = true := by kernel_rfl
theorem tb_eq42 {f : Nat → Value} {w : World} {d : Option Nat} {ty t2 : TypeId} {ps : String} {af : Array Edge} {g : Option (Nat × Bool)} {x y : Operand} {a0 a1 b0 b1 : Int} (hx : evF f x = .agg #[.int .u8 a0, .int .u8 a1]) (hy : evF f y = .agg #[.int .u8 b0, .int .u8 b1]) :
    (execOp (evF f) ⟨d, .binOp .eql 42 x y t2, ty, ps, af, g⟩).run Tryd.prog w = .ok (.value (.bool (decide ((a0 = b0 ∧ a1 = b1))))) w := by
  have hg : Tryd.prog.eqGuardType Tryd.prog.depth 42 = false := by kernel_rfl
  have hp42 : Tryd.prog.stoodInHeld 42 = false := by kernel_rfl
  have hu42 : Tryd.prog.underlying 42 = some (.struct (Tryd.prog.fieldsOf 42)) := by kernel_rfl
  simp only [execOp, hx, hy, Sem.run_bind, run_eqGuard_agg _ _ _ _ _ _ _ hg, Result.andThen_ok, run_eql_struct, run_equalIn_agg _ 9999 42 _ _ hu42 hp42]
  simp only [Program.fieldsOf, Tryd.underlying42]
  simp [Op.eqFields, part, isAgg, run_equalIn_int _ 9998 5 _ _ _ _ Tryd.underlying5, run_underlying Tryd.underlying5]
  by_cases q0 : a0 = b0 <;> by_cases q1 : a1 = b1 <;> simp [q0, q1]
theorem tb_c62 : callB Tryd.prog 62 = true := by kernel_rfl

theorem C_drawkniferef01_power (n : Nat) (w : World) (hn : n ≤ 63) :
    Fn Tryd.prog 72 #[.int .i64 (n : Int)] w fun v w' => v = .int .u64 ((2 ^ n : Nat) : Int) := by
  refine Fn_intro (n := 13) Tryd.func72 rfl rfl (Nat.le_of_ble_eq_true rfl) ?_
  have hB : Below w.heap.size w w := Below.refl _ _
  refine WC_seq (fun K1 hK2 => ?_)
  refine WC_region ?_
  refine WL_val (dd := some 2) rfl rfl rfl (r_assign (v := .int .u64 0) rfl) ?_
  refine WL_nil ?_
  refine hK2 _ _ ?_
  clear hK2 K1
  refine WC_seq (fun K3 hK4 => ?_)
  refine WC_region ?_
  refine WL_val (dd := some 3) rfl rfl rfl (r_assign (v := .int .u64 1) rfl) ?_
  refine WL_nil ?_
  refine hK4 _ _ ?_
  clear hK4 K3
  refine WC_seq (fun K5 hK6 => ?_)
  refine WC_seq (fun K7 hK8 => ?_)
  refine WC_region ?_
  refine WL_val (dd := some 4) rfl rfl rfl (r_assign (v := .int .i64 0) rfl) ?_
  refine WL_nil ?_
  refine hK8 _ _ ?_
  clear hK8 K7
  refine WC_block ?_
  refine WC_loop (σ := (Nat)) [3, 4, 5, 6, 7, 8, 9, 10, 11] (fun k => [(4, .int .i64 (k : Int)), (3, .int .u64 ((2 ^ k : Nat) : Int))]) (fun k W => (Below w.heap.size w W) ∧ (k ≤ n) ∧ (True)) (fun k => n - k) (0) ⟨rfl, rfl, trivial⟩ ⟨hB, (by omega), trivial⟩ ?_
  clear hB
  rintro k g10 W9 ⟨hB, hk, _⟩ J11 hJ12
  refine WC_seq (fun K13 hK14 => ?_)
  refine WC_seq (fun K15 hK16 => ?_)
  refine WC_region ?_
  refine WL_val (dd := some 5) rfl rfl rfl (r_move (v := .int .i64 _) rfl) ?_
  refine WL_val (dd := some 6) rfl rfl rfl (r_move (v := .int .i64 _) rfl) ?_
  refine WL_val (dd := some 7) rfl rfl rfl (r_lss rfl rfl) ?_
  refine WL_nil ?_
  refine hK16 _ _ ?_
  clear hK16 K15
  refine WC_cond (b := _) rfl (fun hc0 => ?_) (fun hc0 => ?_)
  ·
    try with_reducible replace hc0 := dec_t hc0
    refine WC_skip ?_
    refine hK14 _ _ ?_
    clear hK14 K13
    refine WC_seq (fun K17 hK18 => ?_)
    refine WC_block ?_
    refine WC_region ?_
    refine WL_val (dd := some 10) rfl rfl rfl (r_move (v := .int .u64 _) rfl) ?_
    refine WL_val (dd := some 11) rfl rfl rfl (r_mulN rfl (n := 2) rfl rfl (by exact pow63 (by omega))) ?_
    refine WL_val (dd := some 3) rfl rfl rfl (r_assign (v := .int .u64 _) rfl) ?_
    refine WL_nil ?_
    refine hK18 _ _ ?_
    clear hK18 K17
    refine WC_region ?_
    refine WL_val (dd := some 8) rfl rfl rfl (r_move (v := .int .i64 _) rfl) ?_
    refine WL_val (dd := some 9) rfl rfl rfl (r_addI rfl rfl (by omega) (by omega)) ?_
    refine WL_val (dd := some 4) rfl rfl rfl (r_assign (v := .int .i64 _) rfl) ?_
    refine WL_nil ?_
    refine hJ12 _ _ (k + 1) ?_ ?_ ?_ ?_
    · repeat (first | exact agree.mask _ _ _ | refine agree.updo ?_ rfl _ | refine agree.updL ?_ _ rfl | refine agree.maskS rfl ?_)
    · exact ⟨rfl, rfl, trivial⟩
    · exact ⟨hB, (by omega), trivial⟩
    · first | omega | (dsimp only; omega)
  ·
    try with_reducible replace hc0 := dec_f hc0
    refine WC_exit ?_
    refine hK6 _ _ ?_
    clear hK14 K13
    clear hJ12 J11
    clear hK6 K5
    refine WC_seq (fun K19 hK20 => ?_)
    refine WC_region ?_
    refine WL_val (dd := some 12) rfl rfl rfl (r_move (v := .int .u64 _) rfl) ?_
    refine WL_val (dd := some 2) rfl rfl rfl (r_assign (v := .int .u64 _) rfl) ?_
    refine WL_nil ?_
    refine hK20 _ _ ?_
    clear hK20 K19
    refine WC_ret ?_
    repeat (first | refine thenQ_ret ?_ | refine blockQ_ret ?_)
    refine ret_t (v := .int .u64 _) rfl ?_
    refine ⟨hB, ?_⟩
    obtain rfl : k = n := by omega
    rfl

theorem C_drawkniferef01_Bit (p i : Nat) (w : World) (hp : p < 9223372036854775808) (hi : i < 8) :
    Fn Tryd.prog 62 #[.int .i64 (p : Int), .int .i64 (i : Int)] w fun v w' => v = .int .i64 ((p / 2 ^ i % 2 : Nat) : Int) := by
  refine Fn_intro (n := 11) Tryd.func62 rfl rfl (Nat.le_of_ble_eq_true rfl) ?_
  have hB : Below w.heap.size w w := Below.refl _ _
  have h7 := pow7 hi
  have h0 := Nat.two_pow_pos i
  refine WC_seq (fun K1 hK2 => ?_)
  refine WC_region ?_
  refine WL_val (dd := some 4) rfl rfl rfl (r_assign (v := .int .i64 0) rfl) ?_
  refine WL_nil ?_
  refine hK2 _ _ ?_
  clear hK2 K1
  refine WC_seq (fun K3 hK4 => ?_)
  refine WC_region ?_
  refine WL_val (dd := some 5) rfl rfl rfl (r_move (v := .int .i64 _) rfl) ?_
  refine WL_val (dd := some 6) rfl rfl rfl (r_move (v := .int .i64 _) rfl) ?_
  refine WL_call (dd := some 7) rfl rfl rfl (r_call1 tb_c72 (v0 := .int .i64 _) rfl) (C_drawkniferef01_power _ _ (by first | assumption | omega)) (fun v1_2 W5 hE6 hP1_2 => ?_)
  have hsz7 := (Below.size hB)
  replace hB := below_ext hB hE6 (Nat.le_refl _)
  clear hE6
  clear hsz7
  obtain rfl := hP1_2
  refine WL_val (dd := some 8) rfl rfl rfl (r_convN rfl Tryd.underlying49 Tryd.underlying3 (by simp only [topN]; omega)) ?_
  refine WL_val (dd := some 9) rfl rfl rfl (r_quoN (n := (2 ^ i)) rfl rfl rfl (by omega) (by simp only [topN]; omega)) ?_
  refine WL_val (dd := some 10) rfl rfl rfl (r_remN (n := 2) rfl rfl rfl (by omega)) ?_
  refine WL_val (dd := some 4) rfl rfl rfl (r_assign (v := .int .i64 _) rfl) ?_
  refine WL_nil ?_
  refine hK4 _ _ ?_
  clear hK4 K3
  refine WC_ret ?_
  repeat (first | refine thenQ_ret ?_ | refine blockQ_ret ?_)
  refine ret_t (v := .int .i64 _) rfl ?_
  refine ⟨hB, ?_⟩
  rfl

theorem C_drawkniferef02_Literals (m u : Nat) (w : World) (hm : m < 256) (hv : u < 256) :
    Fn Tryd.prog 41 #[.agg #[.int .u8 (m : Int), .int .u8 (u : Int)]] w fun v w' => OwT encI 1 3 w' w.heap.size v (litsS m u) := by
  refine Fn_intro (n := 32) Tryd.func41 rfl rfl (Nat.le_of_ble_eq_true rfl) ?_
  have hB : Below w.heap.size w w := Below.refl _ _
  refine WC_seq (fun K1 hK2 => ?_)
  refine WC_region ?_
  refine WL_step (dd := some 1) rfl rfl rfl (Y_box (c := #[_, _]) rfl rfl (fun b0_0 W3 hb4 hE5 hm0_0 => ?_))
  have lo_b0_0 : w.heap.size ≤ b0_0 := hb4 ▸ (Below.size hB)
  clear hb4
  replace hB := below_ext hB hE5 (Nat.le_refl _)
  clear hE5
  refine WL_val (dd := some 2) rfl rfl rfl (r_assign (v := .slice none 0 0) rfl) ?_
  refine WL_nil ?_
  refine hK2 _ _ ?_
  clear hK2 K1
  refine WC_seq (fun K6 hK7 => ?_)
  refine WC_region ?_
  refine WL_val (dd := some 3) rfl rfl rfl (r_assign (v := .slice none 0 0) rfl) ?_
  refine WL_nil ?_
  refine hK7 _ _ ?_
  clear hK7 K6
  refine WC_seq (fun K8 hK9 => ?_)
  refine WC_draw Ext tb_mix (fun W10 hE11 => ?_)
  replace hB := below_ext hB hE11 (Nat.le_refl _)
  replace hm0_0 := hE11.at hm0_0
  have hS := Ext.refl W10
  refine WT_take (dd := some 7) 0 rfl (by kernel_rfl) (by kernel_rfl) (by kernel_rfl) rfl rfl rfl (fun _wq _hq => r_fieldAddr (b := _) (o := _) rfl tb_fo42_0) hS ?_
  refine WT_take (dd := some 8) 1 rfl (by kernel_rfl) (by kernel_rfl) (by kernel_rfl) rfl rfl rfl (fun _wq hq => r_load1 (v := .int .u8 _) rfl tb_sc5 (At.cell (hq.at hm0_0) rfl)) hS ?_
  refine WT_take (dd := some 9) 2 rfl (by kernel_rfl) (by kernel_rfl) (by kernel_rfl) rfl rfl rfl (fun _wq _hq => r_fieldAddr (b := _) (o := _) rfl tb_fo42_1) hS ?_
  refine WT_take (dd := some 10) 3 rfl (by kernel_rfl) (by kernel_rfl) (by kernel_rfl) rfl rfl rfl (fun _wq hq => r_load1 (v := .int .u8 _) rfl tb_sc5 (At.cell (hq.at hm0_0) rfl)) hS ?_
  refine WT_take (dd := some 4) 4 rfl (by kernel_rfl) (by kernel_rfl) (by kernel_rfl) rfl rfl rfl (fun _wq _hq => r_assign (v := .int .u8 _) rfl) hS ?_
  refine WT_take (dd := some 5) 5 rfl (by kernel_rfl) (by kernel_rfl) (by kernel_rfl) rfl rfl rfl (fun _wq _hq => r_assign (v := .int .u8 _) rfl) hS ?_
  refine WT_done (by kernel_rfl) ?_
  refine hK9 _ _ ?_
  clear hK9 K8
  refine WC_seq (fun K12 hK13 => ?_)
  refine WC_seq (fun K14 hK15 => ?_)
  refine WC_region ?_
  refine WL_val (dd := some 6) rfl rfl rfl (r_assign (v := .int .i64 0) rfl) ?_
  refine WL_nil ?_
  refine hK15 _ _ ?_
  clear hK15 K14
  refine WC_block ?_
  refine WC_loop (σ := (Nat) × (Value)) [3, 4, 5, 6, 11, 12, 13, 14, 15, 16, 17, 18, 19, 20, 21, 22, 23, 24, 25, 26, 27, 28, 29, 30] (fun (k, v0) => [(6, .int .i64 (k : Int)), (4, .int .u8 ((m / 2 ^ k : Nat) : Int)), (5, .int .u8 ((u / 2 ^ k : Nat) : Int)), (3, v0)]) (fun sg W => match sg with | (k, v0) => (Below w.heap.size w W) ∧ (At W b0_0 _ 42) ∧ (OwT encI 1 3 W w.heap.size v0 (litsTo m u k)) ∧ (k ≤ 8) ∧ (True)) (fun (k, v0) => 8 - k) ((0, .slice none 0 0)) ⟨rfl, congrArg (fun x : Nat => Value.int .u8 (x : Int)) (Nat.div_one _).symm, congrArg (fun x : Nat => Value.int .u8 (x : Int)) (Nat.div_one _).symm, rfl, trivial⟩ ⟨hB, hm0_0, OwT.nil, (by omega), trivial⟩ ?_
  clear hB hm0_0
  rintro ⟨k, v0⟩ g17 W16 ⟨hB, hm0_0, ho, hk, _⟩ J18 hJ19
  refine WC_seq (fun K20 hK21 => ?_)
  refine WC_seq (fun K22 hK23 => ?_)
  refine WC_region ?_
  refine WL_val (dd := some 11) rfl rfl rfl (r_move (v := .int .i64 _) rfl) ?_
  refine WL_val (dd := some 12) rfl rfl rfl (r_lss rfl rfl) ?_
  refine WL_nil ?_
  refine hK23 _ _ ?_
  clear hK23 K22
  refine WC_cond (b := _) rfl (fun hc0 => ?_) (fun hc0 => ?_)
  ·
    try with_reducible replace hc0 := dec_t hc0
    refine WC_skip ?_
    refine hK21 _ _ ?_
    clear hK21 K20
    refine WC_seq (fun K24 hK25 => ?_)
    refine WC_block ?_
    refine WC_seq (fun K26 hK27 => ?_)
    refine WC_seq (fun K28 hK29 => ?_)
    have hmk : m / 2 ^ k < 256 := Nat.lt_of_le_of_lt (Nat.div_le_self _ _) hm
    have hvk : u / 2 ^ k < 256 := Nat.lt_of_le_of_lt (Nat.div_le_self _ _) hv
    refine WC_region ?_
    refine WL_val (dd := some 15) rfl rfl rfl (r_move (v := .int .u8 _) rfl) ?_
    refine WL_val (dd := some 16) rfl rfl rfl (r_remN (n := 2) rfl rfl rfl (by omega)) ?_
    refine WL_val (dd := some 17) rfl rfl rfl (r_eql rfl rfl) ?_
    refine WL_nil ?_
    refine hK29 _ _ ?_
    clear hK29 K28
    refine WC_cond (b := _) rfl (fun hc1 => ?_) (fun hc1 => ?_)
    ·
      try with_reducible replace hc1 := dec_t hc1
      refine WC_region ?_
      refine WL_val (dd := some 18) rfl rfl rfl (r_move (v := v0) rfl) ?_
      refine WL_step (dd := some 19) rfl rfl rfl (Y_lit1 (u := .int .i64 2) rfl tb_el43 tb_zs3 rfl (by decide) (by decide) (fun b7_1 W30 hb31 hE32 hm7_1 => ?_))
      have lo_b7_1 : w.heap.size ≤ b7_1 := hb31 ▸ (Below.size hB)
      have no_v0_b7_1 := OwT.neB (b := b7_1) ho (Nat.le_of_eq hb31.symm)
      clear hb31
      replace hB := below_ext hB hE32 (Nat.le_refl _)
      replace hm0_0 := hE32.at hm0_0
      replace ho := hE32.ow ho
      clear hE32
      refine WL_step (dd := some 20) rfl rfl rfl (Y_append (v := v0) (v2 := .slice (some ⟨b7_1, 0, none⟩) 1 1) rfl rfl tb_el43 tb_zs3 (by decide) ho (sl_lit1 hm7_1 rfl) rfl (by have := Below.size hB; omega) (by simp only [litsTo_len]; omega) (by simp only [litsTo_len]; omega) (fun v7_2 W33 hG34 ho7_2 => ?_))
      replace ho7_2 := OwT.snoc (enc := encI) (x := _) rfl rfl rfl rfl ho7_2
      clear hm7_1
      replace hB := below_grown hB hG34 (Nat.le_refl _) (fun j hj => (OwT.lt ho j hj))
      replace hm0_0 := At.grownOw hm0_0 ho hG34 (by decide)
      clear hG34
      clear ho
      refine WL_val (dd := some 3) rfl rfl rfl (r_assign (v := v7_2) rfl) ?_
      refine WL_nil ?_
      refine hK27 _ _ ?_
      clear hK27 K26
      refine WC_seq (fun K36 hK37 => ?_)
      refine WC_region ?_
      refine WL_val (dd := some 27) rfl rfl rfl (r_move (v := .int .u8 _) rfl) ?_
      refine WL_val (dd := some 28) rfl rfl rfl (r_quoN (n := 2) rfl rfl rfl (by omega) (by first | assumption | (simp only [topN]; omega) | (simp only [topN]; decide))) ?_
      refine WL_val (dd := some 4) rfl rfl rfl (r_assign (v := .int .u8 _) rfl) ?_
      refine WL_nil ?_
      refine hK37 _ _ ?_
      clear hK37 K36
      refine WC_region ?_
      refine WL_val (dd := some 29) rfl rfl rfl (r_move (v := .int .u8 _) rfl) ?_
      refine WL_val (dd := some 30) rfl rfl rfl (r_quoN (n := 2) rfl rfl rfl (by omega) (by first | assumption | (simp only [topN]; omega) | (simp only [topN]; decide))) ?_
      refine WL_val (dd := some 5) rfl rfl rfl (r_assign (v := .int .u8 _) rfl) ?_
      refine WL_nil ?_
      refine hK25 _ _ ?_
      clear hK25 K24
      refine WC_region ?_
      refine WL_val (dd := some 13) rfl rfl rfl (r_move (v := .int .i64 _) rfl) ?_
      refine WL_val (dd := some 14) rfl rfl rfl (r_addI rfl rfl (by omega) (by omega)) ?_
      refine WL_val (dd := some 6) rfl rfl rfl (r_assign (v := .int .i64 _) rfl) ?_
      refine WL_nil ?_
      refine hJ19 _ _ ((k + 1, v7_2)) ?_ ?_ ?_ ?_
      · repeat (first | exact agree.mask _ _ _ | refine agree.updo ?_ rfl _ | refine agree.updL ?_ _ rfl | refine agree.maskS rfl ?_)
      · exact ⟨rfl, congrArg (fun x : Nat => Value.int .u8 (x : Int)) (div_pow m k), congrArg (fun x : Nat => Value.int .u8 (x : Int)) (div_pow u k), rfl, trivial⟩
      · exact ⟨hB, hm0_0, (by first | (rw [litsTo_succ, lit, if_pos (by omega)]; exact ho7_2) | (rw [litsTo_succ, lit, if_neg (by omega)]; exact ho7_2)), (by omega), trivial⟩
      · show 8 - (k + 1) < 8 - k; omega
    ·
      try with_reducible replace hc1 := dec_f hc1
      refine WC_region ?_
      refine WL_val (dd := some 21) rfl rfl rfl (r_move (v := v0) rfl) ?_
      refine WL_val (dd := some 22) rfl rfl rfl (r_move (v := .int .u8 _) rfl) ?_
      refine WL_val (dd := some 23) rfl rfl rfl (r_remN (n := 2) rfl rfl rfl (by omega)) ?_
      refine WL_val (dd := some 24) rfl rfl rfl (r_convN rfl Tryd.underlying5 Tryd.underlying3 (by simp only [topN]; omega)) ?_
      refine WL_step (dd := some 25) rfl rfl rfl (Y_lit1 (u := .int .i64 _) rfl tb_el43 tb_zs3 rfl (by decide) (by decide) (fun b8_4 W38 hb39 hE40 hm8_4 => ?_))
      have lo_b8_4 : w.heap.size ≤ b8_4 := hb39 ▸ (Below.size hB)
      have no_v0_b8_4 := OwT.neB (b := b8_4) ho (Nat.le_of_eq hb39.symm)
      clear hb39
      replace hB := below_ext hB hE40 (Nat.le_refl _)
      replace hm0_0 := hE40.at hm0_0
      replace ho := hE40.ow ho
      clear hE40
      refine WL_step (dd := some 26) rfl rfl rfl (Y_append (v := v0) (v2 := .slice (some ⟨b8_4, 0, none⟩) 1 1) rfl rfl tb_el43 tb_zs3 (by decide) ho (sl_lit1 hm8_4 rfl) rfl (by have := Below.size hB; omega) (by simp only [litsTo_len]; omega) (by simp only [litsTo_len]; omega) (fun v8_5 W41 hG42 ho8_5 => ?_))
      replace ho8_5 := OwT.snoc (enc := encI) (x := _) rfl rfl rfl rfl ho8_5
      clear hm8_4
      replace hB := below_grown hB hG42 (Nat.le_refl _) (fun j hj => (OwT.lt ho j hj))
      replace hm0_0 := At.grownOw hm0_0 ho hG42 (by decide)
      clear hG42
      clear ho
      refine WL_val (dd := some 3) rfl rfl rfl (r_assign (v := v8_5) rfl) ?_
      refine WL_nil ?_
      refine hK27 _ _ ?_
      clear hK27 K26
      refine WC_seq (fun K44 hK45 => ?_)
      refine WC_region ?_
      refine WL_val (dd := some 27) rfl rfl rfl (r_move (v := .int .u8 _) rfl) ?_
      refine WL_val (dd := some 28) rfl rfl rfl (r_quoN (n := 2) rfl rfl rfl (by omega) (by first | assumption | (simp only [topN]; omega) | (simp only [topN]; decide))) ?_
      refine WL_val (dd := some 4) rfl rfl rfl (r_assign (v := .int .u8 _) rfl) ?_
      refine WL_nil ?_
      refine hK45 _ _ ?_
      clear hK45 K44
      refine WC_region ?_
      refine WL_val (dd := some 29) rfl rfl rfl (r_move (v := .int .u8 _) rfl) ?_
      refine WL_val (dd := some 30) rfl rfl rfl (r_quoN (n := 2) rfl rfl rfl (by omega) (by first | assumption | (simp only [topN]; omega) | (simp only [topN]; decide))) ?_
      refine WL_val (dd := some 5) rfl rfl rfl (r_assign (v := .int .u8 _) rfl) ?_
      refine WL_nil ?_
      refine hK25 _ _ ?_
      clear hK25 K24
      refine WC_region ?_
      refine WL_val (dd := some 13) rfl rfl rfl (r_move (v := .int .i64 _) rfl) ?_
      refine WL_val (dd := some 14) rfl rfl rfl (r_addI rfl rfl (by omega) (by omega)) ?_
      refine WL_val (dd := some 6) rfl rfl rfl (r_assign (v := .int .i64 _) rfl) ?_
      refine WL_nil ?_
      refine hJ19 _ _ ((k + 1, v8_5)) ?_ ?_ ?_ ?_
      · repeat (first | exact agree.mask _ _ _ | refine agree.updo ?_ rfl _ | refine agree.updL ?_ _ rfl | refine agree.maskS rfl ?_)
      · exact ⟨rfl, congrArg (fun x : Nat => Value.int .u8 (x : Int)) (div_pow m k), congrArg (fun x : Nat => Value.int .u8 (x : Int)) (div_pow u k), rfl, trivial⟩
      · exact ⟨hB, hm0_0, (by first | (rw [litsTo_succ, lit, if_pos (by omega)]; exact ho8_5) | (rw [litsTo_succ, lit, if_neg (by omega)]; exact ho8_5)), (by omega), trivial⟩
      · show 8 - (k + 1) < 8 - k; omega
  ·
    try with_reducible replace hc0 := dec_f hc0
    refine WC_exit ?_
    refine hK13 _ _ ?_
    clear hK21 K20
    clear hJ19 J18
    clear hK13 K12
    refine WC_seq (fun K46 hK47 => ?_)
    refine WC_region ?_
    refine WL_val (dd := some 31) rfl rfl rfl (r_move (v := v0) rfl) ?_
    refine WL_val (dd := some 2) rfl rfl rfl (r_assign (v := v0) rfl) ?_
    refine WL_nil ?_
    refine hK47 _ _ ?_
    clear hK47 K46
    refine WC_ret ?_
    repeat (first | refine thenQ_ret ?_ | refine blockQ_ret ?_)
    refine ret_t (v := v0) rfl ?_
    refine ⟨hB, ?_⟩
    obtain rfl : k = 8 := by omega
    exact ho

theorem C_drawkniferef02_Cube (x : Value) (l : List Int) (w : World) (hl : SlT encI 1 w x l) (hL : Lits l) :
    Fn Tryd.prog 42 #[x] w fun v w' => v = .agg #[.int .u8 ((maskTo l l.length : Nat) : Int), .int .u8 ((valTo l l.length : Nat) : Int)] := by
  refine Fn_intro (n := 36) Tryd.func42 rfl rfl (Nat.le_of_ble_eq_true rfl) ?_
  have hB : Below w.heap.size w w := Below.refl _ _
  have h8 := hL.1
  refine WC_seq (fun K1 hK2 => ?_)
  refine WC_region ?_
  refine WL_step (dd := some 2) rfl rfl rfl (Y_alloc tb_z42 rfl (fun b0_0 W3 hb4 hE5 hm0_0 => ?_))
  have lo_b0_0 : w.heap.size ≤ b0_0 := hb4 ▸ (Below.size hB)
  clear hb4
  replace hB := below_ext hB hE5 (Nat.le_refl _)
  clear hE5
  refine WL_nil ?_
  refine hK2 _ _ ?_
  clear hK2 K1
  refine WC_seq (fun K6 hK7 => ?_)
  refine WC_region ?_
  refine WL_step (dd := some 3) rfl rfl rfl (Y_alloc tb_z42 rfl (fun b1_0 W8 hb9 hE10 hm1_0 => ?_))
  have lo_b1_0 : w.heap.size ≤ b1_0 := hb9 ▸ (Below.size hB)
  have ne_b0_0_b1_0 : b0_0 ≠ b1_0 := Nat.ne_of_lt (hb9 ▸ hm0_0.lt)
  clear hb9
  replace hB := below_ext hB hE10 (Nat.le_refl _)
  replace hm0_0 := hE10.at hm0_0
  clear hE10
  refine WL_nil ?_
  refine hK7 _ _ ?_
  clear hK7 K6
  refine WC_seq (fun K11 hK12 => ?_)
  refine WC_region ?_
  refine WL_val (dd := some 4) rfl rfl rfl (r_assign (v := .int .u8 1) rfl) ?_
  refine WL_nil ?_
  refine hK12 _ _ ?_
  clear hK12 K11
  refine WC_seq (fun K13 hK14 => ?_)
  refine WC_seq (fun K15 hK16 => ?_)
  refine WC_region ?_
  refine WL_val (dd := some 5) rfl rfl rfl (r_assign (v := .int .i64 0) rfl) ?_
  refine WL_nil ?_
  refine hK16 _ _ ?_
  clear hK16 K15
  refine WC_block ?_
  refine WC_loop (σ := (Nat)) [4, 5, 6, 7, 8, 9, 10, 11, 12, 13, 14, 15, 16, 17, 18, 19, 20, 21, 22, 23, 24, 25, 26, 27, 28, 29, 30, 31, 32, 33, 34] (fun k => [(5, .int .i64 (k : Int)), (4, .int .u8 ((2 ^ k % 256 : Nat) : Int))]) (fun k W => (Below w.heap.size w W) ∧ (At W b0_0 _ 42) ∧ (At W b1_0 #[.int .u8 ((maskTo l k : Nat) : Int), .int .u8 ((valTo l k : Nat) : Int)] 42) ∧ (k ≤ l.length) ∧ (True)) (fun k => l.length - k) (0) ⟨rfl, rfl, trivial⟩ ⟨hB, hm0_0, hm1_0, (Nat.zero_le _), trivial⟩ ?_
  clear hB hm0_0 hm1_0
  rintro k g18 W17 ⟨hB, hm0_0, hm1_0, hk, _⟩ J19 hJ20
  refine WC_seq (fun K21 hK22 => ?_)
  refine WC_seq (fun K23 hK24 => ?_)
  refine WC_region ?_
  refine WL_val (dd := some 6) rfl rfl rfl (r_move (v := .int .i64 _) rfl) ?_
  refine WL_val (dd := some 7) rfl rfl rfl (r_move (v := x) rfl) ?_
  refine WL_val (dd := some 8) rfl rfl rfl (r_lenS (v := x) rfl (Below.slT hB hl) tb_el43) ?_
  refine WL_val (dd := some 9) rfl rfl rfl (r_lss rfl rfl) ?_
  refine WL_nil ?_
  refine hK24 _ _ ?_
  clear hK24 K23
  refine WC_cond (b := _) rfl (fun hc0 => ?_) (fun hc0 => ?_)
  ·
    try with_reducible replace hc0 := dec_t hc0
    refine WC_skip ?_
    refine hK22 _ _ ?_
    clear hK22 K21
    refine WC_seq (fun K25 hK26 => ?_)
    refine WC_block ?_
    refine WC_seq (fun K27 hK28 => ?_)
    refine WC_seq (fun K29 hK30 => ?_)
    have h7 := pow7 (show k < 8 by omega)
    rw [Nat.mod_eq_of_lt (show 2 ^ k < 256 by omega)]
    have hA := maskTo_lt l k
    have hB2 := valTo_lt l k
    refine WC_region ?_
    refine WL_val (dd := some 12) rfl rfl rfl (r_move (v := x) rfl) ?_
    refine WL_val (dd := some 13) rfl rfl rfl (r_move (v := .int .i64 _) rfl) ?_
    refine WL_val (dd := some 14) rfl rfl rfl (r_idxS (v := x) rfl (Below.slT hB hl) rfl tb_el43 (by omega) (by first | omega | (simp only [flagsTo_len, litsTo_len, firstF_len, ptF_len]; omega))) ?_
    refine WL_val (dd := some 15) rfl rfl rfl (r_load1 (v := .int .i64 _) rfl tb_sc3 (SlT.cell (Below.slT hB hl) encI_len 0 (by omega) (by first | omega | (simp only [flagsTo_len, litsTo_len, firstF_len, ptF_len]; omega)) 0 rfl)) ?_
    refine WL_val (dd := some 16) rfl rfl rfl (r_lss rfl rfl) ?_
    refine WL_nil ?_
    refine hK30 _ _ ?_
    clear hK30 K29
    refine WC_cond (b := _) rfl (fun hc1 => ?_) (fun hc1 => ?_)
    ·
      try with_reducible replace hc1 := dec_t hc1
      refine WC_seq (fun K31 hK32 => ?_)
      obtain ⟨q, hq0, hq1⟩ := hL.get (k := k) (by omega) hc1
      refine WC_region ?_
      refine WL_val (dd := some 17) rfl rfl rfl (r_fieldAddr (b := _) (o := _) rfl tb_fo42_0) ?_
      refine WL_val (dd := some 18) rfl rfl rfl (r_load1 (v := .int .u8 _) rfl tb_sc5 (At.cell hm1_0 rfl)) ?_
      refine WL_val (dd := some 19) rfl rfl rfl (r_move (v := .int .u8 _) rfl) ?_
      refine WL_val (dd := some 20) rfl rfl rfl (r_addN rfl (n := _) rfl rfl (by simp only [topN]; omega)) ?_
      refine WL_val (dd := some 21) rfl rfl rfl (r_fieldAddr (b := _) (o := _) rfl tb_fo42_0) ?_
      refine WL_step (dd := none) rfl rfl rfl (Y_store1 (v := .int .u8 _) rfl rfl tb_sc5 rfl hm1_0 (by simp) (fun W33 hG34 hm35 => ?_))
      replace hB := below_grown hB hG34 (Nat.le_refl _) (fun j hj => by cases hj; exact lo_b1_0)
      replace hm0_0 := At.grownNe hm0_0 ne_b0_0_b1_0 hG34
      clear hG34 hm1_0
      have hm1_0 := hm35
      clear hm35
      replace hm1_0 : At _ _ #[_, _] _ := hm1_0
      refine WL_nil ?_
      refine hK32 _ _ ?_
      clear hK32 K31
      have hq2 : 2 ^ k * q ≤ 2 ^ k * 1 := Nat.mul_le_mul_left _ hq0
      have hq3 : l.getD (k : Int).toNat 0 = (q : Int) := hq1
      refine WC_draw Ext tb_mix (fun W36 hE37 => ?_)
      replace hB := below_ext hB hE37 (Nat.le_refl _)
      replace hm0_0 := hE37.at hm0_0
      replace hm1_0 := hE37.at hm1_0
      have hS := Ext.refl W36
      refine WT_take (dd := some 22) 0 rfl (by kernel_rfl) (by kernel_rfl) (by kernel_rfl) rfl rfl rfl (fun _wq _hq => r_fieldAddr (b := _) (o := _) rfl tb_fo42_1) hS ?_
      refine WT_take (dd := some 23) 1 rfl (by kernel_rfl) (by kernel_rfl) (by kernel_rfl) rfl rfl rfl (fun _wq hq => r_load1 (v := .int .u8 _) rfl tb_sc5 (At.cell (hq.at hm1_0) rfl)) hS ?_
      refine WT_take (dd := some 24) 2 rfl (by kernel_rfl) (by kernel_rfl) (by kernel_rfl) rfl rfl rfl (fun _wq _hq => r_move (v := .int .u8 _) rfl) hS ?_
      refine WT_take (dd := some 25) 3 rfl (by kernel_rfl) (by kernel_rfl) (by kernel_rfl) rfl rfl rfl (fun _wq _hq => r_move (v := x) rfl) hS ?_
      refine WT_take (dd := some 26) 4 rfl (by kernel_rfl) (by kernel_rfl) (by kernel_rfl) rfl rfl rfl (fun _wq _hq => r_move (v := .int .i64 _) rfl) hS ?_
      refine WT_take (dd := some 27) 5 rfl (by kernel_rfl) (by kernel_rfl) (by kernel_rfl) rfl rfl rfl (fun _wq hq => r_idxS (v := x) rfl (hq.slT (Below.slT hB hl)) rfl tb_el43 (by omega) (by first | omega | (simp only [flagsTo_len, litsTo_len, firstF_len, ptF_len]; omega))) hS ?_
      refine WT_take (dd := some 28) 6 rfl (by kernel_rfl) (by kernel_rfl) (by kernel_rfl) rfl rfl rfl (fun _wq hq => r_load1 (v := .int .i64 _) rfl tb_sc3 (SlT.cell (hq.slT (Below.slT hB hl)) encI_len 0 (by omega) (by first | omega | (simp only [flagsTo_len, litsTo_len, firstF_len, ptF_len]; omega)) 0 rfl)) hS ?_
      refine WT_take (dd := some 29) 7 rfl (by kernel_rfl) (by kernel_rfl) (by kernel_rfl) rfl rfl rfl (fun _wq hq => r_convN (m := q) (congrArg (Value.int .i64) hq3) Tryd.underlying3 Tryd.underlying5 (by simp only [topN]; omega)) hS ?_
      refine WT_take (dd := some 30) 8 rfl (by kernel_rfl) (by kernel_rfl) (by kernel_rfl) rfl rfl rfl (fun _wq _hq => r_mulN rfl (n := q) rfl rfl (by simp only [topN]; omega)) hS ?_
      refine WT_take (dd := some 31) 9 rfl (by kernel_rfl) (by kernel_rfl) (by kernel_rfl) rfl rfl rfl (fun _wq _hq => r_addN rfl (n := (2 ^ k * q)) rfl rfl (by simp only [topN]; omega)) hS ?_
      refine WT_take (dd := some 32) 10 rfl (by kernel_rfl) (by kernel_rfl) (by kernel_rfl) rfl rfl rfl (fun _wq _hq => r_fieldAddr (b := _) (o := _) rfl tb_fo42_1) hS ?_
      refine WT_one (dd := none) 11 (by kernel_rfl) rfl rfl rfl rfl (Y_store1 (v := .int .u8 _) rfl rfl tb_sc5 rfl hm1_0 (by simp) (fun W38 hG39 hm40 => ⟨.inr (by kernel_rfl), ?_⟩))
      have sv41_hB := hB
      have sv41_hm0_0 := hm0_0
      have sv41_hm1_0 := hm1_0
      replace hB := below_grown hB hG39 (Nat.le_refl _) (fun j hj => by cases hj; exact lo_b1_0)
      replace hm0_0 := At.grownNe hm0_0 ne_b0_0_b1_0 hG39
      clear hG39 hm1_0
      have hm1_0 := hm40
      clear hm40
      replace hm1_0 : At _ _ #[_, _] _ := hm1_0
      refine WT_done (by kernel_rfl) ?_
      try clear sv41_hB sv41_hm0_0
      refine hK28 _ _ ?_
      clear hK28 K27
      refine WC_region ?_
      refine WL_val (dd := some 33) rfl rfl rfl (r_move (v := .int .u8 _) rfl) ?_
      refine WL_val (dd := some 34) rfl rfl rfl (r_mulW8 (n := 2) rfl rfl rfl) ?_
      refine WL_val (dd := some 4) rfl rfl rfl (r_assign (v := .int .u8 _) rfl) ?_
      refine WL_nil ?_
      refine hK26 _ _ ?_
      clear hK26 K25
      refine WC_region ?_
      refine WL_val (dd := some 10) rfl rfl rfl (r_move (v := .int .i64 _) rfl) ?_
      refine WL_val (dd := some 11) rfl rfl rfl (r_addI rfl rfl (by omega) (by omega)) ?_
      refine WL_val (dd := some 5) rfl rfl rfl (r_assign (v := .int .i64 _) rfl) ?_
      refine WL_nil ?_
      refine hJ20 _ _ (k + 1) ?_ ?_ ?_ ?_
      · repeat (first | exact agree.mask _ _ _ | refine agree.updo ?_ rfl _ | refine agree.updL ?_ _ rfl | refine agree.maskS rfl ?_)
      · exact ⟨rfl, rfl, trivial⟩
      · exact ⟨hB, hm0_0, (by first | (rw [(masks_step (k := k) hq1 hq0).1, (masks_step (k := k) hq1 hq0).2]; exact hm1_0) | (rw [(masks_skip (k := k) hc1).1, (masks_skip (k := k) hc1).2]; exact hm1_0)), (by omega), trivial⟩
      · first | omega | (dsimp only; omega)
    ·
      try with_reducible replace hc1 := dec_f hc1
      refine WC_skip ?_
      refine hK28 _ _ ?_
      clear hK28 K27
      refine WC_region ?_
      refine WL_val (dd := some 33) rfl rfl rfl (r_move (v := .int .u8 _) rfl) ?_
      refine WL_val (dd := some 34) rfl rfl rfl (r_mulW8 (n := 2) rfl rfl rfl) ?_
      refine WL_val (dd := some 4) rfl rfl rfl (r_assign (v := .int .u8 _) rfl) ?_
      refine WL_nil ?_
      refine hK26 _ _ ?_
      clear hK26 K25
      refine WC_region ?_
      refine WL_val (dd := some 10) rfl rfl rfl (r_move (v := .int .i64 _) rfl) ?_
      refine WL_val (dd := some 11) rfl rfl rfl (r_addI rfl rfl (by omega) (by omega)) ?_
      refine WL_val (dd := some 5) rfl rfl rfl (r_assign (v := .int .i64 _) rfl) ?_
      refine WL_nil ?_
      refine hJ20 _ _ (k + 1) ?_ ?_ ?_ ?_
      · repeat (first | exact agree.mask _ _ _ | refine agree.updo ?_ rfl _ | refine agree.updL ?_ _ rfl | refine agree.maskS rfl ?_)
      · exact ⟨rfl, rfl, trivial⟩
      · exact ⟨hB, hm0_0, (by first | (rw [(masks_step (k := k) hq1 hq0).1, (masks_step (k := k) hq1 hq0).2]; exact hm1_0) | (rw [(masks_skip (k := k) hc1).1, (masks_skip (k := k) hc1).2]; exact hm1_0)), (by omega), trivial⟩
      · first | omega | (dsimp only; omega)
  ·
    try with_reducible replace hc0 := dec_f hc0
    refine WC_exit ?_
    refine hK14 _ _ ?_
    clear hK22 K21
    clear hJ20 J19
    clear hK14 K13
    refine WC_seq (fun K42 hK43 => ?_)
    refine WC_region ?_
    refine WL_val (dd := some 35) rfl rfl rfl (r_loadW rfl tb_ag42 rfl hm1_0) ?_
    refine WL_step (dd := none) rfl rfl rfl (Y_storeW rfl rfl tb_ag42 rfl hm0_0 rfl (by rfl) (fun W44 hG45 hm46 => ?_))
    replace hB := below_grown hB hG45 (Nat.le_refl _) (fun j hj => by cases hj; exact lo_b0_0)
    replace hm1_0 := At.grownNe hm1_0 (Ne.symm ne_b0_0_b1_0) hG45
    clear hG45 hm0_0
    have hm0_0 := hm46
    clear hm46
    refine WL_nil ?_
    refine hK43 _ _ ?_
    clear hK43 K42
    refine WC_ret ?_
    repeat (first | refine thenQ_ret ?_ | refine blockQ_ret ?_)
    refine ret_c rfl tb_ag42 hm0_0 rfl ?_
    refine ⟨hB, ?_⟩
    obtain rfl : k = l.length := by omega
    rfl

theorem C_drawkniferef02_Right (m u : Nat) (n : Int) (w : World) (hm : m < 256) (hv : u < 256) :
    Fn Tryd.prog 20 #[.agg #[.int .u8 (m : Int), .int .u8 (u : Int)], .int .i64 n] w fun v w' => v = .bool (rightB m u n) := by
  refine Fn_intro (n := 29) Tryd.func20 rfl rfl (Nat.le_of_ble_eq_true rfl) ?_
  have hB : Below w.heap.size w w := Below.refl _ _
  refine WC_seq (fun K1 hK2 => ?_)
  refine WC_region ?_
  refine WL_step (dd := some 2) rfl rfl rfl (Y_box (c := #[_, _]) rfl rfl (fun b0_0 W3 hb4 hE5 hm0_0 => ?_))
  have lo_b0_0 : w.heap.size ≤ b0_0 := hb4 ▸ (Below.size hB)
  clear hb4
  replace hB := below_ext hB hE5 (Nat.le_refl _)
  clear hE5
  refine WL_val (dd := some 4) rfl rfl rfl (r_assign (v := .bool false) rfl) ?_
  refine WL_nil ?_
  refine hK2 _ _ ?_
  clear hK2 K1
  refine WC_seq (fun K6 hK7 => ?_)
  refine WC_seq (fun K8 hK9 => ?_)
  refine WC_region ?_
  refine WL_val (dd := some 7) rfl rfl rfl (r_move (v := .int .i64 _) rfl) ?_
  refine WL_val (dd := some 8) rfl rfl rfl (r_lss rfl rfl) ?_
  refine WL_split (dd := some 9) rfl rfl rfl (r_move (v := .bool _) rfl) (fun hs1_2 => ?_) (fun hs1_2 => ?_)
  ·
    try with_reducible replace hs1_2 := dec_t hs1_2
    refine WL_skip (dd := some 10) rfl rfl rfl ?_
    refine WL_skip (dd := some 11) rfl rfl rfl ?_
    refine WL_val (dd := some 12) rfl rfl rfl (r_pick_t rfl (v := .bool true) rfl) ?_
    refine WL_nil ?_
    refine hK9 _ _ ?_
    clear hK9 K8
    refine WC_cond_true rfl ?_
    refine WC_seq (fun K10 hK11 => ?_)
    refine WC_region ?_
    refine WL_val (dd := some 4) rfl rfl rfl (r_assign (v := .bool false) rfl) ?_
    refine WL_nil ?_
    refine hK11 _ _ ?_
    clear hK11 K10
    refine WC_ret ?_
    repeat (first | refine thenQ_ret ?_ | refine blockQ_ret ?_)
    try clear hK7 K6
    refine ret_t (v := .bool false) rfl ?_
    refine ⟨hB, ?_⟩
    exact congrArg Value.bool (right_neg (by omega)).symm
  ·
    try with_reducible replace hs1_2 := dec_f hs1_2
    refine WL_val (dd := some 10) rfl rfl rfl (r_move (v := .int .i64 _) rfl) ?_
    refine WL_val (dd := some 11) rfl rfl rfl (r_gtr rfl rfl) ?_
    refine WL_val (dd := some 12) rfl rfl rfl (r_pick_f rfl (v := .bool _) rfl) ?_
    refine WL_nil ?_
    refine hK9 _ _ ?_
    clear hK9 K8
    refine WC_cond (b := _) rfl (fun hc0 => ?_) (fun hc0 => ?_)
    ·
      try with_reducible replace hc0 := dec_t hc0
      refine WC_seq (fun K12 hK13 => ?_)
      refine WC_region ?_
      refine WL_val (dd := some 4) rfl rfl rfl (r_assign (v := .bool false) rfl) ?_
      refine WL_nil ?_
      refine hK13 _ _ ?_
      clear hK13 K12
      refine WC_ret ?_
      repeat (first | refine thenQ_ret ?_ | refine blockQ_ret ?_)
      try clear hK7 K6
      refine ret_t (v := .bool false) rfl ?_
      refine ⟨hB, ?_⟩
      exact congrArg Value.bool (right_neg (by omega)).symm
    ·
      try with_reducible replace hc0 := dec_f hc0
      refine WC_skip ?_
      refine hK7 _ _ ?_
      clear hK7 K6
      refine WC_seq (fun K14 hK15 => ?_)
      refine WC_region ?_
      refine WL_val (dd := some 13) rfl rfl rfl (r_loadW rfl tb_ag42 rfl hm0_0) ?_
      refine WL_call (dd := some 14) rfl rfl rfl (r_call1 tb_c41 (v0 := .agg #[_, _]) rfl) (C_drawkniferef02_Literals _ _ _ (by first | assumption | omega) (by first | assumption | omega)) (fun v3_1 W16 hE17 hP3_1 => ?_)
      have hsz18 := (Below.size hB)
      replace hB := below_ext hB hE17 (Nat.le_refl _)
      replace hm0_0 := hE17.at hm0_0
      clear hE17
      replace hP3_1 := OwT.mono hP3_1 hsz18
      clear hsz18
      refine WL_val (dd := some 5) rfl rfl rfl (r_assign (v := v3_1) rfl) ?_
      refine WL_nil ?_
      refine hK15 _ _ ?_
      clear hK15 K14
      refine WC_seq (fun K19 hK20 => ?_)
      refine WC_seq (fun K21 hK22 => ?_)
      have hn : 0 ≤ n ∧ n ≤ 8 := by omega
      refine WC_region ?_
      refine WL_val (dd := some 15) rfl rfl rfl (r_move (v := .int .i64 _) rfl) ?_
      refine WL_val (dd := some 6) rfl rfl rfl (r_assign (v := .int .i64 _) rfl) ?_
      refine WL_nil ?_
      refine hK22 _ _ ?_
      clear hK22 K21
      refine WC_block ?_
      refine WC_loop (σ := (Nat)) [4, 6, 16, 17, 18, 19, 20, 21, 22, 23, 24] (fun i => [(6, .int .i64 (i : Int))]) (fun i W => (Below w.heap.size w W) ∧ (At W b0_0 _ 42) ∧ (OwT encI 1 3 W w.heap.size v3_1 _) ∧ (n.toNat ≤ i ∧ i ≤ 8) ∧ (∀ q, n.toNat ≤ q → q < i → lit m u q = 2) ∧ (True)) (fun i => 8 - i) (n.toNat) ⟨congrArg (Value.int .i64) (by omega : n = (n.toNat : Int)), trivial⟩ ⟨hB, hm0_0, hP3_1, (by omega), (fun q h1 h2 => by omega), trivial⟩ ?_
      clear hB hm0_0 hP3_1
      rintro i g24 W23 ⟨hB, hm0_0, hP3_1, hi, hw, _⟩ J25 hJ26
      refine WC_seq (fun K27 hK28 => ?_)
      refine WC_seq (fun K29 hK30 => ?_)
      refine WC_region ?_
      refine WL_val (dd := some 16) rfl rfl rfl (r_move (v := .int .i64 _) rfl) ?_
      refine WL_val (dd := some 17) rfl rfl rfl (r_lss rfl rfl) ?_
      refine WL_nil ?_
      refine hK30 _ _ ?_
      clear hK30 K29
      refine WC_cond (b := _) rfl (fun hc1 => ?_) (fun hc1 => ?_)
      ·
        try with_reducible replace hc1 := dec_t hc1
        refine WC_skip ?_
        refine hK28 _ _ ?_
        clear hK28 K27
        refine WC_seq (fun K31 hK32 => ?_)
        refine WC_block ?_
        refine WC_seq (fun K33 hK34 => ?_)
        refine WC_region ?_
        refine WL_val (dd := some 20) rfl rfl rfl (r_move (v := v3_1) rfl) ?_
        refine WL_val (dd := some 21) rfl rfl rfl (r_move (v := .int .i64 _) rfl) ?_
        refine WL_val (dd := some 22) rfl rfl rfl (r_idxS (v := v3_1) rfl hP3_1.sl rfl tb_el43 (by omega) (by first | omega | (simp only [flagsTo_len, litsTo_len, firstF_len, ptF_len]; omega))) ?_
        refine WL_val (dd := some 23) rfl rfl rfl (r_load1 (v := .int .i64 _) rfl tb_sc3 (SlT.cell hP3_1.sl encI_len 0 (by omega) (by first | omega | (simp only [flagsTo_len, litsTo_len, firstF_len, ptF_len]; omega)) 0 rfl)) ?_
        refine WL_val (dd := some 24) rfl rfl rfl (r_neq rfl rfl) ?_
        refine WL_nil ?_
        refine hK34 _ _ ?_
        clear hK34 K33
        refine WC_cond (b := _) rfl (fun hc2 => ?_) (fun hc2 => ?_)
        ·
          try with_reducible replace hc2 := dec_t hc2
          refine WC_seq (fun K35 hK36 => ?_)
          refine WC_region ?_
          refine WL_val (dd := some 4) rfl rfl rfl (r_assign (v := .bool false) rfl) ?_
          refine WL_nil ?_
          refine hK36 _ _ ?_
          clear hK36 K35
          refine WC_ret ?_
          repeat (first | refine thenQ_ret ?_ | refine blockQ_ret ?_)
          try clear hK32 K31
          try clear hJ26 J25
          try clear hK20 K19
          refine ret_t (v := .bool false) rfl ?_
          refine ⟨hB, ?_⟩
          exact congrArg Value.bool (right_not hm (by omega) hc2).symm
        ·
          try with_reducible replace hc2 := dec_f hc2
          refine WC_skip ?_
          refine hK32 _ _ ?_
          clear hK32 K31
          refine WC_region ?_
          refine WL_val (dd := some 18) rfl rfl rfl (r_move (v := .int .i64 _) rfl) ?_
          refine WL_val (dd := some 19) rfl rfl rfl (r_addI rfl rfl (by omega) (by omega)) ?_
          refine WL_val (dd := some 6) rfl rfl rfl (r_assign (v := .int .i64 _) rfl) ?_
          refine WL_nil ?_
          refine hJ26 _ _ (i + 1) ?_ ?_ ?_ ?_
          · repeat (first | exact agree.mask _ _ _ | refine agree.updo ?_ rfl _ | refine agree.updL ?_ _ rfl | refine agree.maskS rfl ?_)
          · exact ⟨rfl, trivial⟩
          · exact ⟨hB, hm0_0, hP3_1, (by omega), (right_step hw (by omega) (Decidable.not_not.1 hc2)), trivial⟩
          · first | omega | (dsimp only; omega)
      ·
        try with_reducible replace hc1 := dec_f hc1
        refine WC_exit ?_
        refine hK20 _ _ ?_
        clear hK28 K27
        clear hJ26 J25
        clear hK20 K19
        refine WC_seq (fun K37 hK38 => ?_)
        refine WC_draw Ext tb_mix (fun W39 hE40 => ?_)
        replace hB := below_ext hB hE40 (Nat.le_refl _)
        replace hm0_0 := hE40.at hm0_0
        replace hP3_1 := hE40.ow hP3_1
        have hS := Ext.refl W39
        refine WT_take (dd := some 25) 0 rfl (by kernel_rfl) (by kernel_rfl) (by kernel_rfl) rfl rfl rfl (fun _wq _hq => r_move (v := v3_1) rfl) hS ?_
        refine WT_take (dd := some 27) 2 rfl (by kernel_rfl) (by kernel_rfl) (by kernel_rfl) rfl rfl rfl (fun _wq hq => r_loadW rfl tb_ag42 rfl (hq.at hm0_0)) hS ?_
        refine WT_one (dd := some 26) 1 (by kernel_rfl) rfl rfl rfl rfl (Yd.call (r_call1 tb_c42 (v0 := v3_1) rfl) (C_drawkniferef02_Cube _ _ _ hP3_1.sl (by first | assumption | exact lits_litsS _ _ | (rw [lits_without (by assumption)]; exact lits_litsS _ _))) (fun v9_1 W41 hE42 hP9_1 => ⟨.inl (hS.trans hE42), ?_⟩))
        have hsz43 := (Below.size hB)
        have sv44_hB := hB
        have sv44_hm0_0 := hm0_0
        have sv44_hP3_1 := hP3_1
        replace hB := below_ext hB hE42 (Nat.le_refl _)
        replace hm0_0 := hE42.at hm0_0
        replace hP3_1 := hE42.ow hP3_1
        replace hS := hS.trans hE42
        clear hE42
        clear hsz43
        obtain rfl := hP9_1
        refine WT_take (dd := some 28) 3 rfl (by kernel_rfl) (by kernel_rfl) (by kernel_rfl) rfl rfl rfl (fun _wq _hq => tb_eq42 rfl rfl) hS ?_
        refine WT_take (dd := some 4) 4 rfl (by kernel_rfl) (by kernel_rfl) (by kernel_rfl) rfl rfl rfl (fun _wq _hq => r_assign (v := .bool _) rfl) hS ?_
        refine WT_done (by kernel_rfl) ?_
        try clear sv44_hB sv44_hm0_0 sv44_hP3_1
        refine hK38 _ _ ?_
        clear hK38 K37
        refine WC_ret ?_
        repeat (first | refine thenQ_ret ?_ | refine blockQ_ret ?_)
        refine ret_t (v := .bool _) rfl ?_
        refine ⟨hB, ?_⟩
        obtain rfl : i = 8 := by omega
        exact congrArg Value.bool (right_fin hm hv hn hw)

theorem C_drawkniferef02_Has (m u p : Nat) (w : World) (hm : m < 256) (hv : u < 256) (hp : p < 256) :
    Fn Tryd.prog 47 #[.agg #[.int .u8 (m : Int), .int .u8 (u : Int)], .int .i64 (p : Int)] w fun v w' => v = .bool (hasC m u p) := by
  refine Fn_intro (n := 28) Tryd.func47 rfl rfl (Nat.le_of_ble_eq_true rfl) ?_
  have hB : Below w.heap.size w w := Below.refl _ _
  refine WC_seq (fun K1 hK2 => ?_)
  refine WC_region ?_
  refine WL_step (dd := some 2) rfl rfl rfl (Y_box (c := #[_, _]) rfl rfl (fun b0_0 W3 hb4 hE5 hm0_0 => ?_))
  have lo_b0_0 : w.heap.size ≤ b0_0 := hb4 ▸ (Below.size hB)
  clear hb4
  replace hB := below_ext hB hE5 (Nat.le_refl _)
  clear hE5
  refine WL_val (dd := some 4) rfl rfl rfl (r_assign (v := .bool false) rfl) ?_
  refine WL_nil ?_
  refine hK2 _ _ ?_
  clear hK2 K1
  refine WC_seq (fun K6 hK7 => ?_)
  refine WC_region ?_
  refine WL_val (dd := some 7) rfl rfl rfl (r_loadW rfl tb_ag42 rfl hm0_0) ?_
  refine WL_call (dd := some 8) rfl rfl rfl (r_call1 tb_c41 (v0 := .agg #[_, _]) rfl) (C_drawkniferef02_Literals _ _ _ (by first | assumption | omega) (by first | assumption | omega)) (fun v1_1 W8 hE9 hP1_1 => ?_)
  have hsz10 := (Below.size hB)
  replace hB := below_ext hB hE9 (Nat.le_refl _)
  replace hm0_0 := hE9.at hm0_0
  clear hE9
  replace hP1_1 := OwT.mono hP1_1 hsz10
  clear hsz10
  refine WL_val (dd := some 5) rfl rfl rfl (r_assign (v := v1_1) rfl) ?_
  refine WL_nil ?_
  refine hK7 _ _ ?_
  clear hK7 K6
  refine WC_seq (fun K11 hK12 => ?_)
  refine WC_seq (fun K13 hK14 => ?_)
  refine WC_region ?_
  refine WL_val (dd := some 6) rfl rfl rfl (r_assign (v := .int .i64 0) rfl) ?_
  refine WL_nil ?_
  refine hK14 _ _ ?_
  clear hK14 K13
  refine WC_block ?_
  refine WC_loop (σ := (Nat)) [4, 6, 9, 10, 11, 12, 13, 14, 15, 16, 17, 18, 19, 20, 21, 22, 23, 24, 25, 26, 27] (fun k => [(6, .int .i64 (k : Int))]) (fun k W => (Below w.heap.size w W) ∧ (At W b0_0 _ 42) ∧ (OwT encI 1 3 W w.heap.size v1_1 _) ∧ (k ≤ 8) ∧ (∀ q, q < k → lit m u q = 2 ∨ lit m u q = ((p / 2 ^ q % 2 : Nat) : Int)) ∧ (True)) (fun k => 8 - k) (0) ⟨rfl, trivial⟩ ⟨hB, hm0_0, hP1_1, (by omega), upTo_zero, trivial⟩ ?_
  clear hB hm0_0 hP1_1
  rintro k g16 W15 ⟨hB, hm0_0, hP1_1, hk, hw, _⟩ J17 hJ18
  refine WC_seq (fun K19 hK20 => ?_)
  refine WC_seq (fun K21 hK22 => ?_)
  refine WC_region ?_
  refine WL_val (dd := some 9) rfl rfl rfl (r_move (v := .int .i64 _) rfl) ?_
  refine WL_val (dd := some 10) rfl rfl rfl (r_lss rfl rfl) ?_
  refine WL_nil ?_
  refine hK22 _ _ ?_
  clear hK22 K21
  refine WC_cond (b := _) rfl (fun hc0 => ?_) (fun hc0 => ?_)
  ·
    try with_reducible replace hc0 := dec_t hc0
    refine WC_skip ?_
    refine hK20 _ _ ?_
    clear hK20 K19
    refine WC_seq (fun K23 hK24 => ?_)
    refine WC_block ?_
    refine WC_seq (fun K25 hK26 => ?_)
    refine WC_draw Ext tb_mix (fun W27 hE28 => ?_)
    replace hB := below_ext hB hE28 (Nat.le_refl _)
    replace hm0_0 := hE28.at hm0_0
    replace hP1_1 := hE28.ow hP1_1
    have hS := Ext.refl W27
    refine WT_take (dd := some 13) 0 rfl (by kernel_rfl) (by kernel_rfl) (by kernel_rfl) rfl rfl rfl (fun _wq _hq => r_move (v := v1_1) rfl) hS ?_
    refine WT_take (dd := some 14) 1 rfl (by kernel_rfl) (by kernel_rfl) (by kernel_rfl) rfl rfl rfl (fun _wq _hq => r_move (v := .int .i64 _) rfl) hS ?_
    refine WT_take (dd := some 15) 2 rfl (by kernel_rfl) (by kernel_rfl) (by kernel_rfl) rfl rfl rfl (fun _wq hq => r_idxS (v := v1_1) rfl ((hq.ow hP1_1)).sl rfl tb_el43 (by omega) (by first | omega | (simp only [flagsTo_len, litsTo_len, firstF_len, ptF_len]; omega))) hS ?_
    refine WT_take (dd := some 16) 3 rfl (by kernel_rfl) (by kernel_rfl) (by kernel_rfl) rfl rfl rfl (fun _wq hq => r_load1 (v := .int .i64 _) rfl tb_sc3 (SlT.cell ((hq.ow hP1_1)).sl encI_len 0 (by omega) (by first | omega | (simp only [flagsTo_len, litsTo_len, firstF_len, ptF_len]; omega)) 0 rfl)) hS ?_
    refine WT_take (dd := some 17) 4 rfl (by kernel_rfl) (by kernel_rfl) (by kernel_rfl) rfl rfl rfl (fun _wq _hq => r_neq rfl rfl) hS ?_
    refine WT_split (dd := some 18) 5 rfl (by kernel_rfl) (by kernel_rfl) (by kernel_rfl) rfl rfl rfl (fun wq hq => r_move (v := .bool _) rfl) hS (fun hs5_5 => ?_) (fun hs5_5 => ?_)
    ·
      try with_reducible replace hs5_5 := dec_t hs5_5
      refine WT_take (dd := some 19) 6 rfl (by kernel_rfl) (by kernel_rfl) (by kernel_rfl) rfl rfl rfl (fun _wq _hq => r_move (v := v1_1) rfl) hS ?_
      refine WT_take (dd := some 20) 7 rfl (by kernel_rfl) (by kernel_rfl) (by kernel_rfl) rfl rfl rfl (fun _wq _hq => r_move (v := .int .i64 _) rfl) hS ?_
      refine WT_take (dd := some 21) 8 rfl (by kernel_rfl) (by kernel_rfl) (by kernel_rfl) rfl rfl rfl (fun _wq hq => r_idxS (v := v1_1) rfl ((hq.ow hP1_1)).sl rfl tb_el43 (by omega) (by first | omega | (simp only [flagsTo_len, litsTo_len, firstF_len, ptF_len]; omega))) hS ?_
      refine WT_take (dd := some 22) 9 rfl (by kernel_rfl) (by kernel_rfl) (by kernel_rfl) rfl rfl rfl (fun _wq hq => r_load1 (v := .int .i64 _) rfl tb_sc3 (SlT.cell ((hq.ow hP1_1)).sl encI_len 0 (by omega) (by first | omega | (simp only [flagsTo_len, litsTo_len, firstF_len, ptF_len]; omega)) 0 rfl)) hS ?_
      refine WT_take (dd := some 23) 10 rfl (by kernel_rfl) (by kernel_rfl) (by kernel_rfl) rfl rfl rfl (fun _wq _hq => r_move (v := .int .i64 _) rfl) hS ?_
      refine WT_take (dd := some 24) 11 rfl (by kernel_rfl) (by kernel_rfl) (by kernel_rfl) rfl rfl rfl (fun _wq _hq => r_move (v := .int .i64 _) rfl) hS ?_
      refine WT_one (dd := some 25) 12 (by kernel_rfl) rfl rfl rfl rfl (Yd.call (r_call2 tb_c62 (v0 := .int .i64 _) rfl (v1 := .int .i64 _) rfl) (C_drawkniferef01_Bit _ _ _ (by first | assumption | omega) (by first | assumption | omega)) (fun v5_12 W29 hE30 hP5_12 => ⟨.inl (hS.trans hE30), ?_⟩))
      have hsz31 := (Below.size hB)
      have sv32_hB := hB
      have sv32_hm0_0 := hm0_0
      have sv32_hP1_1 := hP1_1
      replace hB := below_ext hB hE30 (Nat.le_refl _)
      replace hm0_0 := hE30.at hm0_0
      replace hP1_1 := hE30.ow hP1_1
      replace hS := hS.trans hE30
      clear hE30
      clear hsz31
      obtain rfl := hP5_12
      refine WT_take (dd := some 26) 13 rfl (by kernel_rfl) (by kernel_rfl) (by kernel_rfl) rfl rfl rfl (fun _wq _hq => r_neq rfl rfl) hS ?_
      refine WT_take (dd := some 27) 14 rfl (by kernel_rfl) (by kernel_rfl) (by kernel_rfl) rfl rfl rfl (fun _wq _hq => r_pick_t rfl (v := .bool _) rfl) hS ?_
      refine WT_done (by kernel_rfl) ?_
      try clear sv32_hB sv32_hm0_0 sv32_hP1_1
      refine hK26 _ _ ?_
      clear hK26 K25
      refine WC_cond (b := _) rfl (fun hc1 => ?_) (fun hc1 => ?_)
      ·
        try with_reducible replace hc1 := dec_t hc1
        refine WC_seq (fun K33 hK34 => ?_)
        refine WC_region ?_
        refine WL_val (dd := some 4) rfl rfl rfl (r_assign (v := .bool false) rfl) ?_
        refine WL_nil ?_
        refine hK34 _ _ ?_
        clear hK34 K33
        refine WC_ret ?_
        repeat (first | refine thenQ_ret ?_ | refine blockQ_ret ?_)
        try clear hK24 K23
        try clear hJ18 J17
        try clear hK12 K11
        refine ret_t (v := .bool false) rfl ?_
        refine ⟨hB, ?_⟩
        exact congrArg Value.bool (has_not hm (by omega) hs5_5 hc1).symm
      ·
        try with_reducible replace hc1 := dec_f hc1
        refine WC_skip ?_
        refine hK24 _ _ ?_
        clear hK24 K23
        refine WC_region ?_
        refine WL_val (dd := some 11) rfl rfl rfl (r_move (v := .int .i64 _) rfl) ?_
        refine WL_val (dd := some 12) rfl rfl rfl (r_addI rfl rfl (by omega) (by omega)) ?_
        refine WL_val (dd := some 6) rfl rfl rfl (r_assign (v := .int .i64 _) rfl) ?_
        refine WL_nil ?_
        refine hJ18 _ _ (k + 1) ?_ ?_ ?_ ?_
        · repeat (first | exact agree.mask _ _ _ | refine agree.updo ?_ rfl _ | refine agree.updL ?_ _ rfl | refine agree.maskS rfl ?_)
        · exact ⟨rfl, trivial⟩
        · exact ⟨hB, hm0_0, hP1_1, (by omega), (upTo_succ hw (has_step (by omega) (by first | exact .inl hs5_5 | exact .inr hc1))), trivial⟩
        · first | omega | (dsimp only; omega)
    ·
      try with_reducible replace hs5_5 := dec_f hs5_5
      refine WT_pass (dd := some 19) 6 rfl (by kernel_rfl) (by kernel_rfl) (by kernel_rfl) rfl rfl rfl hS ?_
      refine WT_pass (dd := some 20) 7 rfl (by kernel_rfl) (by kernel_rfl) (by kernel_rfl) rfl rfl rfl hS ?_
      refine WT_pass (dd := some 21) 8 rfl (by kernel_rfl) (by kernel_rfl) (by kernel_rfl) rfl rfl rfl hS ?_
      refine WT_pass (dd := some 22) 9 rfl (by kernel_rfl) (by kernel_rfl) (by kernel_rfl) rfl rfl rfl hS ?_
      refine WT_pass (dd := some 23) 10 rfl (by kernel_rfl) (by kernel_rfl) (by kernel_rfl) rfl rfl rfl hS ?_
      refine WT_pass (dd := some 24) 11 rfl (by kernel_rfl) (by kernel_rfl) (by kernel_rfl) rfl rfl rfl hS ?_
      refine WT_pass (dd := some 25) 12 rfl (by kernel_rfl) (by kernel_rfl) (by kernel_rfl) rfl rfl rfl hS ?_
      refine WT_pass (dd := some 26) 13 rfl (by kernel_rfl) (by kernel_rfl) (by kernel_rfl) rfl rfl rfl hS ?_
      refine WT_take (dd := some 27) 14 rfl (by kernel_rfl) (by kernel_rfl) (by kernel_rfl) rfl rfl rfl (fun _wq _hq => r_pick_f rfl (v := .bool false) rfl) hS ?_
      refine WT_done (by kernel_rfl) ?_
      refine hK26 _ _ ?_
      clear hK26 K25
      refine WC_cond_false rfl ?_
      refine WC_skip ?_
      refine hK24 _ _ ?_
      clear hK24 K23
      refine WC_region ?_
      refine WL_val (dd := some 11) rfl rfl rfl (r_move (v := .int .i64 _) rfl) ?_
      refine WL_val (dd := some 12) rfl rfl rfl (r_addI rfl rfl (by omega) (by omega)) ?_
      refine WL_val (dd := some 6) rfl rfl rfl (r_assign (v := .int .i64 _) rfl) ?_
      refine WL_nil ?_
      refine hJ18 _ _ (k + 1) ?_ ?_ ?_ ?_
      · repeat (first | exact agree.mask _ _ _ | refine agree.updo ?_ rfl _ | refine agree.updL ?_ _ rfl | refine agree.maskS rfl ?_)
      · exact ⟨rfl, trivial⟩
      · exact ⟨hB, hm0_0, hP1_1, (by omega), (upTo_succ hw (has_step (by omega) (by first | exact .inl hs5_5 | exact .inr hc1))), trivial⟩
      · first | omega | (dsimp only; omega)
  ·
    try with_reducible replace hc0 := dec_f hc0
    refine WC_exit ?_
    refine hK12 _ _ ?_
    clear hK20 K19
    clear hJ18 J17
    clear hK12 K11
    refine WC_seq (fun K35 hK36 => ?_)
    refine WC_region ?_
    refine WL_val (dd := some 4) rfl rfl rfl (r_assign (v := .bool true) rfl) ?_
    refine WL_nil ?_
    refine hK36 _ _ ?_
    clear hK36 K35
    refine WC_ret ?_
    repeat (first | refine thenQ_ret ?_ | refine blockQ_ret ?_)
    refine ret_t (v := .bool true) rfl ?_
    refine ⟨hB, ?_⟩
    obtain rfl : k = 8 := by omega
    exact congrArg Value.bool (has_fin hm hw)

end Go.Proofs.YtnkaebjaeaecmaaDoor
