/-
  The walks of deeds with two families.
-/
import Derived.Test.YtpamgfbecgjjeaaProg
import Derived.Test.YtpamgfbecgjjeaaWZdd
import Derived.Test.YtpamgfbecgjjeaaZ1
namespace Go.Proofs.Ytpamgfbecgjjeaa
set_option linter.unusedVariables false
set_option linter.unusedSimpArgs false
open Go Go.RowKit

theorem tb_z94 : zeroI Try.prog 94 = some (.agg #[.pointer none, .nilFunc, .nilFunc, .map none]) := by kernel_rfl
theorem tb_size24 : (Try.prog.info? 24).map (·.size) = some 1 := by kernel_rfl
theorem tb_size87 : (Try.prog.info? 87).map (·.size) = some 1 := by kernel_rfl
theorem tb_size91 : (Try.prog.info? 91).map (·.size) = some 1 := by kernel_rfl
theorem tb_size92 : (Try.prog.info? 92).map (·.size) = some 1 := by kernel_rfl
theorem tb_build94_0_1_2_3 {f : Nat → Value} {w : World} {d : Option Nat} {ty : TypeId} {ps : String} {af : Array Edge} {g : Option (Nat × Bool)} {x0 x1 x2 x3 : Operand} {c0_0 c1_0 c2_0 c3_0 : Value} (h0 : evF f x0 = c0_0) (k0 : c0_0.cells = #[c0_0]) (h1 : evF f x1 = c1_0) (k1 : c1_0.cells = #[c1_0]) (h2 : evF f x2 = c2_0) (k2 : c2_0.cells = #[c2_0]) (h3 : evF f x3 = c3_0) (k3 : c3_0.cells = #[c3_0]) :
    (execOp (evF f) ⟨d, .build 94 #[(0, x0), (1, x1), (2, x2), (3, x3)], ty, ps, af, g⟩).run Try.prog w = .ok (.value (.agg #[c0_0, c1_0, c2_0, c3_0])) w := by
  obtain ⟨i0, hi0, hz0⟩ := Option.bind_eq_some_iff.1 (show (Try.prog.info? 94).bind (·.zero) = _ from tb_z94)
  obtain ⟨j24, hj24, hs24⟩ := Option.map_eq_some_iff.1 tb_size24
  obtain ⟨j87, hj87, hs87⟩ := Option.map_eq_some_iff.1 tb_size87
  obtain ⟨j91, hj91, hs91⟩ := Option.map_eq_some_iff.1 tb_size91
  obtain ⟨j92, hj92, hs92⟩ := Option.map_eq_some_iff.1 tb_size92
  simp [execOp, h0, k0, h1, k1, h2, k2, h3, k3, Instr.build, zeroValue, typeInfo, sizeOf, hi0, hz0, run_underlying Try.underlying94, Instr.fill, cells_agg, hj24, hs24, hj87, hs87, hj91, hs91, hj92, hs92]
theorem tb_ar89 : arrI Try.prog 89 = some (2, 1) := by kernel_rfl
theorem tb_c72 : callB Try.prog 72 = true := by kernel_rfl
theorem tb_fo94_1 : fieldO Try.prog 94 1 = some 1 := by kernel_rfl
theorem tb_sc87 : scalarB Try.prog 87 = true := by kernel_rfl
theorem tb_fo94_3 : fieldO Try.prog 94 3 = some 3 := by kernel_rfl
theorem tb_sc92 : scalarB Try.prog 92 = true := by kernel_rfl
theorem tb_z89 : zeroI Try.prog 89 = some (.agg #[.int .i64 0, .int .i64 0]) := by kernel_rfl
theorem tb_build89_0_1 {f : Nat → Value} {w : World} {d : Option Nat} {ty : TypeId} {ps : String} {af : Array Edge} {g : Option (Nat × Bool)} {x0 x1 : Operand} {c0_0 c1_0 : Value} (h0 : evF f x0 = c0_0) (k0 : c0_0.cells = #[c0_0]) (h1 : evF f x1 = c1_0) (k1 : c1_0.cells = #[c1_0]) :
    (execOp (evF f) ⟨d, .build 89 #[(0, x0), (1, x1)], ty, ps, af, g⟩).run Try.prog w = .ok (.value (.agg #[c0_0, c1_0])) w := by
  obtain ⟨i0, hi0, hz0⟩ := Option.bind_eq_some_iff.1 (show (Try.prog.info? 89).bind (·.zero) = _ from tb_z89)
  obtain ⟨j3, hj3, hs3⟩ := Option.map_eq_some_iff.1 tb_size3
  simp [execOp, h0, k0, h1, k1, Instr.build, zeroValue, typeInfo, sizeOf, hi0, hz0, run_underlying Try.underlying89, Instr.fill, cells_agg, hj3, hs3]
theorem tb_mp92 : isMap Try.prog 92 = some (89, 3) := by kernel_rfl
theorem tb_eq89 {f : Nat → Value} {w : World} {d : Option Nat} {ty t2 : TypeId} {ps : String} {af : Array Edge} {g : Option (Nat × Bool)} {x y : Operand} {a0 a1 b0 b1 : Int} (hx : evF f x = .agg #[.int .i64 a0, .int .i64 a1]) (hy : evF f y = .agg #[.int .i64 b0, .int .i64 b1]) :
    (execOp (evF f) ⟨d, .binOp .eql 89 x y t2, ty, ps, af, g⟩).run Try.prog w = .ok (.value (.bool (decide ((a0 = b0 ∧ a1 = b1))))) w := by
  have hg : Try.prog.eqGuardType Try.prog.depth 89 = false := by kernel_rfl
  have ha := run_equalIn_arr (P := Try.prog) w 9999 2 89 3 #[.int .i64 a0, .int .i64 a1] #[.int .i64 b0, .int .i64 b1]
    (fun i => .int .i64 ([a0, a1].getD i 0)) (fun i => .int .i64 ([b0, b1].getD i 0)) (fun i => [a0, a1].getD i 0 == [b0, b1].getD i 0) Try.underlying89 (by kernel_rfl) (by simp [isAgg, run_underlying Try.underlying3])
    (fun i hi => by
      have : i = 0 ∨ i = 1 := by omega
      rcases this with rfl | rfl <;> rfl)
    (fun i hi => by
      have : i = 0 ∨ i = 1 := by omega
      rcases this with rfl | rfl <;> rfl)
    (fun i hi => run_equalIn_int w 9998 3 .i64 .i64 _ _ Try.underlying3)
  simp only [execOp, hx, hy, Sem.run_bind, run_eqGuard_agg _ _ _ _ _ _ _ hg, Result.andThen_ok, run_eql_struct, ha]
  simp [List.range, List.range.loop]
  by_cases q0 : a0 = b0 <;> by_cases q1 : a1 = b1 <;> simp [q0, q1]
theorem tb_key89 : KeyOk Try.prog 89 (fun v => ∃ a : (Nat × Nat), v = key2 a) := by
  refine keyOk_of Try.underlying89 ?_ ?_ ?_ ?_
  · rintro w _ _ ⟨a, rfl⟩ ⟨c, rfl⟩
    have hg : Try.prog.eqGuardType Try.prog.depth 89 = false := by kernel_rfl
    refine ⟨_, equal_agg hg (tb_eq89 rfl rfl), ?_⟩
    rw [decide_eq_true_eq]
    constructor
    · rintro ⟨h1, h2⟩
      exact congrArg _ (Prod.ext (by omega) (by omega))
    · intro h
      rw [key2_inj _ _ h]
      exact ⟨rfl, rfl⟩
  · rintro _ _ ⟨a, rfl⟩ ⟨c, rfl⟩
    exact .inl rfl
  · rintro w em _ ⟨a, rfl⟩
    obtain ⟨j0, hj0, hs0⟩ := Option.map_eq_some_iff.1 (show (Try.prog.info? 3).map (·.size) = some 1 by kernel_rfl)
    have h2 : ∀ k, (Instr.checkKey em (k + 1 + 1) 89 (key2 a)).run Try.prog w = .ok () w := fun k => by
      simp [key2, Instr.checkKey, part, isAgg, sizeOf, typeInfo, hj0, hs0, run_underlying Try.underlying89, run_underlying Try.underlying3, List.range']
    exact h2 9998
  · rintro _ ⟨a, rfl⟩
    simp [key2, Instr.sameBits]

theorem tb_fo94_0 : fieldO Try.prog 94 0 = some 0 := by kernel_rfl
theorem tb_sc24 : scalarB Try.prog 24 = true := by kernel_rfl
theorem tb_c120 : callB Try.prog 120 = true := by kernel_rfl
theorem tb_fo94_2 : fieldO Try.prog 94 2 = some 2 := by kernel_rfl
theorem tb_sc91 : scalarB Try.prog 91 = true := by kernel_rfl
theorem tb_ag89 : aggN Try.prog 89 = some 2 := by kernel_rfl
theorem tb_c121 : callB Try.prog 121 = true := by kernel_rfl
theorem tb_zs3 : (zeroI Try.prog 3).map (fun z => z.cells.size) = some 1 := by kernel_rfl
theorem tb_c73 : callB Try.prog 73 = true := by kernel_rfl
theorem tb_c118 : callB Try.prog 118 = true := by kernel_rfl
theorem tb_c77 : callB Try.prog 77 = true := by kernel_rfl
theorem tb_c78 : callB Try.prog 78 = true := by kernel_rfl
theorem tb_c69 : callB Try.prog 69 = true := by kernel_rfl
theorem tb_c80 : callB Try.prog 80 = true := by kernel_rfl

theorem C___zdd_Zdd__Union_1 (f g : Nat) (w : World) :
    Fn Try.prog 77 #[.int .i64 (f : Int), .int .i64 (g : Int)] w fun v w' => v = .tuple #[.int .i64 ((opU.ends f g).1 : Int), .bool (opU.ends f g).2] := by
 refine Fn_intro (n := 17) Try.func77 rfl rfl (Nat.le_of_ble_eq_true rfl) ?_
 have hB : Below w.heap.size w w := Below.refl _ _
 refine WC_seq (fun K1 hK2 => ?_)
 refine WC_region ?_
 refine WL_val (dd := some 4) rfl rfl rfl (r_assign (v := .int .i64 0) rfl) ?_
 refine WL_val (dd := some 5) rfl rfl rfl (r_assign (v := .bool false) rfl) ?_
 refine WL_nil ?_
 refine hK2 _ _ ?_
 clear hK2 K1
 refine WC_seq (fun K3 hK4 => ?_)
 refine WC_seq (fun K5 hK6 => ?_)
 refine WC_region ?_
 refine WL_val (dd := some 6) rfl rfl rfl (r_move (v := .int .i64 _) rfl) ?_
 refine WL_val (dd := some 7) rfl rfl rfl (r_eql rfl rfl) ?_
 refine WL_split (dd := some 8) rfl rfl rfl (r_move (v := .bool _) rfl) (fun hs1_2 => ?_) (fun hs1_2 => ?_)
 ·
  try with_reducible replace hs1_2 := of_decide_eq_true hs1_2
  refine WL_skip (dd := some 9) rfl rfl rfl ?_
  refine WL_skip (dd := some 10) rfl rfl rfl ?_
  refine WL_skip (dd := some 11) rfl rfl rfl ?_
  refine WL_val (dd := some 12) rfl rfl rfl (r_pick_t rfl (v := .bool true) rfl) ?_
  refine WL_nil ?_
  refine hK6 _ _ ?_
  clear hK6 K5
  refine WC_cond_true rfl ?_
  refine WC_seq (fun K7 hK8 => ?_)
  refine WC_region ?_
  refine WL_val (dd := some 13) rfl rfl rfl (r_move (v := .int .i64 _) rfl) ?_
  refine WL_val (dd := some 4) rfl rfl rfl (r_assign (v := .int .i64 _) rfl) ?_
  refine WL_val (dd := some 5) rfl rfl rfl (r_assign (v := .bool true) rfl) ?_
  refine WL_nil ?_
  refine hK8 _ _ ?_
  clear hK8 K7
  refine WC_ret ?_
  repeat (first | refine thenQ_ret ?_ | refine blockQ_ret ?_)
  try clear hK4 K3
  refine ret_tt (v := .int .i64 _) rfl (v1 := .bool true) rfl ?_
  refine ⟨hB, ?_⟩
  first | exact eU_t (.inl hs1_2) | exact eU_t (.inr hc0) | exact eU_f hs1_2 hc0
 ·
  try with_reducible replace hs1_2 := of_decide_eq_false hs1_2
  refine WL_val (dd := some 9) rfl rfl rfl (r_move (v := .int .i64 _) rfl) ?_
  refine WL_val (dd := some 10) rfl rfl rfl (r_move (v := .int .i64 _) rfl) ?_
  refine WL_val (dd := some 11) rfl rfl rfl (r_eql rfl rfl) ?_
  refine WL_val (dd := some 12) rfl rfl rfl (r_pick_f rfl (v := .bool _) rfl) ?_
  refine WL_nil ?_
  refine hK6 _ _ ?_
  clear hK6 K5
  refine WC_cond (b := _) rfl (fun hc0 => ?_) (fun hc0 => ?_)
  ·
   try with_reducible replace hc0 := of_decide_eq_true hc0
   refine WC_seq (fun K9 hK10 => ?_)
   refine WC_region ?_
   refine WL_val (dd := some 13) rfl rfl rfl (r_move (v := .int .i64 _) rfl) ?_
   refine WL_val (dd := some 4) rfl rfl rfl (r_assign (v := .int .i64 _) rfl) ?_
   refine WL_val (dd := some 5) rfl rfl rfl (r_assign (v := .bool true) rfl) ?_
   refine WL_nil ?_
   refine hK10 _ _ ?_
   clear hK10 K9
   refine WC_ret ?_
   repeat (first | refine thenQ_ret ?_ | refine blockQ_ret ?_)
   try clear hK4 K3
   refine ret_tt (v := .int .i64 _) rfl (v1 := .bool true) rfl ?_
   refine ⟨hB, ?_⟩
   first | exact eU_t (.inl hs1_2) | exact eU_t (.inr hc0) | exact eU_f hs1_2 hc0
  ·
   try with_reducible replace hc0 := of_decide_eq_false hc0
   refine WC_skip ?_
   refine hK4 _ _ ?_
   clear hK4 K3
   refine WC_seq (fun K11 hK12 => ?_)
   refine WC_region ?_
   refine WL_val (dd := some 14) rfl rfl rfl (r_move (v := .int .i64 _) rfl) ?_
   refine WL_val (dd := some 15) rfl rfl rfl (r_move (v := .int .i64 _) rfl) ?_
   refine WL_val (dd := some 16) rfl rfl rfl (r_eql rfl rfl) ?_
   refine WL_val (dd := some 4) rfl rfl rfl (r_assign (v := .int .i64 _) rfl) ?_
   refine WL_val (dd := some 5) rfl rfl rfl (r_assign (v := .bool _) rfl) ?_
   refine WL_nil ?_
   refine hK12 _ _ ?_
   clear hK12 K11
   refine WC_ret ?_
   repeat (first | refine thenQ_ret ?_ | refine blockQ_ret ?_)
   refine ret_tt (v := .int .i64 _) rfl (v1 := .bool _) rfl ?_
   refine ⟨hB, ?_⟩
   first | exact eU_t (.inl hs1_2) | exact eU_t (.inr hc0) | exact eU_f hs1_2 hc0

theorem C___zdd_Zdd__Less_1 (f g : Nat) (w : World) :
    Fn Try.prog 80 #[.int .i64 (f : Int), .int .i64 (g : Int)] w fun v w' => v = .tuple #[.int .i64 ((opL.ends f g).1 : Int), .bool (opL.ends f g).2] := by
 refine Fn_intro (n := 16) Try.func80 rfl rfl (Nat.le_of_ble_eq_true rfl) ?_
 have hB : Below w.heap.size w w := Below.refl _ _
 refine WC_seq (fun K1 hK2 => ?_)
 refine WC_region ?_
 refine WL_val (dd := some 4) rfl rfl rfl (r_assign (v := .int .i64 0) rfl) ?_
 refine WL_val (dd := some 5) rfl rfl rfl (r_assign (v := .bool false) rfl) ?_
 refine WL_nil ?_
 refine hK2 _ _ ?_
 clear hK2 K1
 refine WC_seq (fun K3 hK4 => ?_)
 refine WC_seq (fun K5 hK6 => ?_)
 refine WC_region ?_
 refine WL_val (dd := some 6) rfl rfl rfl (r_move (v := .int .i64 _) rfl) ?_
 refine WL_val (dd := some 7) rfl rfl rfl (r_eql rfl rfl) ?_
 refine WL_split (dd := some 8) rfl rfl rfl (r_move (v := .bool _) rfl) (fun hs1_2 => ?_) (fun hs1_2 => ?_)
 ·
  try with_reducible replace hs1_2 := of_decide_eq_true hs1_2
  refine WL_skip (dd := some 9) rfl rfl rfl ?_
  refine WL_skip (dd := some 10) rfl rfl rfl ?_
  refine WL_skip (dd := some 11) rfl rfl rfl ?_
  refine WL_val (dd := some 12) rfl rfl rfl (r_pick_t rfl (v := .bool true) rfl) ?_
  refine WL_nil ?_
  refine hK6 _ _ ?_
  clear hK6 K5
  refine WC_cond_true rfl ?_
  refine WC_seq (fun K7 hK8 => ?_)
  refine WC_region ?_
  refine WL_val (dd := some 4) rfl rfl rfl (r_assign (v := .int .i64 0) rfl) ?_
  refine WL_val (dd := some 5) rfl rfl rfl (r_assign (v := .bool true) rfl) ?_
  refine WL_nil ?_
  refine hK8 _ _ ?_
  clear hK8 K7
  refine WC_ret ?_
  repeat (first | refine thenQ_ret ?_ | refine blockQ_ret ?_)
  try clear hK4 K3
  refine ret_tt (v := .int .i64 0) rfl (v1 := .bool true) rfl ?_
  refine ⟨hB, ?_⟩
  first | exact eL_t (.inl hs1_2) | exact eL_t (.inr hc0) | exact eL_f hs1_2 hc0
 ·
  try with_reducible replace hs1_2 := of_decide_eq_false hs1_2
  refine WL_val (dd := some 9) rfl rfl rfl (r_move (v := .int .i64 _) rfl) ?_
  refine WL_val (dd := some 10) rfl rfl rfl (r_move (v := .int .i64 _) rfl) ?_
  refine WL_val (dd := some 11) rfl rfl rfl (r_eql rfl rfl) ?_
  refine WL_val (dd := some 12) rfl rfl rfl (r_pick_f rfl (v := .bool _) rfl) ?_
  refine WL_nil ?_
  refine hK6 _ _ ?_
  clear hK6 K5
  refine WC_cond (b := _) rfl (fun hc0 => ?_) (fun hc0 => ?_)
  ·
   try with_reducible replace hc0 := of_decide_eq_true hc0
   refine WC_seq (fun K9 hK10 => ?_)
   refine WC_region ?_
   refine WL_val (dd := some 4) rfl rfl rfl (r_assign (v := .int .i64 0) rfl) ?_
   refine WL_val (dd := some 5) rfl rfl rfl (r_assign (v := .bool true) rfl) ?_
   refine WL_nil ?_
   refine hK10 _ _ ?_
   clear hK10 K9
   refine WC_ret ?_
   repeat (first | refine thenQ_ret ?_ | refine blockQ_ret ?_)
   try clear hK4 K3
   refine ret_tt (v := .int .i64 0) rfl (v1 := .bool true) rfl ?_
   refine ⟨hB, ?_⟩
   first | exact eL_t (.inl hs1_2) | exact eL_t (.inr hc0) | exact eL_f hs1_2 hc0
  ·
   try with_reducible replace hc0 := of_decide_eq_false hc0
   refine WC_skip ?_
   refine hK4 _ _ ?_
   clear hK4 K3
   refine WC_seq (fun K11 hK12 => ?_)
   refine WC_region ?_
   refine WL_val (dd := some 13) rfl rfl rfl (r_move (v := .int .i64 _) rfl) ?_
   refine WL_val (dd := some 14) rfl rfl rfl (r_move (v := .int .i64 _) rfl) ?_
   refine WL_val (dd := some 15) rfl rfl rfl (r_eql rfl rfl) ?_
   refine WL_val (dd := some 4) rfl rfl rfl (r_assign (v := .int .i64 _) rfl) ?_
   refine WL_val (dd := some 5) rfl rfl rfl (r_assign (v := .bool _) rfl) ?_
   refine WL_nil ?_
   refine hK12 _ _ ?_
   clear hK12 K11
   refine WC_ret ?_
   repeat (first | refine thenQ_ret ?_ | refine blockQ_ret ?_)
   refine ret_tt (v := .int .i64 _) rfl (v1 := .bool _) rfl ?_
   refine ⟨hB, ?_⟩
   first | exact eL_t (.inl hs1_2) | exact eL_t (.inr hc0) | exact eL_f hs1_2 hc0

theorem C___zdd_Zdd__Join_1 (f g : Nat) (w : World) :
    Fn Try.prog 70 #[.int .i64 (f : Int), .int .i64 (g : Int)] w fun v w' => v = .tuple #[.int .i64 ((opJ.ends f g).1 : Int), .bool (opJ.ends f g).2] := by
 refine Fn_intro (n := 20) Try.func70 rfl rfl (Nat.le_of_ble_eq_true rfl) ?_
 have hB : Below w.heap.size w w := Below.refl _ _
 refine WC_seq (fun K1 hK2 => ?_)
 refine WC_region ?_
 refine WL_val (dd := some 4) rfl rfl rfl (r_assign (v := .int .i64 0) rfl) ?_
 refine WL_val (dd := some 5) rfl rfl rfl (r_assign (v := .bool false) rfl) ?_
 refine WL_nil ?_
 refine hK2 _ _ ?_
 clear hK2 K1
 refine WC_seq (fun K3 hK4 => ?_)
 refine WC_block ?_
 refine WC_seq (fun K5 hK6 => ?_)
 refine WC_region ?_
 refine WL_val (dd := some 7) rfl rfl rfl (r_move (v := .int .i64 _) rfl) ?_
 refine WL_val (dd := some 8) rfl rfl rfl (r_eql rfl rfl) ?_
 refine WL_split (dd := some 9) rfl rfl rfl (r_move (v := .bool _) rfl) (fun hs1_2 => ?_) (fun hs1_2 => ?_)
 ·
  try with_reducible replace hs1_2 := of_decide_eq_true hs1_2
  refine WL_skip (dd := some 10) rfl rfl rfl ?_
  refine WL_skip (dd := some 11) rfl rfl rfl ?_
  refine WL_val (dd := some 12) rfl rfl rfl (r_pick_t rfl (v := .bool true) rfl) ?_
  refine WL_val (dd := some 6) rfl rfl rfl (r_assign (v := .bool true) rfl) ?_
  refine WL_nil ?_
  refine hK6 _ _ ?_
  clear hK6 K5
  refine WC_cond_true rfl ?_
  refine WC_seq (fun K7 hK8 => ?_)
  refine WC_region ?_
  refine WL_val (dd := some 4) rfl rfl rfl (r_assign (v := .int .i64 0) rfl) ?_
  refine WL_val (dd := some 5) rfl rfl rfl (r_assign (v := .bool true) rfl) ?_
  refine WL_nil ?_
  refine hK8 _ _ ?_
  clear hK8 K7
  refine WC_ret ?_
  repeat (first | refine thenQ_ret ?_ | refine blockQ_ret ?_)
  try clear hK4 K3
  refine ret_tt (v := .int .i64 0) rfl (v1 := .bool true) rfl ?_
  refine ⟨hB, ?_⟩
  first | exact eJ_t (.inl hs1_2) | exact eJ_t (.inr hc0) | exact eJ_1 hs1_2 hc0 hc1 | exact eJ_f hs1_2 hc0 hc1
 ·
  try with_reducible replace hs1_2 := of_decide_eq_false hs1_2
  refine WL_val (dd := some 10) rfl rfl rfl (r_move (v := .int .i64 _) rfl) ?_
  refine WL_val (dd := some 11) rfl rfl rfl (r_eql rfl rfl) ?_
  refine WL_val (dd := some 12) rfl rfl rfl (r_pick_f rfl (v := .bool _) rfl) ?_
  refine WL_val (dd := some 6) rfl rfl rfl (r_assign (v := .bool _) rfl) ?_
  refine WL_nil ?_
  refine hK6 _ _ ?_
  clear hK6 K5
  refine WC_cond (b := _) rfl (fun hc0 => ?_) (fun hc0 => ?_)
  ·
   try with_reducible replace hc0 := of_decide_eq_true hc0
   refine WC_seq (fun K9 hK10 => ?_)
   refine WC_region ?_
   refine WL_val (dd := some 4) rfl rfl rfl (r_assign (v := .int .i64 0) rfl) ?_
   refine WL_val (dd := some 5) rfl rfl rfl (r_assign (v := .bool true) rfl) ?_
   refine WL_nil ?_
   refine hK10 _ _ ?_
   clear hK10 K9
   refine WC_ret ?_
   repeat (first | refine thenQ_ret ?_ | refine blockQ_ret ?_)
   try clear hK4 K3
   refine ret_tt (v := .int .i64 0) rfl (v1 := .bool true) rfl ?_
   refine ⟨hB, ?_⟩
   first | exact eJ_t (.inl hs1_2) | exact eJ_t (.inr hc0) | exact eJ_1 hs1_2 hc0 hc1 | exact eJ_f hs1_2 hc0 hc1
  ·
   try with_reducible replace hc0 := of_decide_eq_false hc0
   refine WC_seq (fun K11 hK12 => ?_)
   refine WC_region ?_
   refine WL_val (dd := some 14) rfl rfl rfl (r_move (v := .int .i64 _) rfl) ?_
   refine WL_val (dd := some 15) rfl rfl rfl (r_eql rfl rfl) ?_
   refine WL_val (dd := some 13) rfl rfl rfl (r_assign (v := .bool _) rfl) ?_
   refine WL_nil ?_
   refine hK12 _ _ ?_
   clear hK12 K11
   refine WC_cond (b := _) rfl (fun hc1 => ?_) (fun hc1 => ?_)
   ·
    try with_reducible replace hc1 := of_decide_eq_true hc1
    refine WC_seq (fun K13 hK14 => ?_)
    refine WC_region ?_
    refine WL_val (dd := some 16) rfl rfl rfl (r_move (v := .int .i64 _) rfl) ?_
    refine WL_val (dd := some 4) rfl rfl rfl (r_assign (v := .int .i64 _) rfl) ?_
    refine WL_val (dd := some 5) rfl rfl rfl (r_assign (v := .bool true) rfl) ?_
    refine WL_nil ?_
    refine hK14 _ _ ?_
    clear hK14 K13
    refine WC_ret ?_
    repeat (first | refine thenQ_ret ?_ | refine blockQ_ret ?_)
    try clear hK4 K3
    refine ret_tt (v := .int .i64 _) rfl (v1 := .bool true) rfl ?_
    refine ⟨hB, ?_⟩
    first | exact eJ_t (.inl hs1_2) | exact eJ_t (.inr hc0) | exact eJ_1 hs1_2 hc0 hc1 | exact eJ_f hs1_2 hc0 hc1
   ·
    try with_reducible replace hc1 := of_decide_eq_false hc1
    refine WC_skip ?_
    refine hK4 _ _ ?_
    clear hK4 K3
    refine WC_seq (fun K15 hK16 => ?_)
    refine WC_region ?_
    refine WL_val (dd := some 17) rfl rfl rfl (r_move (v := .int .i64 _) rfl) ?_
    refine WL_val (dd := some 18) rfl rfl rfl (r_move (v := .int .i64 _) rfl) ?_
    refine WL_val (dd := some 19) rfl rfl rfl (r_eql rfl rfl) ?_
    refine WL_val (dd := some 4) rfl rfl rfl (r_assign (v := .int .i64 _) rfl) ?_
    refine WL_val (dd := some 5) rfl rfl rfl (r_assign (v := .bool _) rfl) ?_
    refine WL_nil ?_
    refine hK16 _ _ ?_
    clear hK16 K15
    refine WC_ret ?_
    repeat (first | refine thenQ_ret ?_ | refine blockQ_ret ?_)
    refine ret_tt (v := .int .i64 _) rfl (v1 := .bool _) rfl ?_
    refine ⟨hB, ?_⟩
    first | exact eJ_t (.inl hs1_2) | exact eJ_t (.inr hc0) | exact eJ_1 hs1_2 hc0 hc1 | exact eJ_f hs1_2 hc0 hc1

def EnOk (ge : Nat) (o : Op) : Prop := ∀ (f g : Nat) (w : World), Fn Try.prog ge #[.int .i64 (f : Int), .int .i64 (g : Int)] w fun v w' => v = .tuple #[.int .i64 ((o.ends f g).1 : Int), .bool (o.ends f g).2]
def DoAt (ge gh : Nat) (o : Op) (n : Nat) : Prop := ∀ (N ba bm bz bd bx R : Nat) (ns : List Nd) (dl : List ((Nat × Nat) × Int)) (f g : Nat) (w : World), N ≤ w.heap.size → At w bz #[.pointer (some ⟨ba, 0, none⟩)] 100 → At w bd #[.pointer (some ⟨bz, 0, none⟩), .func (.func ge) #[] #[], .func (.func gh) #[] #[], .map (some bx)] 94 → Dia 147 150 N ba bm R w ns → MapT key2 keyI w bx dl → Done o.res ns dl → N ≤ bx → bx ≠ bm → f < ns.length + 2 → g < ns.length + 2 → 25 - min (lvl ns f) (lvl ns g) ≤ n →
  FnG Try.prog 72 #[.pointer (some ⟨bd, 0, none⟩), .int .i64 (f : Int), .int .i64 (g : Int)] w fun v w' => PD 147 150 N ba bm R bx o.res w ns (o.cst ns f g) (min (lvl ns f) (lvl ns g)) (o.res (M ns f) (M ns g)) v w'
def HiAt (ge gh : Nat) (o : Op) (n : Nat) : Prop := ∀ (N ba bm bz bd bx R : Nat) (ns : List Nd) (dl : List ((Nat × Nat) × Int)) (f0 f1 g0 g1 l : Nat) (w : World), N ≤ w.heap.size → At w bz #[.pointer (some ⟨ba, 0, none⟩)] 100 → At w bd #[.pointer (some ⟨bz, 0, none⟩), .func (.func ge) #[] #[], .func (.func gh) #[] #[], .map (some bx)] 94 → Dia 147 150 N ba bm R w ns → MapT key2 keyI w bx dl → Done o.res ns dl → N ≤ bx → bx ≠ bm → f0 < ns.length + 2 → f1 < ns.length + 2 → g0 < ns.length + 2 → g1 < ns.length + 2 → l < lvl ns f0 → l < lvl ns f1 → l < lvl ns g0 → l < lvl ns g1 → l < 24 → 24 - l ≤ n →
  FnG Try.prog gh #[.pointer (some ⟨bd, 0, none⟩), .agg #[.int .i64 (f0 : Int), .int .i64 (f1 : Int)], .agg #[.int .i64 (g0 : Int), .int .i64 (g1 : Int)]] w fun v w' => PD 147 150 N ba bm R bx o.res w ns (o.hcst ns l f0 f1 g0 g1) (l + 1) (o.resH (M ns f0) (M ns f1) (M ns g0) (M ns g1)) v w'

theorem C___zdd_Zdd__deed (bz ge gh : Nat) (w : World) :
    Fn Try.prog 118 #[.pointer (some ⟨bz, 0, none⟩), .func (.func ge) #[] #[], .func (.func gh) #[] #[]] w fun v w' => ∃ bd bx, v = .func (.func 72) #[.pointer (some ⟨bd, 0, none⟩)] #[] ∧ At w' bd #[.pointer (some ⟨bz, 0, none⟩), .func (.func ge) #[] #[], .func (.func gh) #[] #[], .map (some bx)] 94 ∧ MapT key2 keyI w' bx ([] : List ((Nat × Nat) × Int)) ∧ w.heap.size ≤ bd ∧ w.heap.size ≤ bx := by
 refine Fn_intro (n := 16) Try.func118 rfl rfl (Nat.le_of_ble_eq_true rfl) ?_
 have hB : Below w.heap.size w w := Below.refl _ _
 refine WC_seq (fun K1 hK2 => ?_)
 refine WC_region ?_
 refine WL_val (dd := some 6) rfl rfl rfl (r_assign (v := _) rfl) ?_
 refine WL_nil ?_
 refine hK2 _ _ ?_
 clear hK2 K1
 refine WC_seq (fun K3 hK4 => ?_)
 refine WC_region ?_
 refine WL_val (dd := some 8) rfl rfl rfl (r_move (v := .pointer (some ⟨bz, 0, none⟩)) rfl) ?_
 refine WL_val (dd := some 9) rfl rfl rfl (r_move (v := .func _ _ _) rfl) ?_
 refine WL_val (dd := some 10) rfl rfl rfl (r_move (v := .func _ _ _) rfl) ?_
 refine WL_step (dd := some 11) rfl rfl rfl (Y_makeMap (enc := key2) (encV := keyI) (fun b1_3 W5 hb6 hE7 hm1_3 => ?_))
 have lo_b1_3 : w.heap.size ≤ b1_3 := hb6 ▸ (Below.size hB)
 clear hb6
 replace hB := below_ext hB hE7 (Nat.le_refl _)
 clear hE7
 refine WL_val (dd := some 12) rfl rfl rfl (tb_build94_0_1_2_3 (h0 := rfl) (k0 := rfl) (h1 := rfl) (k1 := rfl) (h2 := rfl) (k2 := rfl) (h3 := rfl) (k3 := rfl) (c0_0 := .pointer (some ⟨bz, 0, none⟩)) (c1_0 := .func _ _ _) (c2_0 := .func _ _ _) (c3_0 := .map (some b1_3))) ?_
 refine WL_step (dd := some 13) rfl rfl rfl (Y_box (c := #[_, _, _, _]) rfl rfl (fun b1_5 W8 hb9 hE10 hm1_5 => ?_))
 have lo_b1_5 : w.heap.size ≤ b1_5 := hb9 ▸ (Below.size hB)
 clear hb9
 replace hB := below_ext hB hE10 (Nat.le_refl _)
 replace hm1_3 := hE10.mapT hm1_3
 clear hE10
 refine WL_val (dd := some 7) rfl rfl rfl (r_assign (v := .pointer (some ⟨b1_5, 0, none⟩)) rfl) ?_
 refine WL_nil ?_
 refine hK4 _ _ ?_
 clear hK4 K3
 refine WC_seq (fun K11 hK12 => ?_)
 refine WC_region ?_
 refine WL_val (dd := some 14) rfl rfl rfl (r_move (v := .pointer (some ⟨b1_5, 0, none⟩)) rfl) ?_
 refine WL_val (dd := some 15) rfl rfl rfl (r_makeFunc1 (v := .pointer (some ⟨b1_5, 0, none⟩)) rfl) ?_
 refine WL_val (dd := some 6) rfl rfl rfl (r_assign (v := .func (.func 72) #[.pointer (some ⟨b1_5, 0, none⟩)] #[]) rfl) ?_
 refine WL_nil ?_
 refine hK12 _ _ ?_
 clear hK12 K11
 refine WC_ret ?_
 repeat (first | refine thenQ_ret ?_ | refine blockQ_ret ?_)
 refine ret_t (v := .func (.func 72) #[.pointer (some ⟨b1_5, 0, none⟩)] #[]) rfl ?_
 refine ⟨hB, ?_⟩
 exact ⟨_, _, rfl, hm1_5, hm1_3, lo_b1_5, lo_b1_3⟩

theorem C_plain (ge n : Nat) (o : Op) (N ba bm bz bd bx R : Nat) (ns : List Nd) (dl : List ((Nat × Nat) × Int)) (f0 f1 g0 g1 l : Nat) (w : World) (hoh : ∀ ns l f0 f1 g0 g1, o.hcst ns l f0 f1 g0 g1 = o.cst ns f1 g1) (hor : ∀ A0 A1 B0 B1, o.resH A0 A1 B0 B1 = o.res A1 B1) (ih : DoAt ge 78 o n) (hN0 : N ≤ w.heap.size) (hz : At w bz #[.pointer (some ⟨ba, 0, none⟩)] 100) (hbd : At w bd #[.pointer (some ⟨bz, 0, none⟩), .func (.func ge) #[] #[], .func (.func 78) #[] #[], .map (some bx)] 94) (hD : Dia 147 150 N ba bm R w ns) (hdn : MapT key2 keyI w bx dl) (hdone : Done o.res ns dl) (lox : N ≤ bx) (hxm : bx ≠ bm) (v0 : f0 < ns.length + 2) (v1 : f1 < ns.length + 2) (v2 : g0 < ns.length + 2) (v3 : g1 < ns.length + 2) (k0 : l < lvl ns f0) (k1 : l < lvl ns f1) (k2 : l < lvl ns g0) (k3 : l < lvl ns g1) (h24 : l < 24) (hn : 24 - l ≤ n) :
    FnG Try.prog 78 #[.pointer (some ⟨bd, 0, none⟩), .agg #[.int .i64 (f0 : Int), .int .i64 (f1 : Int)], .agg #[.int .i64 (g0 : Int), .int .i64 (g1 : Int)]] w fun v w' => PD 147 150 N ba bm R bx o.res w ns (o.hcst ns l f0 f1 g0 g1) (l + 1) (o.resH (M ns f0) (M ns f1) (M ns g0) (M ns g1)) v w' := by
 refine FnG_intro (n := 16) Try.func78 rfl rfl (Nat.le_of_ble_eq_true rfl) ?_
 have hB : Below N w w := Below.refl _ _
 have hX : Dx 150 N [bx, ba, bm] w w := Dx.refl
 refine WC_seq (fun K1 hK2 => ?_)
 refine WC_region ?_
 refine WL_step (dd := some 4) rfl rfl rfl (Y_box (c := #[_, _]) rfl rfl (fun b0_0 W3 hb4 hE5 hm0_0 => ?_))
 have lo_b0_0 : N ≤ b0_0 := hb4 ▸ (Nat.le_trans hN0 (Below.size hB))
 clear hb4
 replace hz := hE5.at hz
 replace hbd := hE5.at hbd
 replace hD := Dia.ext hE5 hD
 replace hdn := hE5.mapT hdn
 replace hX := Dx.trans hX (Dx.ext hE5)
 replace hB := below_ext hB hE5 hN0
 clear hE5
 refine WL_step (dd := some 5) rfl rfl rfl (Y_box (c := #[_, _]) rfl rfl (fun b0_1 W6 hb7 hE8 hm0_1 => ?_))
 have lo_b0_1 : N ≤ b0_1 := hb7 ▸ (Nat.le_trans hN0 (Below.size hB))
 have ne_b0_0_b0_1 : b0_0 ≠ b0_1 := Nat.ne_of_lt (hb7 ▸ hm0_0.lt)
 clear hb7
 replace hz := hE8.at hz
 replace hbd := hE8.at hbd
 replace hD := Dia.ext hE8 hD
 replace hdn := hE8.mapT hdn
 replace hX := Dx.trans hX (Dx.ext hE8)
 replace hB := below_ext hB hE8 hN0
 replace hm0_0 := hE8.at hm0_0
 clear hE8
 refine WL_val (dd := some 6) rfl rfl rfl (r_assign (v := .int .i64 0) rfl) ?_
 refine WL_val (dd := some 7) rfl rfl rfl (r_assign (v := .int .i64 0) rfl) ?_
 refine WL_nil ?_
 refine hK2 _ _ ?_
 clear hK2 K1
 refine WC_seq (fun K9 hK10 => ?_)
 refine WC_region ?_
 refine WL_val (dd := some 8) rfl rfl rfl (r_move (v := .pointer (some ⟨bd, 0, none⟩)) rfl) ?_
 refine WL_val (dd := some 9) rfl rfl rfl (r_idxA rfl rfl tb_ar89 (by omega) (by omega)) ?_
 refine WL_val (dd := some 10) rfl rfl rfl (r_load1 (v := .int .i64 _) rfl tb_sc3 (At.cell hm0_0 rfl)) ?_
 refine WL_val (dd := some 11) rfl rfl rfl (r_idxA rfl rfl tb_ar89 (by omega) (by omega)) ?_
 refine WL_val (dd := some 12) rfl rfl rfl (r_load1 (v := .int .i64 _) rfl tb_sc3 (At.cell hm0_1 rfl)) ?_
 refine WL_callG (dd := some 13) rfl rfl rfl (r_call3 tb_c72 (v0 := .pointer (some ⟨bd, 0, none⟩)) rfl (v1 := .int .i64 _) rfl (v2 := .int .i64 _) rfl) (ih N ba bm bz bd bx R ns dl f1 g1 _ (Nat.le_trans hN0 (Below.size hB)) hz hbd hD hdn hdone lox hxm v1 v3 (by omega)) (fun v1_5 W11 hP1_5 => ?_)
 obtain ⟨ns1_5, id1_5, er1_5, dl1_5, rfl, hx1_5, hDn1_5, hg1_5, hdn1_5, hdone1_5⟩ := hP1_5
 replace hz := At.dxm hD hdn hx1_5 hz (by decide) (by decide)
 replace hbd := At.dxm hD hdn hx1_5 hbd (by decide) (by decide)
 replace hX := Dx.trans hX hx1_5
 replace hB := Below.dx hB (Nat.le_refl _) hN0 hx1_5
 replace hm0_0 := At.dxm hD hdn hx1_5 hm0_0 (by decide) (by decide)
 replace hm0_1 := At.dxm hD hdn hx1_5 hm0_1 (by decide) (by decide)
 replace hD := hDn1_5
 replace hdn := hdn1_5
 replace hdone := hdone1_5
 refine WL_val (dd := some 14) rfl rfl rfl (r_ext2_0 (h := rfl)) ?_
 refine WL_val (dd := some 15) rfl rfl rfl (r_ext2_1 (h := rfl)) ?_
 refine WL_val (dd := some 6) rfl rfl rfl (r_assign (v := .int .i64 _) rfl) ?_
 refine WL_val (dd := some 7) rfl rfl rfl (r_assign (v := .int .i64 _) rfl) ?_
 refine WL_nil ?_
 refine hK10 _ _ ?_
 clear hK10 K9
 refine WC_ret ?_
 repeat (first | refine thenQ_ret ?_ | refine blockQ_ret ?_)
 refine ret_tt (v := .int .i64 _) rfl (v1 := .int .i64 _) rfl ?_
 rw [hor, hoh]
 exact ⟨_, _, _, _, rfl, hX, hD, hg1_5.low (by omega), hdn, hdone⟩

set_option maxRecDepth 10000 in
theorem C_do (ge gh n : Nat) (o : Op) (N ba bm bz bd bx R : Nat) (ns : List Nd) (dl : List ((Nat × Nat) × Int)) (f g : Nat) (w : World) (hO : OpOk o) (hE : EnOk ge o) (hcE : callB Try.prog ge = true) (hcH : callB Try.prog gh = true) (ih : DoAt ge gh o n) (hH : HiAt ge gh o n) (hN0 : N ≤ w.heap.size) (hz : At w bz #[.pointer (some ⟨ba, 0, none⟩)] 100) (hbd : At w bd #[.pointer (some ⟨bz, 0, none⟩), .func (.func ge) #[] #[], .func (.func gh) #[] #[], .map (some bx)] 94) (hD : Dia 147 150 N ba bm R w ns) (hdn : MapT key2 keyI w bx dl) (hdone : Done o.res ns dl) (lox : N ≤ bx) (hxm : bx ≠ bm) (hf : f < ns.length + 2) (hg : g < ns.length + 2) (hn : 25 - min (lvl ns f) (lvl ns g) ≤ n + 1) :
    FnG Try.prog 72 #[.pointer (some ⟨bd, 0, none⟩), .int .i64 (f : Int), .int .i64 (g : Int)] w fun v w' => PD 147 150 N ba bm R bx o.res w ns (o.cst ns f g) (min (lvl ns f) (lvl ns g)) (o.res (M ns f) (M ns g)) v w' := by
 refine FnG_intro (n := 130) Try.func72 rfl rfl (Nat.le_of_ble_eq_true rfl) ?_
 have hB : Below N w w := Below.refl _ _
 have hX : Dx 150 N [bx, ba, bm] w w := Dx.refl
 have hwf := hD.wf
 have hroom := hD.room
 have htop := hD.top
 refine WC_seq (fun K1 hK2 => ?_)
 refine WC_region ?_
 refine WL_val (dd := some 6) rfl rfl rfl (r_assign (v := .int .i64 0) rfl) ?_
 refine WL_val (dd := some 7) rfl rfl rfl (r_assign (v := .int .i64 0) rfl) ?_
 refine WL_nil ?_
 refine hK2 _ _ ?_
 clear hK2 K1
 refine WC_seq (fun K3 hK4 => ?_)
 refine WC_seq (fun K5 hK6 => ?_)
 refine WC_region ?_
 refine WL_val (dd := some 20) rfl rfl rfl (r_move (v := .pointer (some ⟨bd, 0, none⟩)) rfl) ?_
 refine WL_val (dd := some 21) rfl rfl rfl (r_nilCheck_ptr rfl) ?_
 refine WL_val (dd := some 22) rfl rfl rfl (r_fieldAddr (b := _) (o := _) rfl tb_fo94_1) ?_
 refine WL_val (dd := some 23) rfl rfl rfl (r_load1 (v := .func (.func ge) #[] #[]) rfl tb_sc87 (At.cell hbd rfl)) ?_
 refine WL_val (dd := some 24) rfl rfl rfl (r_move (v := .int .i64 _) rfl) ?_
 refine WL_val (dd := some 25) rfl rfl rfl (r_move (v := .int .i64 _) rfl) ?_
 refine WL_call (dd := some 26) rfl rfl rfl (r_callv2 (q := ge) rfl hcE (v0 := .int .i64 _) rfl (v1 := .int .i64 _) rfl) (hE _ _ _) (fun v1_6 W7 hE8 hP1_6 => ?_)
 have hsz9 := (Nat.le_trans hN0 (Below.size hB))
 replace hz := hE8.at hz
 replace hbd := hE8.at hbd
 replace hD := Dia.ext hE8 hD
 replace hdn := hE8.mapT hdn
 replace hX := Dx.trans hX (Dx.ext hE8)
 replace hB := below_ext hB hE8 hN0
 clear hE8
 obtain rfl := hP1_6
 clear hsz9
 refine WL_val (dd := some 19) rfl rfl rfl (r_move (v := .tuple #[.int .i64 _, .bool _]) rfl) ?_
 refine WL_val (dd := some 27) rfl rfl rfl (r_ext2_0 (h := rfl)) ?_
 refine WL_val (dd := some 28) rfl rfl rfl (r_ext2_1 (h := rfl)) ?_
 refine WL_val (dd := some 8) rfl rfl rfl (r_assign (v := .int .i64 _) rfl) ?_
 refine WL_val (dd := some 9) rfl rfl rfl (r_assign (v := .bool _) rfl) ?_
 refine WL_nil ?_
 refine hK6 _ _ ?_
 clear hK6 K5
 refine WC_seq (fun K10 hK11 => ?_)
 refine WC_region ?_
 refine WL_val (dd := some 29) rfl rfl rfl (r_move (v := .bool _) rfl) ?_
 refine WL_nil ?_
 refine hK11 _ _ ?_
 clear hK11 K10
 refine WC_cond (b := _) rfl (fun hc0 => ?_) (fun hc0 => ?_)
 ·
  try with_reducible replace hc0 := of_decide_eq_true hc0
  refine WC_seq (fun K12 hK13 => ?_)
  refine WC_region ?_
  refine WL_val (dd := some 30) rfl rfl rfl (r_move (v := .int .i64 _) rfl) ?_
  refine WL_val (dd := some 6) rfl rfl rfl (r_assign (v := .int .i64 _) rfl) ?_
  refine WL_val (dd := some 7) rfl rfl rfl (r_assign (v := .int .i64 0) rfl) ?_
  refine WL_nil ?_
  refine hK13 _ _ ?_
  clear hK13 K12
  refine WC_ret ?_
  repeat (first | refine thenQ_ret ?_ | refine blockQ_ret ?_)
  try clear hK4 K3
  refine ret_tt (v := .int .i64 _) rfl (v1 := .int .i64 0) rfl ?_
  obtain ⟨e1, e2, e3⟩ := hO.endT ns f g hwf hf hg hc0
  exact ⟨ns, _, 0, dl, rfl, hX, hD, Got.same e1 e2 e3, hdn, hdone⟩
 ·
  try with_reducible replace hc0 := of_decide_eq_false hc0
  refine WC_skip ?_
  refine hK4 _ _ ?_
  clear hK4 K3
  refine WC_seq (fun K14 hK15 => ?_)
  refine WC_seq (fun K16 hK17 => ?_)
  refine WC_region ?_
  refine WL_val (dd := some 32) rfl rfl rfl (r_move (v := .pointer (some ⟨bd, 0, none⟩)) rfl) ?_
  refine WL_val (dd := some 33) rfl rfl rfl (r_nilCheck_ptr rfl) ?_
  refine WL_val (dd := some 34) rfl rfl rfl (r_fieldAddr (b := _) (o := _) rfl tb_fo94_3) ?_
  refine WL_val (dd := some 35) rfl rfl rfl (r_load1 (v := .map (some bx)) rfl tb_sc92 (At.cell hbd rfl)) ?_
  refine WL_val (dd := some 36) rfl rfl rfl (r_move (v := .int .i64 _) rfl) ?_
  refine WL_val (dd := some 37) rfl rfl rfl (r_move (v := .int .i64 _) rfl) ?_
  refine WL_val (dd := some 38) rfl rfl rfl (tb_build89_0_1 (h0 := rfl) (k0 := rfl) (h1 := rfl) (k1 := rfl) (c0_0 := .int .i64 _) (c1_0 := .int .i64 _)) ?_
  refine WL_val (dd := some 39) rfl rfl rfl (r_lookup2 (enc := key2) (encV := keyI) (v0 := 0) (k := (f, g)) rfl rfl tb_mp92 tb_key89 (fun a => ⟨a, rfl⟩) key2_inj tb_z3 rfl hdn) ?_
  refine WL_val (dd := some 31) rfl rfl rfl (r_move (v := .tuple #[.int .i64 _, .bool _]) rfl) ?_
  refine WL_val (dd := some 40) rfl rfl rfl (r_ext2_0 (h := rfl)) ?_
  refine WL_val (dd := some 41) rfl rfl rfl (r_ext2_1 (h := rfl)) ?_
  refine WL_val (dd := some 10) rfl rfl rfl (r_assign (v := .int .i64 _) rfl) ?_
  refine WL_val (dd := some 11) rfl rfl rfl (r_assign (v := .bool _) rfl) ?_
  refine WL_nil ?_
  refine hK17 _ _ ?_
  clear hK17 K16
  refine WC_seq (fun K18 hK19 => ?_)
  refine WC_region ?_
  refine WL_val (dd := some 42) rfl rfl rfl (r_move (v := .bool _) rfl) ?_
  refine WL_nil ?_
  refine hK19 _ _ ?_
  clear hK19 K18
  refine WC_cond (b := _) rfl (fun hc1 => ?_) (fun hc1 => ?_)
  ·
   try with_reducible replace hc1 := of_decide_eq_true hc1
   refine WC_seq (fun K20 hK21 => ?_)
   refine WC_region ?_
   refine WL_val (dd := some 43) rfl rfl rfl (r_move (v := .int .i64 _) rfl) ?_
   refine WL_val (dd := some 6) rfl rfl rfl (r_assign (v := .int .i64 _) rfl) ?_
   refine WL_val (dd := some 7) rfl rfl rfl (r_assign (v := .int .i64 0) rfl) ?_
   refine WL_nil ?_
   refine hK21 _ _ ?_
   clear hK21 K20
   refine WC_ret ?_
   repeat (first | refine thenQ_ret ?_ | refine blockQ_ret ?_)
   try clear hK15 K14
   refine ret_tt (v := .int .i64 _) rfl (v1 := .int .i64 0) rfl ?_
   obtain ⟨id, he, i1, i2, i3⟩ := done_met hdone hc1
   rw [he]
   exact ⟨ns, id, 0, dl, rfl, hX, hD, Got.same i1 i2 i3, hdn, hdone⟩
  ·
   try with_reducible replace hc1 := of_decide_eq_false hc1
   refine WC_skip ?_
   refine hK15 _ _ ?_
   clear hK15 K14
   refine WC_seq (fun K22 hK23 => ?_)
   have hBo24 := hB
   replace hB := Below.refl W7.heap.size W7
   obtain ⟨f0, g0, fg⟩ := hO.endF f g hc0
   have hlf := lvl_le hwf hf
   have hlg := lvl_le hwf hg
   have h24' : min (lvl ns f) (lvl ns g) < 24 := by
     by_cases q : 2 ≤ f
     · have := lvl_lt hwf hf q; omega
     · have := lvl_lt hwf hg (by omega); omega
   refine WC_draw Ext tb_mix (fun W25 hE26 => ?_)
   replace hB := below_ext hB hE26 (Nat.le_refl _)
   have hS := Ext.refl W25
   refine WT_take (dd := some 44) 0 rfl (by kernel_rfl) (by kernel_rfl) (by kernel_rfl) rfl rfl rfl (fun _wq _hq => r_move (v := .pointer (some ⟨bd, 0, none⟩)) rfl) hS ?_
   refine WT_take (dd := some 45) 1 rfl (by kernel_rfl) (by kernel_rfl) (by kernel_rfl) rfl rfl rfl (fun _wq _hq => r_nilCheck_ptr rfl) hS ?_
   refine WT_take (dd := some 46) 2 rfl (by kernel_rfl) (by kernel_rfl) (by kernel_rfl) rfl rfl rfl (fun _wq _hq => r_fieldAddr (b := _) (o := _) rfl tb_fo94_0) hS ?_
   refine WT_take (dd := some 47) 3 rfl (by kernel_rfl) (by kernel_rfl) (by kernel_rfl) rfl rfl rfl (fun _wq hq => r_load1 (v := .pointer (some ⟨bz, 0, none⟩)) rfl tb_sc24 (At.cell (hq.at (Below.atI hB hbd)) rfl)) hS ?_
   refine WT_take (dd := some 48) 4 rfl (by kernel_rfl) (by kernel_rfl) (by kernel_rfl) rfl rfl rfl (fun _wq _hq => r_move (v := .int .i64 _) rfl) hS ?_
   refine WT_take (dd := some 50) 6 rfl (by kernel_rfl) (by kernel_rfl) (by kernel_rfl) rfl rfl rfl (fun _wq _hq => r_move (v := .pointer (some ⟨bd, 0, none⟩)) rfl) hS ?_
   refine WT_take (dd := some 51) 7 rfl (by kernel_rfl) (by kernel_rfl) (by kernel_rfl) rfl rfl rfl (fun _wq _hq => r_nilCheck_ptr rfl) hS ?_
   refine WT_take (dd := some 52) 8 rfl (by kernel_rfl) (by kernel_rfl) (by kernel_rfl) rfl rfl rfl (fun _wq _hq => r_fieldAddr (b := _) (o := _) rfl tb_fo94_0) hS ?_
   refine WT_take (dd := some 53) 9 rfl (by kernel_rfl) (by kernel_rfl) (by kernel_rfl) rfl rfl rfl (fun _wq hq => r_load1 (v := .pointer (some ⟨bz, 0, none⟩)) rfl tb_sc24 (At.cell (hq.at (Below.atI hB hbd)) rfl)) hS ?_
   refine WT_take (dd := some 54) 10 rfl (by kernel_rfl) (by kernel_rfl) (by kernel_rfl) rfl rfl rfl (fun _wq _hq => r_move (v := .int .i64 _) rfl) hS ?_
   refine WT_one (dd := some 49) 5 (by kernel_rfl) rfl rfl rfl rfl (Yd.call (r_call2 tb_c119 (v0 := .pointer (some ⟨bz, 0, none⟩)) rfl (v1 := .int .i64 _) rfl) (C___zdd_Zdd__level _ _ _ _ _ _ _ _ (Below.atI hB hz) (Dia.below hB hD) (by first | assumption | omega)) (fun v7_5 W27 hE28 hP7_5 => ⟨.inl (hS.trans hE28), ?_⟩))
   have hsz29 := (Below.size hB)
   have sv30_hB := hB
   replace hB := below_ext hB hE28 (Nat.le_refl _)
   replace hS := hS.trans hE28
   clear hE28
   rw [lvlI_nat hf] at hP7_5
   obtain rfl := hP7_5
   clear hsz29
   refine WT_one (dd := some 55) 11 (by kernel_rfl) rfl rfl rfl rfl (Yd.call (r_call2 tb_c119 (v0 := .pointer (some ⟨bz, 0, none⟩)) rfl (v1 := .int .i64 _) rfl) (C___zdd_Zdd__level _ _ _ _ _ _ _ _ (Below.atI hB hz) (Dia.below hB hD) (by first | assumption | omega)) (fun v7_11 W31 hE32 hP7_11 => ⟨.inl (hS.trans hE32), ?_⟩))
   have hsz33 := (Below.size hB)
   replace hB := below_ext hB hE32 (Nat.le_refl _)
   replace hS := hS.trans hE32
   clear hE32
   rw [lvlI_nat hg] at hP7_11
   obtain rfl := hP7_11
   clear hsz33
   refine WT_one (dd := some 56) 12 (by kernel_rfl) rfl rfl rfl rfl (Yd.val (r_minN rfl rfl) ⟨.inl hS, ?_⟩)
   refine WT_take (dd := some 12) 13 rfl (by kernel_rfl) (by kernel_rfl) (by kernel_rfl) rfl rfl rfl (fun _wq _hq => r_assign (v := .int .i64 _) rfl) hS ?_
   refine WT_done (by kernel_rfl) ?_
   try clear sv30_hB
   refine hK23 _ _ ?_
   clear hK23 K22
   refine WC_seq (fun K34 hK35 => ?_)
   generalize hl : min (lvl ns f) (lvl ns g) = l at h24'
   have H1 := half_of hwf hf (l := l) (by omega) h24'
   have H2 := half_of hwf hg (l := l) (by omega) h24'
   have hn1 := List.length_pos_of_mem (mems_ne hwf f hf f0).choose_spec
   have hn2 := List.length_pos_of_mem (mems_ne hwf g hg g0).choose_spec
   have hla := lvl_le hwf H1.va
   have hlb := lvl_le hwf H2.va
   have vla := H1.la
   have vlb := H2.la
   have hco := hO.cost ns f g l hwf hf hg hc0 hl.symm h24'
   refine WC_region ?_
   refine WL_step (dd := some 13) rfl rfl rfl (Y_alloc tb_z89 rfl (fun b8_0 W36 hb37 hE38 hm8_0 => ?_))
   have lo_b8_0 : W7.heap.size ≤ b8_0 := hb37 ▸ (Below.size hB)
   clear hb37
   replace hB := below_ext hB hE38 (Nat.le_refl _)
   clear hE38
   refine WL_step (dd := some 14) rfl rfl rfl (Y_alloc tb_z89 rfl (fun b8_1 W39 hb40 hE41 hm8_1 => ?_))
   have lo_b8_1 : W7.heap.size ≤ b8_1 := hb40 ▸ (Below.size hB)
   have ne_b8_0_b8_1 : b8_0 ≠ b8_1 := Nat.ne_of_lt (hb40 ▸ hm8_0.lt)
   clear hb40
   replace hB := below_ext hB hE41 (Nat.le_refl _)
   replace hm8_0 := hE41.at hm8_0
   clear hE41
   refine WL_nil ?_
   refine hK35 _ _ ?_
   clear hK35 K34
   refine WC_seq (fun K42 hK43 => ?_)
   refine WC_region ?_
   refine WL_val (dd := some 58) rfl rfl rfl (r_move (v := .pointer (some ⟨bd, 0, none⟩)) rfl) ?_
   refine WL_val (dd := some 59) rfl rfl rfl (r_nilCheck_ptr rfl) ?_
   refine WL_val (dd := some 60) rfl rfl rfl (r_fieldAddr (b := _) (o := _) rfl tb_fo94_0) ?_
   refine WL_val (dd := some 61) rfl rfl rfl (r_load1 (v := .pointer (some ⟨bz, 0, none⟩)) rfl tb_sc24 (At.cell (Below.atI hB hbd) rfl)) ?_
   refine WL_val (dd := some 62) rfl rfl rfl (r_move (v := .int .i64 _) rfl) ?_
   refine WL_val (dd := some 63) rfl rfl rfl (r_move (v := .int .i64 _) rfl) ?_
   refine WL_call (dd := some 64) rfl rfl rfl (r_call3 tb_c120 (v0 := .pointer (some ⟨bz, 0, none⟩)) rfl (v1 := .int .i64 _) rfl (v2 := .int .i64 _) rfl) (C___zdd_Zdd__halves _ _ _ _ _ _ _ _ _ (Below.atI hB hz) (Dia.below hB hD) (by first | assumption | omega)) (fun v9_6 W44 hE45 hP9_6 => ?_)
   have hsz46 := (Below.size hB)
   replace hB := below_ext hB hE45 (Nat.le_refl _)
   replace hm8_0 := hE45.at hm8_0
   replace hm8_1 := hE45.at hm8_1
   clear hE45
   obtain rfl := hP9_6
   clear hsz46
   refine WL_val (dd := some 57) rfl rfl rfl (r_move (v := .tuple #[.int .i64 _, .int .i64 _]) rfl) ?_
   refine WL_val (dd := some 65) rfl rfl rfl (r_ext2_0 (h := rfl)) ?_
   refine WL_val (dd := some 66) rfl rfl rfl (r_ext2_1 (h := rfl)) ?_
   refine WL_val (dd := some 67) rfl rfl rfl (r_idxA rfl rfl tb_ar89 (by omega) (by omega)) ?_
   refine WL_step (dd := none) rfl rfl rfl (Y_store1 (v := .int .i64 _) rfl rfl tb_sc3 rfl hm8_0 (by show 0 < 2; decide) (fun W47 hG48 hm49 => ?_))
   replace hB := below_grown hB hG48 (Nat.le_refl _) (fun j hj => by cases hj; exact lo_b8_0)
   replace hm8_1 := At.grownNe hm8_1 (Ne.symm ne_b8_0_b8_1) hG48
   clear hG48 hm8_0
   have hm8_0 := hm49
   clear hm49
   replace hm8_0 : At _ _ #[_, _] _ := hm8_0
   refine WL_val (dd := some 68) rfl rfl rfl (r_idxA rfl rfl tb_ar89 (by omega) (by omega)) ?_
   refine WL_step (dd := none) rfl rfl rfl (Y_store1 (v := .int .i64 _) rfl rfl tb_sc3 rfl hm8_0 (by show 1 < 2; decide) (fun W50 hG51 hm52 => ?_))
   replace hB := below_grown hB hG51 (Nat.le_refl _) (fun j hj => by cases hj; exact lo_b8_0)
   replace hm8_1 := At.grownNe hm8_1 (Ne.symm ne_b8_0_b8_1) hG51
   clear hG51 hm8_0
   have hm8_0 := hm52
   clear hm52
   replace hm8_0 : At _ _ #[_, _] _ := hm8_0
   refine WL_nil ?_
   refine hK43 _ _ ?_
   clear hK43 K42
   refine WC_seq (fun K53 hK54 => ?_)
   refine WC_region ?_
   refine WL_val (dd := some 70) rfl rfl rfl (r_move (v := .pointer (some ⟨bd, 0, none⟩)) rfl) ?_
   refine WL_val (dd := some 71) rfl rfl rfl (r_nilCheck_ptr rfl) ?_
   refine WL_val (dd := some 72) rfl rfl rfl (r_fieldAddr (b := _) (o := _) rfl tb_fo94_0) ?_
   refine WL_val (dd := some 73) rfl rfl rfl (r_load1 (v := .pointer (some ⟨bz, 0, none⟩)) rfl tb_sc24 (At.cell (Below.atI hB hbd) rfl)) ?_
   refine WL_val (dd := some 74) rfl rfl rfl (r_move (v := .int .i64 _) rfl) ?_
   refine WL_val (dd := some 75) rfl rfl rfl (r_move (v := .int .i64 _) rfl) ?_
   refine WL_call (dd := some 76) rfl rfl rfl (r_call3 tb_c120 (v0 := .pointer (some ⟨bz, 0, none⟩)) rfl (v1 := .int .i64 _) rfl (v2 := .int .i64 _) rfl) (C___zdd_Zdd__halves _ _ _ _ _ _ _ _ _ (Below.atI hB hz) (Dia.below hB hD) (by first | assumption | omega)) (fun v10_6 W55 hE56 hP10_6 => ?_)
   have hsz57 := (Below.size hB)
   replace hB := below_ext hB hE56 (Nat.le_refl _)
   replace hm8_0 := hE56.at hm8_0
   replace hm8_1 := hE56.at hm8_1
   clear hE56
   obtain rfl := hP10_6
   clear hsz57
   refine WL_val (dd := some 69) rfl rfl rfl (r_move (v := .tuple #[.int .i64 _, .int .i64 _]) rfl) ?_
   refine WL_val (dd := some 77) rfl rfl rfl (r_ext2_0 (h := rfl)) ?_
   refine WL_val (dd := some 78) rfl rfl rfl (r_ext2_1 (h := rfl)) ?_
   refine WL_val (dd := some 79) rfl rfl rfl (r_idxA rfl rfl tb_ar89 (by omega) (by omega)) ?_
   refine WL_step (dd := none) rfl rfl rfl (Y_store1 (v := .int .i64 _) rfl rfl tb_sc3 rfl hm8_1 (by show 0 < 2; decide) (fun W58 hG59 hm60 => ?_))
   replace hB := below_grown hB hG59 (Nat.le_refl _) (fun j hj => by cases hj; exact lo_b8_1)
   replace hm8_0 := At.grownNe hm8_0 ne_b8_0_b8_1 hG59
   clear hG59 hm8_1
   have hm8_1 := hm60
   clear hm60
   replace hm8_1 : At _ _ #[_, _] _ := hm8_1
   refine WL_val (dd := some 80) rfl rfl rfl (r_idxA rfl rfl tb_ar89 (by omega) (by omega)) ?_
   refine WL_step (dd := none) rfl rfl rfl (Y_store1 (v := .int .i64 _) rfl rfl tb_sc3 rfl hm8_1 (by show 1 < 2; decide) (fun W61 hG62 hm63 => ?_))
   replace hB := below_grown hB hG62 (Nat.le_refl _) (fun j hj => by cases hj; exact lo_b8_1)
   replace hm8_0 := At.grownNe hm8_0 ne_b8_0_b8_1 hG62
   clear hG62 hm8_1
   have hm8_1 := hm63
   clear hm63
   replace hm8_1 : At _ _ #[_, _] _ := hm8_1
   refine WL_nil ?_
   refine hK54 _ _ ?_
   clear hK54 K53
   refine WC_seq (fun K64 hK65 => ?_)
   replace hz := Below.atI hB hz
   replace hbd := Below.atI hB hbd
   replace hD := Dia.below hB hD
   replace hdn := Below.mapI hB hdn
   replace hX := Dx.trans hX (Dx.below hB)
   have hzs := Nat.le_trans hN0 (Below.size hBo24)
   replace lo_b8_0 := Nat.le_trans hzs lo_b8_0
   replace lo_b8_1 := Nat.le_trans hzs lo_b8_1
   replace hB := Below.trans hBo24 (Below.mono hB hzs)
   clear hBo24 hzs
   refine WC_region ?_
   refine WL_val (dd := some 82) rfl rfl rfl (r_move (v := .pointer (some ⟨bd, 0, none⟩)) rfl) ?_
   refine WL_val (dd := some 83) rfl rfl rfl (r_idxA rfl rfl tb_ar89 (by omega) (by omega)) ?_
   refine WL_val (dd := some 84) rfl rfl rfl (r_load1 (v := .int .i64 _) rfl tb_sc3 (At.cell hm8_0 rfl)) ?_
   refine WL_val (dd := some 85) rfl rfl rfl (r_idxA rfl rfl tb_ar89 (by omega) (by omega)) ?_
   refine WL_val (dd := some 86) rfl rfl rfl (r_load1 (v := .int .i64 _) rfl tb_sc3 (At.cell hm8_1 rfl)) ?_
   refine WL_callG (dd := some 87) rfl rfl rfl (r_call3 tb_c72 (v0 := .pointer (some ⟨bd, 0, none⟩)) rfl (v1 := .int .i64 _) rfl (v2 := .int .i64 _) rfl) (ih N ba bm bz bd bx R ns dl (halfA ns f l) (halfA ns g l) _ (Nat.le_trans hN0 (Below.size hB)) hz hbd hD hdn hdone lox hxm H1.va H2.va (by omega)) (fun v11_5 W66 hP11_5 => ?_)
   obtain ⟨ns11_5, id11_5, er11_5, dl11_5, rfl, hx11_5, hDn11_5, hg11_5, hdn11_5, hdone11_5⟩ := hP11_5
   replace hz := At.dxm hD hdn hx11_5 hz (by decide) (by decide)
   replace hbd := At.dxm hD hdn hx11_5 hbd (by decide) (by decide)
   replace hX := Dx.trans hX hx11_5
   replace hB := Below.dx hB (Nat.le_refl _) hN0 hx11_5
   replace hm8_0 := At.dxm hD hdn hx11_5 hm8_0 (by decide) (by decide)
   replace hm8_1 := At.dxm hD hdn hx11_5 hm8_1 (by decide) (by decide)
   replace hD := hDn11_5
   replace hdn := hdn11_5
   replace hdone := hdone11_5
   refine WL_val (dd := some 81) rfl rfl rfl (r_move (v := .tuple #[.int .i64 (id11_5 : Int), .int .i64 er11_5]) rfl) ?_
   refine WL_val (dd := some 88) rfl rfl rfl (r_ext2_0 (h := rfl)) ?_
   refine WL_val (dd := some 89) rfl rfl rfl (r_ext2_1 (h := rfl)) ?_
   refine WL_val (dd := some 15) rfl rfl rfl (r_assign (v := .int .i64 _) rfl) ?_
   refine WL_val (dd := some 16) rfl rfl rfl (r_assign (v := .int .i64 _) rfl) ?_
   refine WL_nil ?_
   refine hK65 _ _ ?_
   clear hK65 K64
   refine WC_seq (fun K68 hK69 => ?_)
   refine WC_seq (fun K70 hK71 => ?_)
   refine WC_region ?_
   refine WL_val (dd := some 90) rfl rfl rfl (r_move (v := .int .i64 _) rfl) ?_
   refine WL_val (dd := some 91) rfl rfl rfl (r_neq rfl rfl) ?_
   refine WL_nil ?_
   refine hK71 _ _ ?_
   clear hK71 K70
   refine WC_cond (b := _) rfl (fun hc2 => ?_) (fun hc2 => ?_)
   ·
    try with_reducible replace hc2 := of_decide_eq_true hc2
    refine WC_seq (fun K72 hK73 => ?_)
    refine WC_region ?_
    refine WL_val (dd := some 92) rfl rfl rfl (r_move (v := .int .i64 _) rfl) ?_
    refine WL_val (dd := some 6) rfl rfl rfl (r_assign (v := .int .i64 0) rfl) ?_
    refine WL_val (dd := some 7) rfl rfl rfl (r_assign (v := .int .i64 _) rfl) ?_
    refine WL_nil ?_
    refine hK73 _ _ ?_
    clear hK73 K72
    refine WC_ret ?_
    repeat (first | refine thenQ_ret ?_ | refine blockQ_ret ?_)
    try clear hK69 K68
    refine ret_tt (v := .int .i64 0) rfl (v1 := .int .i64 _) rfl ?_
    rw [hl]
    exact ⟨_, 0, _, _, rfl, hX, hD, hg11_5.fail hc2 (by omega), hdn, hdone⟩
   ·
    try with_reducible replace hc2 := of_decide_eq_false hc2
    refine WC_skip ?_
    refine hK69 _ _ ?_
    clear hK69 K68
    refine WC_seq (fun K74 hK75 => ?_)
    have he1 : er11_5 = 0 := Decidable.of_not_not hc2
    subst he1
    obtain ⟨a1, a2, a3⟩ := hg11_5.old H1.va
    obtain ⟨b1, b2, b3⟩ := hg11_5.old H1.vb
    obtain ⟨c1, c2, c3⟩ := hg11_5.old H2.va
    obtain ⟨d1, d2, d3⟩ := hg11_5.old H2.vb
    obtain ⟨o1, o2, _⟩ := hg11_5.ok rfl
    have vlc := H1.lb
    have vld := H2.lb
    refine WC_draw (fun a b => Dx 150 N [bx, ba, bm] a b) tb_mix (fun W76 hE77 => ?_)
    replace hz := hE77.at hz
    replace hbd := hE77.at hbd
    replace hD := Dia.ext hE77 hD
    replace hdn := hE77.mapT hdn
    replace hX := Dx.trans hX (Dx.ext hE77)
    replace hB := below_ext hB hE77 hN0
    replace hm8_0 := hE77.at hm8_0
    replace hm8_1 := hE77.at hm8_1
    have hS : Dx 150 N [bx, ba, bm] W76 W76 := Dx.refl
    refine WT_take (dd := some 94) 0 rfl (by kernel_rfl) (by kernel_rfl) (by kernel_rfl) rfl rfl rfl (fun _wq _hq => r_move (v := .pointer (some ⟨bd, 0, none⟩)) rfl) hS ?_
    refine WT_take (dd := some 95) 1 rfl (by kernel_rfl) (by kernel_rfl) (by kernel_rfl) rfl rfl rfl (fun _wq _hq => r_nilCheck_ptr rfl) hS ?_
    refine WT_take (dd := some 96) 2 rfl (by kernel_rfl) (by kernel_rfl) (by kernel_rfl) rfl rfl rfl (fun _wq _hq => r_fieldAddr (b := _) (o := _) rfl tb_fo94_2) hS ?_
    refine WT_take (dd := some 97) 3 rfl (by kernel_rfl) (by kernel_rfl) (by kernel_rfl) rfl rfl rfl (fun _wq hq => r_load1 (v := .func (.func gh) #[] #[]) rfl tb_sc91 (At.cell (At.dxm hD hdn hq hbd (by decide) (by decide)) rfl)) hS ?_
    refine WT_take (dd := some 98) 4 rfl (by kernel_rfl) (by kernel_rfl) (by kernel_rfl) rfl rfl rfl (fun _wq _hq => r_move (v := .pointer (some ⟨bd, 0, none⟩)) rfl) hS ?_
    refine WT_take (dd := some 99) 5 rfl (by kernel_rfl) (by kernel_rfl) (by kernel_rfl) rfl rfl rfl (fun _wq hq => r_loadW rfl tb_ag89 rfl (At.dxm hD hdn hq hm8_0 (by decide) (by decide))) hS ?_
    refine WT_take (dd := some 100) 6 rfl (by kernel_rfl) (by kernel_rfl) (by kernel_rfl) rfl rfl rfl (fun _wq hq => r_loadW rfl tb_ag89 rfl (At.dxm hD hdn hq hm8_1 (by decide) (by decide))) hS ?_
    refine WT_one (dd := some 101) 7 (by kernel_rfl) rfl rfl rfl rfl (Yd.callG (r_call (q := gh) (first := #[]) (cap := #[]) (vs := #[.pointer (some ⟨bd, 0, none⟩), .agg #[_, _], .agg #[_, _]]) rfl hcH (by simp only [List.map_toArray, List.map_cons, List.map_nil, List.append_toArray, List.nil_append, List.cons_append]; rfl)) (hH N ba bm bz bd bx R ns11_5 dl11_5 (halfA ns f l) (halfB ns f l) (halfA ns g l) (halfB ns g l) l _ (Nat.le_trans hN0 (Below.size hB)) hz hbd hD hdn hdone lox hxm a1 b1 c1 d1 (by omega) (by omega) (by omega) (by omega) h24' (by omega)) (fun v14_7 W78 hP14_7 => ⟨.inl (PD.dx hP14_7), ?_⟩))
    replace hS := PD.dx hP14_7
    obtain ⟨ns14_7, id14_7, er14_7, dl14_7, rfl, hx14_7, hDn14_7, hg14_7, hdn14_7, hdone14_7⟩ := hP14_7
    replace hz := At.dxm hD hdn hx14_7 hz (by decide) (by decide)
    replace hbd := At.dxm hD hdn hx14_7 hbd (by decide) (by decide)
    replace hX := Dx.trans hX hx14_7
    replace hB := Below.dx hB (Nat.le_refl _) hN0 hx14_7
    replace hm8_0 := At.dxm hD hdn hx14_7 hm8_0 (by decide) (by decide)
    replace hm8_1 := At.dxm hD hdn hx14_7 hm8_1 (by decide) (by decide)
    replace hD := hDn14_7
    replace hdn := hdn14_7
    replace hdone := hdone14_7
    refine WT_take (dd := some 93) 8 rfl (by kernel_rfl) (by kernel_rfl) (by kernel_rfl) rfl rfl rfl (fun _wq _hq => r_move (v := .tuple #[.int .i64 (id14_7 : Int), .int .i64 er14_7]) rfl) hS ?_
    refine WT_take (dd := some 102) 9 rfl (by kernel_rfl) (by kernel_rfl) (by kernel_rfl) rfl rfl rfl (fun _wq _hq => r_ext2_0 (h := rfl)) hS ?_
    refine WT_take (dd := some 103) 10 rfl (by kernel_rfl) (by kernel_rfl) (by kernel_rfl) rfl rfl rfl (fun _wq _hq => r_ext2_1 (h := rfl)) hS ?_
    refine WT_take (dd := some 17) 11 rfl (by kernel_rfl) (by kernel_rfl) (by kernel_rfl) rfl rfl rfl (fun _wq _hq => r_assign (v := .int .i64 _) rfl) hS ?_
    refine WT_take (dd := some 16) 12 rfl (by kernel_rfl) (by kernel_rfl) (by kernel_rfl) rfl rfl rfl (fun _wq _hq => r_assign (v := .int .i64 _) rfl) hS ?_
    refine WT_done (by kernel_rfl) ?_
    refine hK75 _ _ ?_
    clear hK75 K74
    refine WC_seq (fun K80 hK81 => ?_)
    refine WC_seq (fun K82 hK83 => ?_)
    rw [hO.hpre ns ns11_5 l _ _ _ _ hg11_5.pre hwf H1.va H1.vb H2.va H2.vb] at hg14_7
    refine WC_region ?_
    refine WL_val (dd := some 104) rfl rfl rfl (r_move (v := .int .i64 _) rfl) ?_
    refine WL_val (dd := some 105) rfl rfl rfl (r_neq rfl rfl) ?_
    refine WL_nil ?_
    refine hK83 _ _ ?_
    clear hK83 K82
    refine WC_cond (b := _) rfl (fun hc3 => ?_) (fun hc3 => ?_)
    ·
     try with_reducible replace hc3 := of_decide_eq_true hc3
     refine WC_seq (fun K84 hK85 => ?_)
     refine WC_region ?_
     refine WL_val (dd := some 106) rfl rfl rfl (r_move (v := .int .i64 _) rfl) ?_
     refine WL_val (dd := some 6) rfl rfl rfl (r_assign (v := .int .i64 0) rfl) ?_
     refine WL_val (dd := some 7) rfl rfl rfl (r_assign (v := .int .i64 _) rfl) ?_
     refine WL_nil ?_
     refine hK85 _ _ ?_
     clear hK85 K84
     refine WC_ret ?_
     repeat (first | refine thenQ_ret ?_ | refine blockQ_ret ?_)
     try clear hK81 K80
     refine ret_tt (v := .int .i64 0) rfl (v1 := .int .i64 _) rfl ?_
     rw [hl]
     exact ⟨_, 0, _, _, rfl, hX, hD, hg11_5.fail2 hg14_7 hc3 (by omega), hdn, hdone⟩
    ·
     try with_reducible replace hc3 := of_decide_eq_false hc3
     refine WC_skip ?_
     refine hK81 _ _ ?_
     clear hK81 K80
     refine WC_seq (fun K86 hK87 => ?_)
     have he2 : er14_7 = 0 := Decidable.of_not_not hc3
     subst he2
     obtain ⟨p1, p2, _⟩ := hg14_7.ok rfl
     obtain ⟨q1, _, q3⟩ := hg14_7.old o1
     refine WC_region ?_
     refine WL_val (dd := some 108) rfl rfl rfl (r_move (v := .pointer (some ⟨bd, 0, none⟩)) rfl) ?_
     refine WL_val (dd := some 109) rfl rfl rfl (r_nilCheck_ptr rfl) ?_
     refine WL_val (dd := some 110) rfl rfl rfl (r_fieldAddr (b := _) (o := _) rfl tb_fo94_0) ?_
     refine WL_val (dd := some 111) rfl rfl rfl (r_load1 (v := .pointer (some ⟨bz, 0, none⟩)) rfl tb_sc24 (At.cell hbd rfl)) ?_
     refine WL_val (dd := some 112) rfl rfl rfl (r_move (v := .int .i64 _) rfl) ?_
     refine WL_val (dd := some 113) rfl rfl rfl (r_move (v := .int .i64 _) rfl) ?_
     refine WL_val (dd := some 114) rfl rfl rfl (r_move (v := .int .i64 _) rfl) ?_
     refine WL_callG (dd := some 115) rfl rfl rfl (r_call4 tb_c121 (v0 := .pointer (some ⟨bz, 0, none⟩)) rfl (v1 := .int .i64 _) rfl (v2 := .int .i64 _) rfl (v3 := .int .i64 _) rfl) (C___zdd_Zdd__node N ba bm bz R ns14_7 l id11_5 id14_7 _ (Nat.le_trans hN0 (Below.size hB)) hz hD q1 p1 (by omega) (by omega) h24') (fun v17_7 W88 hP17_7 => ?_)
     obtain ⟨ns17_7, id17_7, er17_7, rfl, hx17_7, hDn17_7, hg17_7⟩ := hP17_7
     replace hz := At.dx hD hx17_7 hz (by decide) (by decide)
     replace hbd := At.dx hD hx17_7 hbd (by decide) (by decide)
     replace hdn := MapT.dx hD hx17_7 hdn hxm
     replace hX := Dx.trans hX (Dx.toX hx17_7)
     replace hB := Below.dx hB (Nat.le_refl _) hN0 hx17_7
     replace hm8_0 := At.dx hD hx17_7 hm8_0 (by decide) (by decide)
     replace hm8_1 := At.dx hD hx17_7 hm8_1 (by decide) (by decide)
     replace hD := hDn17_7
     refine WL_val (dd := some 107) rfl rfl rfl (r_move (v := .tuple #[.int .i64 (id17_7 : Int), .int .i64 er17_7]) rfl) ?_
     refine WL_val (dd := some 116) rfl rfl rfl (r_ext2_0 (h := rfl)) ?_
     refine WL_val (dd := some 117) rfl rfl rfl (r_ext2_1 (h := rfl)) ?_
     refine WL_val (dd := some 18) rfl rfl rfl (r_assign (v := .int .i64 _) rfl) ?_
     refine WL_val (dd := some 16) rfl rfl rfl (r_assign (v := .int .i64 _) rfl) ?_
     refine WL_nil ?_
     refine hK87 _ _ ?_
     clear hK87 K86
     refine WC_seq (fun K90 hK91 => ?_)
     refine WC_seq (fun K92 hK93 => ?_)
     have hgot := do_got hO hwf hf hg hl.symm h24' hg11_5 hg14_7 (hg17_7.cheap (Nat.min_le_right _ _)) hco
     replace hdone := hdone.pre hg17_7.pre
     refine WC_region ?_
     refine WL_val (dd := some 118) rfl rfl rfl (r_move (v := .int .i64 _) rfl) ?_
     refine WL_val (dd := some 119) rfl rfl rfl (r_eql rfl rfl) ?_
     refine WL_nil ?_
     refine hK93 _ _ ?_
     clear hK93 K92
     refine WC_cond (b := _) rfl (fun hc4 => ?_) (fun hc4 => ?_)
     ·
      try with_reducible replace hc4 := of_decide_eq_true hc4
      refine WC_region ?_
      refine WL_val (dd := some 120) rfl rfl rfl (r_move (v := .pointer (some ⟨bd, 0, none⟩)) rfl) ?_
      refine WL_val (dd := some 121) rfl rfl rfl (r_nilCheck_ptr rfl) ?_
      refine WL_val (dd := some 122) rfl rfl rfl (r_fieldAddr (b := _) (o := _) rfl tb_fo94_3) ?_
      refine WL_val (dd := some 123) rfl rfl rfl (r_load1 (v := .map (some bx)) rfl tb_sc92 (At.cell hbd rfl)) ?_
      refine WL_val (dd := some 124) rfl rfl rfl (r_move (v := .int .i64 _) rfl) ?_
      refine WL_val (dd := some 125) rfl rfl rfl (r_move (v := .int .i64 _) rfl) ?_
      refine WL_val (dd := some 126) rfl rfl rfl (tb_build89_0_1 (h0 := rfl) (k0 := rfl) (h1 := rfl) (k1 := rfl) (c0_0 := .int .i64 _) (c1_0 := .int .i64 _)) ?_
      refine WL_val (dd := some 127) rfl rfl rfl (r_move (v := .int .i64 _) rfl) ?_
      refine WL_step (dd := none) rfl rfl rfl (Y_mapUpdate (enc := key2) (encV := keyI) (k := (f, g)) (v := (id17_7 : Int)) rfl rfl rfl tb_mp92 tb_key89 (fun a => ⟨a, rfl⟩) key2_inj hdn (fun W94 hG95 hm96 => ?_))
      replace hz := At.grownMap hz hdn hG95
      replace hbd := At.grownMap hbd hdn hG95
      replace hD := Dia.grownMap hD hdn hxm hG95
      replace hX := Dx.trans hX (Dx.grown hG95 (by simp) lox)
      replace hB := below_grown hB hG95 hN0 (fun j hj => by cases hj; exact lox)
      replace hm8_0 := At.grownMap hm8_0 hdn hG95
      replace hm8_1 := At.grownMap hm8_1 hdn hG95
      clear hG95 hdn
      have hdn := hm96
      clear hm96
      refine WL_nil ?_
      refine hK91 _ _ ?_
      clear hK91 K90
      refine WC_seq (fun K97 hK98 => ?_)
      refine WC_region ?_
      refine WL_val (dd := some 128) rfl rfl rfl (r_move (v := .int .i64 _) rfl) ?_
      refine WL_val (dd := some 129) rfl rfl rfl (r_move (v := .int .i64 _) rfl) ?_
      refine WL_val (dd := some 6) rfl rfl rfl (r_assign (v := .int .i64 _) rfl) ?_
      refine WL_val (dd := some 7) rfl rfl rfl (r_assign (v := .int .i64 _) rfl) ?_
      refine WL_nil ?_
      refine hK98 _ _ ?_
      clear hK98 K97
      refine WC_ret ?_
      repeat (first | refine thenQ_ret ?_ | refine blockQ_ret ?_)
      refine ret_tt (v := .int .i64 _) rfl (v1 := .int .i64 _) rfl ?_
      rw [hl]
      exact ⟨_, _, _, _, rfl, hX, hD, hgot, hdn, done_put hdone hf hg hl hgot hc4⟩
     ·
      try with_reducible replace hc4 := of_decide_eq_false hc4
      refine WC_skip ?_
      refine hK91 _ _ ?_
      clear hK91 K90
      refine WC_seq (fun K99 hK100 => ?_)
      refine WC_region ?_
      refine WL_val (dd := some 128) rfl rfl rfl (r_move (v := .int .i64 _) rfl) ?_
      refine WL_val (dd := some 129) rfl rfl rfl (r_move (v := .int .i64 _) rfl) ?_
      refine WL_val (dd := some 6) rfl rfl rfl (r_assign (v := .int .i64 _) rfl) ?_
      refine WL_val (dd := some 7) rfl rfl rfl (r_assign (v := .int .i64 _) rfl) ?_
      refine WL_nil ?_
      refine hK100 _ _ ?_
      clear hK100 K99
      refine WC_ret ?_
      repeat (first | refine thenQ_ret ?_ | refine blockQ_ret ?_)
      refine ret_tt (v := .int .i64 _) rfl (v1 := .int .i64 _) rfl ?_
      rw [hl]
      exact ⟨_, _, _, _, rfl, hX, hD, hgot, hdn, hdone⟩

theorem DO_all (ge gh : Nat) (o : Op) (hO : OpOk o) (hE : EnOk ge o) (hcE : callB Try.prog ge = true) (hcH : callB Try.prog gh = true) (hH : ∀ n, DoAt ge gh o n → HiAt ge gh o n) : ∀ n, DoAt ge gh o n
  | 0 => fun N ba bm bz bd bx R ns dl f g w _ _ _ hD _ _ _ _ hf _ hn => by
    have := lvl_le hD.wf hf
    omega
  | n + 1 => fun N ba bm bz bd bx R ns dl f g w => C_do ge gh n o N ba bm bz bd bx R ns dl f g w hO hE hcE hcH (DO_all ge gh o hO hE hcE hcH hH n) (hH n (DO_all ge gh o hO hE hcE hcH hH n))

theorem C___zdd_Zdd__both (ge gh : Nat) (o : Op) (N ba bm bz R : Nat) (ns : List Nd) (f g : Nat) (w : World) (hN0 : N ≤ w.heap.size) (hz : At w bz #[.pointer (some ⟨ba, 0, none⟩)] 100) (hD : Dia 147 150 N ba bm R w ns) (hf : f < ns.length + 2) (hg : g < ns.length + 2) (hDo : ∀ n, DoAt ge gh o n) :
    FnG Try.prog 69 #[.pointer (some ⟨bz, 0, none⟩), .int .i64 (f : Int), .int .i64 (g : Int), .func (.func ge) #[] #[], .func (.func gh) #[] #[]] w fun v w' => PO 147 150 N ba bm R w ns (o.cst ns f g) (min (lvl ns f) (lvl ns g)) (o.res (M ns f) (M ns g)) v w' := by
 refine FnG_intro (n := 27) Try.func69 rfl rfl (Nat.le_of_ble_eq_true rfl) ?_
 have hB : Below N w w := Below.refl _ _
 have hX : Dx 150 N [ba, bm] w w := Dx.refl
 have hroom := hD.room
 have htop := hD.top
 refine WC_seq (fun K1 hK2 => ?_)
 refine WC_region ?_
 refine WL_val (dd := some 10) rfl rfl rfl (r_assign (v := .int .i64 0) rfl) ?_
 refine WL_val (dd := some 11) rfl rfl rfl (r_assign (v := .int .i64 0) rfl) ?_
 refine WL_nil ?_
 refine hK2 _ _ ?_
 clear hK2 K1
 refine WC_seq (fun K3 hK4 => ?_)
 refine WC_seq (fun K5 hK6 => ?_)
 refine WC_region ?_
 refine WL_val (dd := some 12) rfl rfl rfl (r_move (v := .pointer (some ⟨bz, 0, none⟩)) rfl) ?_
 refine WL_val (dd := some 13) rfl rfl rfl (r_move (v := .int .i64 _) rfl) ?_
 refine WL_val (dd := some 14) rfl rfl rfl (r_move (v := .int .i64 _) rfl) ?_
 refine WL_step (dd := some 15) rfl rfl rfl (Y_lit2 (u0 := .int .i64 _) (u1 := .int .i64 _) rfl rfl tb_el22 tb_zs3 rfl rfl (by decide) (by decide) (fun b1_3 W7 hb8 hE9 hm1_3 => ?_))
 have lo_b1_3 : N ≤ b1_3 := hb8 ▸ (Nat.le_trans hN0 (Below.size hB))
 clear hb8
 replace hz := hE9.at hz
 replace hD := Dia.ext hE9 hD
 replace hX := Dx.trans hX (Dx.ext hE9)
 replace hB := below_ext hB hE9 hN0
 clear hE9
 have ho1_3 := own_lit2 (enc := encI) (sz := 1) (a0 := _) (a1 := _) hm1_3 rfl rfl rfl rfl lo_b1_3
 clear hm1_3
 refine WL_call (dd := some 16) rfl rfl rfl (r_call2 tb_c73 (v0 := .pointer (some ⟨bz, 0, none⟩)) rfl (v1 := .slice (some ⟨b1_3, 0, none⟩) 2 2) rfl) (C___zdd_Zdd__there N ba bm bz R ns _ [(f : Int), (g : Int)] _ hz hD ho1_3.sl (by simp) (by simp; omega)) (fun v1_4 W10 hE11 hP1_4 => ?_)
 have hsz12 := (Nat.le_trans hN0 (Below.size hB))
 replace hz := hE11.at hz
 replace hD := Dia.ext hE11 hD
 replace hX := Dx.trans hX (Dx.ext hE11)
 replace hB := below_ext hB hE11 hN0
 replace ho1_3 := hE11.ow ho1_3
 clear hE11
 clear hsz12
 obtain rfl := hP1_4
 refine WL_val (dd := some 17) rfl rfl rfl (r_not rfl) ?_
 refine WL_nil ?_
 refine hK6 _ _ ?_
 clear hK6 K5
 refine WC_cond (b := _) rfl (fun hc0 => ?_) (fun hc0 => ?_)
 ·
  try with_reducible replace hc0 := of_decide_eq_true hc0
  exact absurd (not_t' hc0) (by simp [thereZ]; omega)
 ·
  try with_reducible replace hc0 := of_decide_eq_false hc0
  refine WC_skip ?_
  refine hK4 _ _ ?_
  clear hK4 K3
  refine WC_seq (fun K13 hK14 => ?_)
  have hbmlt := hD.hm.lt
  have hszb := Below.size hB
  have hNszb := Nat.le_trans hN0 hszb
  refine WC_region ?_
  refine WL_val (dd := some 18) rfl rfl rfl (r_move (v := .pointer (some ⟨bz, 0, none⟩)) rfl) ?_
  refine WL_val (dd := some 19) rfl rfl rfl (r_move (v := .func _ _ _) rfl) ?_
  refine WL_val (dd := some 20) rfl rfl rfl (r_move (v := .func _ _ _) rfl) ?_
  refine WL_call (dd := some 21) rfl rfl rfl (r_call3 tb_c118 (v0 := .pointer (some ⟨bz, 0, none⟩)) rfl (v1 := .func _ _ _) rfl (v2 := .func _ _ _) rfl) (C___zdd_Zdd__deed bz ge gh _) (fun v3_3 W15 hE16 hP3_3 => ?_)
  have hsz17 := (Nat.le_trans hN0 (Below.size hB))
  replace hz := hE16.at hz
  replace hD := Dia.ext hE16 hD
  replace hX := Dx.trans hX (Dx.ext hE16)
  replace hB := below_ext hB hE16 hN0
  replace ho1_3 := hE16.ow ho1_3
  clear hE16
  obtain ⟨bd3_3, bx3_3, rfl, hbd, hdn, lbd3_3, lbx3_3⟩ := hP3_3
  clear hsz17
  have lox : N ≤ bx3_3 := Nat.le_trans hNszb lbx3_3
  have hxm : bx3_3 ≠ bm := fun e => Nat.lt_irrefl _ (Nat.lt_of_lt_of_le hbmlt (e ▸ lbx3_3))
  have hXd := hX
  refine WL_val (dd := some 22) rfl rfl rfl (r_move (v := .int .i64 _) rfl) ?_
  refine WL_val (dd := some 23) rfl rfl rfl (r_move (v := .int .i64 _) rfl) ?_
  refine WL_callG (dd := some 24) rfl rfl rfl (r_call (q := 72) (first := #[.pointer (some ⟨bd3_3, 0, none⟩)]) (cap := #[]) (vs := #[.pointer (some ⟨bd3_3, 0, none⟩), .int .i64 _, .int .i64 _]) rfl tb_c72 (by simp only [List.map_toArray, List.map_cons, List.map_nil, List.append_toArray, List.nil_append, List.cons_append]; rfl)) (hDo 25 N ba bm bz bd3_3 bx3_3 R ns [] f g _ (Nat.le_trans hN0 (Below.size hB)) hz hbd hD hdn Done.nil lox hxm hf hg (by omega)) (fun v3_6 W18 hP3_6 => ?_)
  obtain ⟨ns3_6, id3_6, er3_6, dl3_6, rfl, hx3_6, hDn3_6, hg3_6, _, _⟩ := hP3_6
  try clear hz
  replace hX := Dx.new hX (Nat.le_trans hszb lbx3_3) hx3_6
  replace hB := Below.dx hB (Nat.le_refl _) hN0 hx3_6
  try clear ho1_3
  try clear hbd
  try clear hdn
  replace hD := hDn3_6
  refine WL_val (dd := some 25) rfl rfl rfl (r_ext2_0 (h := rfl)) ?_
  refine WL_val (dd := some 26) rfl rfl rfl (r_ext2_1 (h := rfl)) ?_
  refine WL_val (dd := some 10) rfl rfl rfl (r_assign (v := .int .i64 _) rfl) ?_
  refine WL_val (dd := some 11) rfl rfl rfl (r_assign (v := .int .i64 _) rfl) ?_
  refine WL_nil ?_
  refine hK14 _ _ ?_
  clear hK14 K13
  refine WC_ret ?_
  repeat (first | refine thenQ_ret ?_ | refine blockQ_ret ?_)
  refine ret_tt (v := .int .i64 _) rfl (v1 := .int .i64 _) rfl ?_
  exact ⟨_, _, _, rfl, hX, hD, hg3_6⟩

theorem DoU : ∀ n, DoAt 77 78 opU n := DO_all _ _ opU opU_ok (fun f g w => C___zdd_Zdd__Union_1 f g w) tb_c77 tb_c78 fun n ih N ba bm bz bd bx R ns dl f0 f1 g0 g1 l w => C_plain _ n opU N ba bm bz bd bx R ns dl f0 f1 g0 g1 l w (fun _ _ _ _ _ _ => rfl) (fun _ _ _ _ => rfl) ih

theorem C___zdd_Zdd__Union (N ba bm bz R : Nat) (ns : List Nd) (f g : Nat) (w : World) (hN0 : N ≤ w.heap.size) (hz : At w bz #[.pointer (some ⟨ba, 0, none⟩)] 100) (hD : Dia 147 150 N ba bm R w ns) (hf : f < ns.length + 2) (hg : g < ns.length + 2) :
    FnG Try.prog 33 #[.pointer (some ⟨bz, 0, none⟩), .int .i64 (f : Int), .int .i64 (g : Int)] w fun v w' => PO 147 150 N ba bm R w ns (opU.cst ns f g) (min (lvl ns f) (lvl ns g)) (opU.res (M ns f) (M ns g)) v w' := by
 refine FnG_intro (n := 14) Try.func33 rfl rfl (Nat.le_of_ble_eq_true rfl) ?_
 have hB : Below N w w := Below.refl _ _
 have hX : Dx 150 N [ba, bm] w w := Dx.refl
 refine WC_seq (fun K1 hK2 => ?_)
 refine WC_region ?_
 refine WL_val (dd := some 6) rfl rfl rfl (r_assign (v := .int .i64 0) rfl) ?_
 refine WL_val (dd := some 7) rfl rfl rfl (r_assign (v := .int .i64 0) rfl) ?_
 refine WL_nil ?_
 refine hK2 _ _ ?_
 clear hK2 K1
 refine WC_seq (fun K3 hK4 => ?_)
 refine WC_region ?_
 refine WL_val (dd := some 8) rfl rfl rfl (r_move (v := .pointer (some ⟨bz, 0, none⟩)) rfl) ?_
 refine WL_val (dd := some 9) rfl rfl rfl (r_move (v := .int .i64 _) rfl) ?_
 refine WL_val (dd := some 10) rfl rfl rfl (r_move (v := .int .i64 _) rfl) ?_
 refine WL_callG (dd := some 11) rfl rfl rfl (r_call5 tb_c69 (v0 := .pointer (some ⟨bz, 0, none⟩)) rfl (v1 := .int .i64 _) rfl (v2 := .int .i64 _) rfl (v3 := .func (.func 77) #[] #[]) rfl (v4 := .func (.func 78) #[] #[]) rfl) (C___zdd_Zdd__both _ _ opU N ba bm bz R ns f g _ hN0 hz hD hf hg DoU) (fun v1_3 W5 hP1_3 => ?_)
 obtain ⟨ns1_3, id1_3, er1_3, rfl, hx1_3, hDn1_3, hg1_3⟩ := hP1_3
 replace hz := At.dx hD hx1_3 hz (by decide) (by decide)
 replace hX := Dx.trans hX (hx1_3)
 replace hB := Below.dx hB (Nat.le_refl _) hN0 hx1_3
 replace hD := hDn1_3
 refine WL_val (dd := some 12) rfl rfl rfl (r_ext2_0 (h := rfl)) ?_
 refine WL_val (dd := some 13) rfl rfl rfl (r_ext2_1 (h := rfl)) ?_
 refine WL_val (dd := some 6) rfl rfl rfl (r_assign (v := .int .i64 _) rfl) ?_
 refine WL_val (dd := some 7) rfl rfl rfl (r_assign (v := .int .i64 _) rfl) ?_
 refine WL_nil ?_
 refine hK4 _ _ ?_
 clear hK4 K3
 refine WC_ret ?_
 repeat (first | refine thenQ_ret ?_ | refine blockQ_ret ?_)
 refine ret_tt (v := .int .i64 _) rfl (v1 := .int .i64 _) rfl ?_
 exact ⟨_, _, _, rfl, hX, hD, hg1_3⟩

theorem DoL : ∀ n, DoAt 80 78 opL n := DO_all _ _ opL opL_ok (fun f g w => C___zdd_Zdd__Less_1 f g w) tb_c80 tb_c78 fun n ih N ba bm bz bd bx R ns dl f0 f1 g0 g1 l w => C_plain _ n opL N ba bm bz bd bx R ns dl f0 f1 g0 g1 l w (fun _ _ _ _ _ _ => rfl) (fun _ _ _ _ => rfl) ih

theorem C___zdd_Zdd__Less (N ba bm bz R : Nat) (ns : List Nd) (f g : Nat) (w : World) (hN0 : N ≤ w.heap.size) (hz : At w bz #[.pointer (some ⟨ba, 0, none⟩)] 100) (hD : Dia 147 150 N ba bm R w ns) (hf : f < ns.length + 2) (hg : g < ns.length + 2) :
    FnG Try.prog 35 #[.pointer (some ⟨bz, 0, none⟩), .int .i64 (f : Int), .int .i64 (g : Int)] w fun v w' => PO 147 150 N ba bm R w ns (opL.cst ns f g) (min (lvl ns f) (lvl ns g)) (opL.res (M ns f) (M ns g)) v w' := by
 refine FnG_intro (n := 14) Try.func35 rfl rfl (Nat.le_of_ble_eq_true rfl) ?_
 have hB : Below N w w := Below.refl _ _
 have hX : Dx 150 N [ba, bm] w w := Dx.refl
 refine WC_seq (fun K1 hK2 => ?_)
 refine WC_region ?_
 refine WL_val (dd := some 6) rfl rfl rfl (r_assign (v := .int .i64 0) rfl) ?_
 refine WL_val (dd := some 7) rfl rfl rfl (r_assign (v := .int .i64 0) rfl) ?_
 refine WL_nil ?_
 refine hK2 _ _ ?_
 clear hK2 K1
 refine WC_seq (fun K3 hK4 => ?_)
 refine WC_region ?_
 refine WL_val (dd := some 8) rfl rfl rfl (r_move (v := .pointer (some ⟨bz, 0, none⟩)) rfl) ?_
 refine WL_val (dd := some 9) rfl rfl rfl (r_move (v := .int .i64 _) rfl) ?_
 refine WL_val (dd := some 10) rfl rfl rfl (r_move (v := .int .i64 _) rfl) ?_
 refine WL_callG (dd := some 11) rfl rfl rfl (r_call5 tb_c69 (v0 := .pointer (some ⟨bz, 0, none⟩)) rfl (v1 := .int .i64 _) rfl (v2 := .int .i64 _) rfl (v3 := .func (.func 80) #[] #[]) rfl (v4 := .func (.func 78) #[] #[]) rfl) (C___zdd_Zdd__both _ _ opL N ba bm bz R ns f g _ hN0 hz hD hf hg DoL) (fun v1_3 W5 hP1_3 => ?_)
 obtain ⟨ns1_3, id1_3, er1_3, rfl, hx1_3, hDn1_3, hg1_3⟩ := hP1_3
 replace hz := At.dx hD hx1_3 hz (by decide) (by decide)
 replace hX := Dx.trans hX (hx1_3)
 replace hB := Below.dx hB (Nat.le_refl _) hN0 hx1_3
 replace hD := hDn1_3
 refine WL_val (dd := some 12) rfl rfl rfl (r_ext2_0 (h := rfl)) ?_
 refine WL_val (dd := some 13) rfl rfl rfl (r_ext2_1 (h := rfl)) ?_
 refine WL_val (dd := some 6) rfl rfl rfl (r_assign (v := .int .i64 _) rfl) ?_
 refine WL_val (dd := some 7) rfl rfl rfl (r_assign (v := .int .i64 _) rfl) ?_
 refine WL_nil ?_
 refine hK4 _ _ ?_
 clear hK4 K3
 refine WC_ret ?_
 repeat (first | refine thenQ_ret ?_ | refine blockQ_ret ?_)
 refine ret_tt (v := .int .i64 _) rfl (v1 := .int .i64 _) rfl ?_
 exact ⟨_, _, _, rfl, hX, hD, hg1_3⟩

end Go.Proofs.Ytpamgfbecgjjeaa
