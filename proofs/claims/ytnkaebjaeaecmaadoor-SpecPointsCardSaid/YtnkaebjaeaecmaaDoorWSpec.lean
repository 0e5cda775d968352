/-
  The walks of package spec.
-/
import Derived.Test.YtnkaebjaeaecmaaDoorProg
import Derived.Test.YtnkaebjaeaecmaaDoorWPla5
import Derived.Test.YtnkaebjaeaecmaaDoorWCov
import Derived.Test.YtnkaebjaeaecmaaDoorSpec
import Derived.Test.YtnkaebjaeaecmaaDoorPar
namespace Go.Proofs.YtnkaebjaeaecmaaDoor
set_option linter.unusedVariables false
set_option linter.unusedSimpArgs false
open Go Go.RowKit

theorem tb_z72 : zeroI Tryd.prog 72 = some (.agg #[.nilFunc, .bool false, .nilFunc, .bool false, .nilFunc, .bool false, .nilFunc, .bool false]) := by kernel_rfl
theorem tb_z71 : zeroI Tryd.prog 71 = some (.agg #[.nilFunc, .bool false]) := by kernel_rfl
theorem tb_size4 : (Tryd.prog.info? 4).map (·.size) = some 1 := by kernel_rfl
theorem tb_size69 : (Tryd.prog.info? 69).map (·.size) = some 1 := by kernel_rfl
theorem tb_build71_0_1 {f : Nat → Value} {w : World} {d : Option Nat} {ty : TypeId} {ps : String} {af : Array Edge} {g : Option (Nat × Bool)} {x0 x1 : Operand} {c0_0 c1_0 : Value} (h0 : evF f x0 = c0_0) (k0 : c0_0.cells = #[c0_0]) (h1 : evF f x1 = c1_0) (k1 : c1_0.cells = #[c1_0]) :
    (execOp (evF f) ⟨d, .build 71 #[(0, x0), (1, x1)], ty, ps, af, g⟩).run Tryd.prog w = .ok (.value (.agg #[c0_0, c1_0])) w := by
  obtain ⟨i0, hi0, hz0⟩ := Option.bind_eq_some_iff.1 (show (Tryd.prog.info? 71).bind (·.zero) = _ from tb_z71)
  obtain ⟨j4, hj4, hs4⟩ := Option.map_eq_some_iff.1 tb_size4
  obtain ⟨j69, hj69, hs69⟩ := Option.map_eq_some_iff.1 tb_size69
  simp [execOp, h0, k0, h1, k1, Instr.build, zeroValue, typeInfo, sizeOf, hi0, hz0, run_underlying Tryd.underlying71, Instr.fill, cells_agg, hj4, hs4, hj69, hs69]
theorem tb_size71 : (Tryd.prog.info? 71).map (·.size) = some 2 := by kernel_rfl
theorem tb_build72_0_1_2_3 {f : Nat → Value} {w : World} {d : Option Nat} {ty : TypeId} {ps : String} {af : Array Edge} {g : Option (Nat × Bool)} {x0 x1 x2 x3 : Operand} {c0_0 c0_1 c1_0 c1_1 c2_0 c2_1 c3_0 c3_1 : Value} (h0 : evF f x0 = .agg #[c0_0, c0_1]) (h1 : evF f x1 = .agg #[c1_0, c1_1]) (h2 : evF f x2 = .agg #[c2_0, c2_1]) (h3 : evF f x3 = .agg #[c3_0, c3_1]) :
    (execOp (evF f) ⟨d, .build 72 #[(0, x0), (1, x1), (2, x2), (3, x3)], ty, ps, af, g⟩).run Tryd.prog w = .ok (.value (.agg #[c0_0, c0_1, c1_0, c1_1, c2_0, c2_1, c3_0, c3_1])) w := by
  obtain ⟨i0, hi0, hz0⟩ := Option.bind_eq_some_iff.1 (show (Tryd.prog.info? 72).bind (·.zero) = _ from tb_z72)
  obtain ⟨j71, hj71, hs71⟩ := Option.map_eq_some_iff.1 tb_size71
  simp [execOp, h0, h1, h2, h3, Instr.build, zeroValue, typeInfo, sizeOf, hi0, hz0, run_underlying Tryd.underlying72, Instr.fill, cells_agg, hj71, hs71]
theorem tb_ag72 : aggN Tryd.prog 72 = some 8 := by kernel_rfl
theorem tb_z37 : zeroI Tryd.prog 37 = some (.agg #[.int .i64 0, .slice none 0 0, .slice none 0 0]) := by kernel_rfl
theorem tb_size35 : (Tryd.prog.info? 35).map (·.size) = some 1 := by kernel_rfl
theorem tb_build37_ {f : Nat → Value} {w : World} {d : Option Nat} {ty : TypeId} {ps : String} {af : Array Edge} {g : Option (Nat × Bool)}    :
    (execOp (evF f) ⟨d, .build 37 #[], ty, ps, af, g⟩).run Tryd.prog w = .ok (.value (.agg #[.int .i64 0, .slice none 0 0, .slice none 0 0])) w := by
  obtain ⟨i0, hi0, hz0⟩ := Option.bind_eq_some_iff.1 (show (Tryd.prog.info? 37).bind (·.zero) = _ from tb_z37)
  obtain ⟨j3, hj3, hs3⟩ := Option.map_eq_some_iff.1 tb_size3
  obtain ⟨j35, hj35, hs35⟩ := Option.map_eq_some_iff.1 tb_size35
  simp [execOp, Instr.build, zeroValue, typeInfo, sizeOf, hi0, hz0, run_underlying Tryd.underlying37, Instr.fill, cells_agg, hj3, hs3, hj35, hs35]
theorem tb_c34 : callB Tryd.prog 34 = true := by kernel_rfl
theorem tb_ag71 : aggN Tryd.prog 71 = some 2 := by kernel_rfl
theorem tb_build37_0 {f : Nat → Value} {w : World} {d : Option Nat} {ty : TypeId} {ps : String} {af : Array Edge} {g : Option (Nat × Bool)} {x0 : Operand} {c0_0 : Value} (h0 : evF f x0 = c0_0) (k0 : c0_0.cells = #[c0_0]) :
    (execOp (evF f) ⟨d, .build 37 #[(0, x0)], ty, ps, af, g⟩).run Tryd.prog w = .ok (.value (.agg #[c0_0, .slice none 0 0, .slice none 0 0])) w := by
  obtain ⟨i0, hi0, hz0⟩ := Option.bind_eq_some_iff.1 (show (Tryd.prog.info? 37).bind (·.zero) = _ from tb_z37)
  obtain ⟨j3, hj3, hs3⟩ := Option.map_eq_some_iff.1 tb_size3
  obtain ⟨j35, hj35, hs35⟩ := Option.map_eq_some_iff.1 tb_size35
  simp [execOp, h0, k0, Instr.build, zeroValue, typeInfo, sizeOf, hi0, hz0, run_underlying Tryd.underlying37, Instr.fill, cells_agg, hj3, hs3, hj35, hs35]
theorem tb_c35 : callB Tryd.prog 35 = true := by kernel_rfl
theorem tb_fo71_1 : fieldO Tryd.prog 71 1 = some 1 := by kernel_rfl
theorem tb_sc4 : scalarB Tryd.prog 4 = true := by kernel_rfl
theorem tb_c36 : callB Tryd.prog 36 = true := by kernel_rfl
theorem tb_neq51 {f : Nat → Value} {w : World} {d : Option Nat} {ty t2 : TypeId} {ps : String} {af : Array Edge} {g : Option (Nat × Bool)} {x y : Operand} {a0 a1 a2 a3 b0 b1 b2 b3 : Int} (hx : evF f x = .agg #[.int .u64 a0, .int .u64 a1, .int .u64 a2, .int .u64 a3]) (hy : evF f y = .agg #[.int .u64 b0, .int .u64 b1, .int .u64 b2, .int .u64 b3]) :
    (execOp (evF f) ⟨d, .binOp .neq 51 x y t2, ty, ps, af, g⟩).run Tryd.prog w = .ok (.value (.bool (decide (¬ (a0 = b0 ∧ a1 = b1 ∧ a2 = b2 ∧ a3 = b3))))) w := by
  have hg : Tryd.prog.eqGuardType Tryd.prog.depth 51 = false := by kernel_rfl
  have ha := run_equalIn_arr (P := Tryd.prog) w 9999 4 51 49 #[.int .u64 a0, .int .u64 a1, .int .u64 a2, .int .u64 a3] #[.int .u64 b0, .int .u64 b1, .int .u64 b2, .int .u64 b3]
    (fun i => .int .u64 ([a0, a1, a2, a3].getD i 0)) (fun i => .int .u64 ([b0, b1, b2, b3].getD i 0)) (fun i => [a0, a1, a2, a3].getD i 0 == [b0, b1, b2, b3].getD i 0) Tryd.underlying51 (by kernel_rfl) (by simp [isAgg, run_underlying Tryd.underlying49])
    (fun i hi => by
      have : i = 0 ∨ i = 1 ∨ i = 2 ∨ i = 3 := by omega
      rcases this with rfl | rfl | rfl | rfl <;> rfl)
    (fun i hi => by
      have : i = 0 ∨ i = 1 ∨ i = 2 ∨ i = 3 := by omega
      rcases this with rfl | rfl | rfl | rfl <;> rfl)
    (fun i hi => run_equalIn_int w 9998 49 .u64 .u64 _ _ Tryd.underlying49)
  simp only [execOp, hx, hy, Sem.run_bind, run_eqGuard_agg _ _ _ _ _ _ _ hg, Result.andThen_ok, run_neq_struct, ha]
  simp [List.range, List.range.loop]
  by_cases q0 : a0 = b0 <;> by_cases q1 : a1 = b1 <;> by_cases q2 : a2 = b2 <;> by_cases q3 : a3 = b3 <;> simp [q0, q1, q2, q3]
theorem tb_fo71_0 : fieldO Tryd.prog 71 0 = some 0 := by kernel_rfl
theorem tb_sc69 : scalarB Tryd.prog 69 = true := by kernel_rfl
theorem tb_zs51 : (zeroI Tryd.prog 51).map (fun z => z.cells.size) = some 4 := by kernel_rfl

theorem C_spec_meanings_1 (a b c e : Nat) (w : World) :
    Fn Tryd.prog 55 #[setV a, setV b, setV c, setV e] w fun v w' => v = setV (andNot a c) := by
  refine Fn_intro (n := 12) Tryd.func55 rfl rfl (Nat.le_of_ble_eq_true rfl) ?_
  have hB : Below w.heap.size w w := Below.refl _ _
  refine WC_seq (fun K1 hK2 => ?_)
  refine WC_region ?_
  refine WL_step (dd := some 4) rfl rfl rfl (Y_box (c := #[_, _, _, _]) rfl rfl (fun b0_0 W3 hb4 hE5 hm0_0 => ?_))
  have lo_b0_0 : w.heap.size ≤ b0_0 := hb4 ▸ (Below.size hB)
  clear hb4
  replace hB := below_ext hB hE5 (Nat.le_refl _)
  clear hE5
  refine WL_step (dd := some 5) rfl rfl rfl (Y_box (c := #[_, _, _, _]) rfl rfl (fun b0_1 W6 hb7 hE8 hm0_1 => ?_))
  have lo_b0_1 : w.heap.size ≤ b0_1 := hb7 ▸ (Below.size hB)
  have ne_b0_0_b0_1 : b0_0 ≠ b0_1 := Nat.ne_of_lt (hb7 ▸ hm0_0.lt)
  clear hb7
  replace hB := below_ext hB hE8 (Nat.le_refl _)
  replace hm0_0 := hE8.at hm0_0
  clear hE8
  refine WL_step (dd := some 6) rfl rfl rfl (Y_box (c := #[_, _, _, _]) rfl rfl (fun b0_2 W9 hb10 hE11 hm0_2 => ?_))
  have lo_b0_2 : w.heap.size ≤ b0_2 := hb10 ▸ (Below.size hB)
  have ne_b0_0_b0_2 : b0_0 ≠ b0_2 := Nat.ne_of_lt (hb10 ▸ hm0_0.lt)
  have ne_b0_1_b0_2 : b0_1 ≠ b0_2 := Nat.ne_of_lt (hb10 ▸ hm0_1.lt)
  clear hb10
  replace hB := below_ext hB hE11 (Nat.le_refl _)
  replace hm0_0 := hE11.at hm0_0
  replace hm0_1 := hE11.at hm0_1
  clear hE11
  refine WL_step (dd := some 7) rfl rfl rfl (Y_box (c := #[_, _, _, _]) rfl rfl (fun b0_3 W12 hb13 hE14 hm0_3 => ?_))
  have lo_b0_3 : w.heap.size ≤ b0_3 := hb13 ▸ (Below.size hB)
  have ne_b0_0_b0_3 : b0_0 ≠ b0_3 := Nat.ne_of_lt (hb13 ▸ hm0_0.lt)
  have ne_b0_1_b0_3 : b0_1 ≠ b0_3 := Nat.ne_of_lt (hb13 ▸ hm0_1.lt)
  have ne_b0_2_b0_3 : b0_2 ≠ b0_3 := Nat.ne_of_lt (hb13 ▸ hm0_2.lt)
  clear hb13
  replace hB := below_ext hB hE14 (Nat.le_refl _)
  replace hm0_0 := hE14.at hm0_0
  replace hm0_1 := hE14.at hm0_1
  replace hm0_2 := hE14.at hm0_2
  clear hE14
  refine WL_step (dd := some 8) rfl rfl rfl (Y_alloc tb_z51 rfl (fun b0_4 W15 hb16 hE17 hm0_4 => ?_))
  have lo_b0_4 : w.heap.size ≤ b0_4 := hb16 ▸ (Below.size hB)
  have ne_b0_0_b0_4 : b0_0 ≠ b0_4 := Nat.ne_of_lt (hb16 ▸ hm0_0.lt)
  have ne_b0_1_b0_4 : b0_1 ≠ b0_4 := Nat.ne_of_lt (hb16 ▸ hm0_1.lt)
  have ne_b0_2_b0_4 : b0_2 ≠ b0_4 := Nat.ne_of_lt (hb16 ▸ hm0_2.lt)
  have ne_b0_3_b0_4 : b0_3 ≠ b0_4 := Nat.ne_of_lt (hb16 ▸ hm0_3.lt)
  clear hb16
  replace hB := below_ext hB hE17 (Nat.le_refl _)
  replace hm0_0 := hE17.at hm0_0
  replace hm0_1 := hE17.at hm0_1
  replace hm0_2 := hE17.at hm0_2
  replace hm0_3 := hE17.at hm0_3
  clear hE17
  replace hm0_4 : At W15 b0_4 #[wv 0 0, wv 0 1, wv 0 2, wv 0 3] 51 := hm0_4
  refine WL_nil ?_
  refine hK2 _ _ ?_
  clear hK2 K1
  refine WC_seq (fun K18 hK19 => ?_)
  refine WC_region ?_
  refine WL_val (dd := some 9) rfl rfl rfl (r_loadW rfl tb_ag51 rfl hm0_0) ?_
  refine WL_val (dd := some 10) rfl rfl rfl (r_loadW rfl tb_ag51 rfl hm0_2) ?_
  refine WL_call (dd := some 11) rfl rfl rfl (r_call2 tb_c56 (v0 := .agg #[_, _, _, _]) rfl (v1 := .agg #[_, _, _, _]) rfl) (C_set_Less _ _ _) (fun v1_2 W20 hE21 hP1_2 => ?_)
  have hsz22 := (Below.size hB)
  replace hB := below_ext hB hE21 (Nat.le_refl _)
  replace hm0_0 := hE21.at hm0_0
  replace hm0_1 := hE21.at hm0_1
  replace hm0_2 := hE21.at hm0_2
  replace hm0_3 := hE21.at hm0_3
  replace hm0_4 := hE21.at hm0_4
  clear hE21
  clear hsz22
  obtain rfl := hP1_2
  refine WL_step (dd := none) rfl rfl rfl (Y_storeW rfl rfl tb_ag51 rfl hm0_4 rfl (by rfl) (fun W23 hG24 hm25 => ?_))
  replace hB := below_grown hB hG24 (Nat.le_refl _) (fun j hj => by cases hj; exact lo_b0_4)
  replace hm0_0 := At.grownNe hm0_0 ne_b0_0_b0_4 hG24
  replace hm0_1 := At.grownNe hm0_1 ne_b0_1_b0_4 hG24
  replace hm0_2 := At.grownNe hm0_2 ne_b0_2_b0_4 hG24
  replace hm0_3 := At.grownNe hm0_3 ne_b0_3_b0_4 hG24
  clear hG24 hm0_4
  have hm0_4 := hm25
  clear hm25
  refine WL_nil ?_
  refine hK19 _ _ ?_
  clear hK19 K18
  refine WC_ret ?_
  repeat (first | refine thenQ_ret ?_ | refine blockQ_ret ?_)
  refine ret_c rfl tb_ag51 hm0_4 rfl ?_
  refine ⟨hB, ?_⟩
  rfl

theorem C_spec_meanings_2 (a b c e : Nat) (w : World) :
    Fn Tryd.prog 57 #[setV a, setV b, setV c, setV e] w fun v w' => v = setV b := by
  refine Fn_intro (n := 10) Tryd.func57 rfl rfl (Nat.le_of_ble_eq_true rfl) ?_
  have hB : Below w.heap.size w w := Below.refl _ _
  refine WC_seq (fun K1 hK2 => ?_)
  refine WC_region ?_
  refine WL_step (dd := some 4) rfl rfl rfl (Y_box (c := #[_, _, _, _]) rfl rfl (fun b0_0 W3 hb4 hE5 hm0_0 => ?_))
  have lo_b0_0 : w.heap.size ≤ b0_0 := hb4 ▸ (Below.size hB)
  clear hb4
  replace hB := below_ext hB hE5 (Nat.le_refl _)
  clear hE5
  refine WL_step (dd := some 5) rfl rfl rfl (Y_box (c := #[_, _, _, _]) rfl rfl (fun b0_1 W6 hb7 hE8 hm0_1 => ?_))
  have lo_b0_1 : w.heap.size ≤ b0_1 := hb7 ▸ (Below.size hB)
  have ne_b0_0_b0_1 : b0_0 ≠ b0_1 := Nat.ne_of_lt (hb7 ▸ hm0_0.lt)
  clear hb7
  replace hB := below_ext hB hE8 (Nat.le_refl _)
  replace hm0_0 := hE8.at hm0_0
  clear hE8
  refine WL_step (dd := some 6) rfl rfl rfl (Y_box (c := #[_, _, _, _]) rfl rfl (fun b0_2 W9 hb10 hE11 hm0_2 => ?_))
  have lo_b0_2 : w.heap.size ≤ b0_2 := hb10 ▸ (Below.size hB)
  have ne_b0_0_b0_2 : b0_0 ≠ b0_2 := Nat.ne_of_lt (hb10 ▸ hm0_0.lt)
  have ne_b0_1_b0_2 : b0_1 ≠ b0_2 := Nat.ne_of_lt (hb10 ▸ hm0_1.lt)
  clear hb10
  replace hB := below_ext hB hE11 (Nat.le_refl _)
  replace hm0_0 := hE11.at hm0_0
  replace hm0_1 := hE11.at hm0_1
  clear hE11
  refine WL_step (dd := some 7) rfl rfl rfl (Y_box (c := #[_, _, _, _]) rfl rfl (fun b0_3 W12 hb13 hE14 hm0_3 => ?_))
  have lo_b0_3 : w.heap.size ≤ b0_3 := hb13 ▸ (Below.size hB)
  have ne_b0_0_b0_3 : b0_0 ≠ b0_3 := Nat.ne_of_lt (hb13 ▸ hm0_0.lt)
  have ne_b0_1_b0_3 : b0_1 ≠ b0_3 := Nat.ne_of_lt (hb13 ▸ hm0_1.lt)
  have ne_b0_2_b0_3 : b0_2 ≠ b0_3 := Nat.ne_of_lt (hb13 ▸ hm0_2.lt)
  clear hb13
  replace hB := below_ext hB hE14 (Nat.le_refl _)
  replace hm0_0 := hE14.at hm0_0
  replace hm0_1 := hE14.at hm0_1
  replace hm0_2 := hE14.at hm0_2
  clear hE14
  refine WL_step (dd := some 8) rfl rfl rfl (Y_alloc tb_z51 rfl (fun b0_4 W15 hb16 hE17 hm0_4 => ?_))
  have lo_b0_4 : w.heap.size ≤ b0_4 := hb16 ▸ (Below.size hB)
  have ne_b0_0_b0_4 : b0_0 ≠ b0_4 := Nat.ne_of_lt (hb16 ▸ hm0_0.lt)
  have ne_b0_1_b0_4 : b0_1 ≠ b0_4 := Nat.ne_of_lt (hb16 ▸ hm0_1.lt)
  have ne_b0_2_b0_4 : b0_2 ≠ b0_4 := Nat.ne_of_lt (hb16 ▸ hm0_2.lt)
  have ne_b0_3_b0_4 : b0_3 ≠ b0_4 := Nat.ne_of_lt (hb16 ▸ hm0_3.lt)
  clear hb16
  replace hB := below_ext hB hE17 (Nat.le_refl _)
  replace hm0_0 := hE17.at hm0_0
  replace hm0_1 := hE17.at hm0_1
  replace hm0_2 := hE17.at hm0_2
  replace hm0_3 := hE17.at hm0_3
  clear hE17
  replace hm0_4 : At W15 b0_4 #[wv 0 0, wv 0 1, wv 0 2, wv 0 3] 51 := hm0_4
  refine WL_nil ?_
  refine hK2 _ _ ?_
  clear hK2 K1
  refine WC_seq (fun K18 hK19 => ?_)
  refine WC_region ?_
  refine WL_val (dd := some 9) rfl rfl rfl (r_loadW rfl tb_ag51 rfl hm0_1) ?_
  refine WL_step (dd := none) rfl rfl rfl (Y_storeW rfl rfl tb_ag51 rfl hm0_4 rfl (by rfl) (fun W20 hG21 hm22 => ?_))
  replace hB := below_grown hB hG21 (Nat.le_refl _) (fun j hj => by cases hj; exact lo_b0_4)
  replace hm0_0 := At.grownNe hm0_0 ne_b0_0_b0_4 hG21
  replace hm0_1 := At.grownNe hm0_1 ne_b0_1_b0_4 hG21
  replace hm0_2 := At.grownNe hm0_2 ne_b0_2_b0_4 hG21
  replace hm0_3 := At.grownNe hm0_3 ne_b0_3_b0_4 hG21
  clear hG21 hm0_4
  have hm0_4 := hm22
  clear hm22
  refine WL_nil ?_
  refine hK19 _ _ ?_
  clear hK19 K18
  refine WC_ret ?_
  repeat (first | refine thenQ_ret ?_ | refine blockQ_ret ?_)
  refine ret_c rfl tb_ag51 hm0_4 rfl ?_
  refine ⟨hB, ?_⟩
  rfl

theorem C_spec_meanings_3 (a b c e : Nat) (w : World) :
    Fn Tryd.prog 58 #[setV a, setV b, setV c, setV e] w fun v w' => v = setV (b ||| e) := by
  refine Fn_intro (n := 12) Tryd.func58 rfl rfl (Nat.le_of_ble_eq_true rfl) ?_
  have hB : Below w.heap.size w w := Below.refl _ _
  refine WC_seq (fun K1 hK2 => ?_)
  refine WC_region ?_
  refine WL_step (dd := some 4) rfl rfl rfl (Y_box (c := #[_, _, _, _]) rfl rfl (fun b0_0 W3 hb4 hE5 hm0_0 => ?_))
  have lo_b0_0 : w.heap.size ≤ b0_0 := hb4 ▸ (Below.size hB)
  clear hb4
  replace hB := below_ext hB hE5 (Nat.le_refl _)
  clear hE5
  refine WL_step (dd := some 5) rfl rfl rfl (Y_box (c := #[_, _, _, _]) rfl rfl (fun b0_1 W6 hb7 hE8 hm0_1 => ?_))
  have lo_b0_1 : w.heap.size ≤ b0_1 := hb7 ▸ (Below.size hB)
  have ne_b0_0_b0_1 : b0_0 ≠ b0_1 := Nat.ne_of_lt (hb7 ▸ hm0_0.lt)
  clear hb7
  replace hB := below_ext hB hE8 (Nat.le_refl _)
  replace hm0_0 := hE8.at hm0_0
  clear hE8
  refine WL_step (dd := some 6) rfl rfl rfl (Y_box (c := #[_, _, _, _]) rfl rfl (fun b0_2 W9 hb10 hE11 hm0_2 => ?_))
  have lo_b0_2 : w.heap.size ≤ b0_2 := hb10 ▸ (Below.size hB)
  have ne_b0_0_b0_2 : b0_0 ≠ b0_2 := Nat.ne_of_lt (hb10 ▸ hm0_0.lt)
  have ne_b0_1_b0_2 : b0_1 ≠ b0_2 := Nat.ne_of_lt (hb10 ▸ hm0_1.lt)
  clear hb10
  replace hB := below_ext hB hE11 (Nat.le_refl _)
  replace hm0_0 := hE11.at hm0_0
  replace hm0_1 := hE11.at hm0_1
  clear hE11
  refine WL_step (dd := some 7) rfl rfl rfl (Y_box (c := #[_, _, _, _]) rfl rfl (fun b0_3 W12 hb13 hE14 hm0_3 => ?_))
  have lo_b0_3 : w.heap.size ≤ b0_3 := hb13 ▸ (Below.size hB)
  have ne_b0_0_b0_3 : b0_0 ≠ b0_3 := Nat.ne_of_lt (hb13 ▸ hm0_0.lt)
  have ne_b0_1_b0_3 : b0_1 ≠ b0_3 := Nat.ne_of_lt (hb13 ▸ hm0_1.lt)
  have ne_b0_2_b0_3 : b0_2 ≠ b0_3 := Nat.ne_of_lt (hb13 ▸ hm0_2.lt)
  clear hb13
  replace hB := below_ext hB hE14 (Nat.le_refl _)
  replace hm0_0 := hE14.at hm0_0
  replace hm0_1 := hE14.at hm0_1
  replace hm0_2 := hE14.at hm0_2
  clear hE14
  refine WL_step (dd := some 8) rfl rfl rfl (Y_alloc tb_z51 rfl (fun b0_4 W15 hb16 hE17 hm0_4 => ?_))
  have lo_b0_4 : w.heap.size ≤ b0_4 := hb16 ▸ (Below.size hB)
  have ne_b0_0_b0_4 : b0_0 ≠ b0_4 := Nat.ne_of_lt (hb16 ▸ hm0_0.lt)
  have ne_b0_1_b0_4 : b0_1 ≠ b0_4 := Nat.ne_of_lt (hb16 ▸ hm0_1.lt)
  have ne_b0_2_b0_4 : b0_2 ≠ b0_4 := Nat.ne_of_lt (hb16 ▸ hm0_2.lt)
  have ne_b0_3_b0_4 : b0_3 ≠ b0_4 := Nat.ne_of_lt (hb16 ▸ hm0_3.lt)
  clear hb16
  replace hB := below_ext hB hE17 (Nat.le_refl _)
  replace hm0_0 := hE17.at hm0_0
  replace hm0_1 := hE17.at hm0_1
  replace hm0_2 := hE17.at hm0_2
  replace hm0_3 := hE17.at hm0_3
  clear hE17
  replace hm0_4 : At W15 b0_4 #[wv 0 0, wv 0 1, wv 0 2, wv 0 3] 51 := hm0_4
  refine WL_nil ?_
  refine hK2 _ _ ?_
  clear hK2 K1
  refine WC_seq (fun K18 hK19 => ?_)
  refine WC_region ?_
  refine WL_val (dd := some 9) rfl rfl rfl (r_loadW rfl tb_ag51 rfl hm0_1) ?_
  refine WL_val (dd := some 10) rfl rfl rfl (r_loadW rfl tb_ag51 rfl hm0_3) ?_
  refine WL_call (dd := some 11) rfl rfl rfl (r_call2 tb_c40 (v0 := .agg #[_, _, _, _]) rfl (v1 := .agg #[_, _, _, _]) rfl) (C_set_Or _ _ _) (fun v1_2 W20 hE21 hP1_2 => ?_)
  have hsz22 := (Below.size hB)
  replace hB := below_ext hB hE21 (Nat.le_refl _)
  replace hm0_0 := hE21.at hm0_0
  replace hm0_1 := hE21.at hm0_1
  replace hm0_2 := hE21.at hm0_2
  replace hm0_3 := hE21.at hm0_3
  replace hm0_4 := hE21.at hm0_4
  clear hE21
  clear hsz22
  obtain rfl := hP1_2
  refine WL_step (dd := none) rfl rfl rfl (Y_storeW rfl rfl tb_ag51 rfl hm0_4 rfl (by rfl) (fun W23 hG24 hm25 => ?_))
  replace hB := below_grown hB hG24 (Nat.le_refl _) (fun j hj => by cases hj; exact lo_b0_4)
  replace hm0_0 := At.grownNe hm0_0 ne_b0_0_b0_4 hG24
  replace hm0_1 := At.grownNe hm0_1 ne_b0_1_b0_4 hG24
  replace hm0_2 := At.grownNe hm0_2 ne_b0_2_b0_4 hG24
  replace hm0_3 := At.grownNe hm0_3 ne_b0_3_b0_4 hG24
  clear hG24 hm0_4
  have hm0_4 := hm25
  clear hm25
  refine WL_nil ?_
  refine hK19 _ _ ?_
  clear hK19 K18
  refine WC_ret ?_
  repeat (first | refine thenQ_ret ?_ | refine blockQ_ret ?_)
  refine ret_c rfl tb_ag51 hm0_4 rfl ?_
  refine ⟨hB, ?_⟩
  rfl

theorem C_mn (k : Int) (all ones nz fr : Nat) (w : World) : Fn Tryd.prog (mnA 57 58 55 k) #[setV all, setV ones, setV nz, setV fr] w fun v w' => v = setV (mayF k all ones nz fr) := by
  unfold mnA mayF
  by_cases h0 : k = 0
  · rw [if_pos h0, if_pos h0]; exact C_spec_meanings_2 all ones nz fr w
  · rw [if_neg h0, if_neg h0]
    by_cases h1 : k = 1
    · rw [if_pos h1, if_pos h1]; exact C_spec_meanings_3 all ones nz fr w
    · rw [if_neg h1, if_neg h1]; exact C_spec_meanings_1 all ones nz fr w
theorem callB_mn (k : Int) : callB Tryd.prog (mnA 57 58 55 k) = true := by
  unfold mnA
  by_cases h0 : k = 0
  · rw [if_pos h0]; kernel_rfl
  · rw [if_neg h0]
    by_cases h1 : k = 1
    · rw [if_pos h1]; kernel_rfl
    · rw [if_neg h1]; kernel_rfl

theorem C_spec_meanings  (w : World) :
    Fn Tryd.prog 34 #[] w fun v w' => v = .agg #[.func (.func 57) #[] #[], .bool false, .func (.func 58) #[] #[], .bool false, .func (.func 55) #[] #[], .bool true, .func (.func 55) #[] #[], .bool true] := by
  refine Fn_intro (n := 9) Tryd.func34 rfl rfl (Nat.le_of_ble_eq_true rfl) ?_
  have hB : Below w.heap.size w w := Below.refl _ _
  refine WC_seq (fun K1 hK2 => ?_)
  refine WC_region ?_
  refine WL_step (dd := some 0) rfl rfl rfl (Y_alloc tb_z72 rfl (fun b0_0 W3 hb4 hE5 hm0_0 => ?_))
  have lo_b0_0 : w.heap.size ≤ b0_0 := hb4 ▸ (Below.size hB)
  clear hb4
  replace hB := below_ext hB hE5 (Nat.le_refl _)
  clear hE5
  refine WL_nil ?_
  refine hK2 _ _ ?_
  clear hK2 K1
  refine WC_seq (fun K6 hK7 => ?_)
  refine WC_region ?_
  refine WL_val (dd := some 1) rfl rfl rfl (r_assign (v := .func (.func 55) #[] #[]) rfl) ?_
  refine WL_nil ?_
  refine hK7 _ _ ?_
  clear hK7 K6
  refine WC_seq (fun K8 hK9 => ?_)
  refine WC_region ?_
  refine WL_val (dd := some 2) rfl rfl rfl (tb_build71_0_1 (h0 := rfl) (k0 := rfl) (h1 := rfl) (k1 := rfl) (c0_0 := .func (.func 57) #[] #[]) (c1_0 := .bool false)) ?_
  refine WL_val (dd := some 3) rfl rfl rfl (tb_build71_0_1 (h0 := rfl) (k0 := rfl) (h1 := rfl) (k1 := rfl) (c0_0 := .func (.func 58) #[] #[]) (c1_0 := .bool false)) ?_
  refine WL_val (dd := some 4) rfl rfl rfl (r_move (v := .func (.func 55) #[] #[]) rfl) ?_
  refine WL_val (dd := some 5) rfl rfl rfl (tb_build71_0_1 (h0 := rfl) (k0 := rfl) (h1 := rfl) (k1 := rfl) (c0_0 := .func (.func 55) #[] #[]) (c1_0 := .bool true)) ?_
  refine WL_val (dd := some 6) rfl rfl rfl (r_move (v := .func (.func 55) #[] #[]) rfl) ?_
  refine WL_val (dd := some 7) rfl rfl rfl (tb_build71_0_1 (h0 := rfl) (k0 := rfl) (h1 := rfl) (k1 := rfl) (c0_0 := .func (.func 55) #[] #[]) (c1_0 := .bool true)) ?_
  refine WL_val (dd := some 8) rfl rfl rfl (tb_build72_0_1_2_3 (h0 := rfl) (h1 := rfl) (h2 := rfl) (h3 := rfl) ) ?_
  refine WL_step (dd := none) rfl rfl rfl (Y_storeW rfl rfl tb_ag72 rfl hm0_0 rfl (by rfl) (fun W10 hG11 hm12 => ?_))
  replace hB := below_grown hB hG11 (Nat.le_refl _) (fun j hj => by cases hj; exact lo_b0_0)
  clear hG11 hm0_0
  have hm0_0 := hm12
  clear hm12
  refine WL_nil ?_
  refine hK9 _ _ ?_
  clear hK9 K8
  refine WC_ret ?_
  repeat (first | refine thenQ_ret ?_ | refine blockQ_ret ?_)
  refine ret_c rfl tb_ag72 hm0_0 rfl ?_
  refine ⟨hB, ?_⟩
  rfl

theorem C_spec_marked (T : Tb) (lv : Value) (vs : List LnV) (o : Nat) (m : Int) (w : World) (hlv : SlT encLn 3 w lv vs) (hls : LsAt w vs T.ls) (hmb : ∀ i, i < T.ls.length → (T.ls.getD i ln0).c.m < 256 ∧ (T.ls.getD i ln0).c.v < 256) (hr : rightT T = true) (ho : (o : Int) < T.no) :
    Fn Tryd.prog 35 #[.agg #[.int .i64 T.kind, .int .i64 T.ni, .int .i64 T.no, lv], .int .i64 (o : Int), .int .i64 m] w fun v w' => v = setV (mkS T o m) := by
  refine Fn_intro (n := 39) Tryd.func35 rfl rfl (Nat.le_of_ble_eq_true rfl) ?_
  have hB : Below w.heap.size w w := Below.refl _ _
  have hle := hls.len
  obtain ⟨hk0, hk3, hi0, hi8, hno1, hno4, hl64⟩ := right_hd hr
  refine WC_seq (fun K1 hK2 => ?_)
  refine WC_region ?_
  refine WL_step (dd := some 3) rfl rfl rfl (Y_box (c := #[_, _, _, _]) rfl rfl (fun b0_0 W3 hb4 hE5 hm0_0 => ?_))
  have lo_b0_0 : w.heap.size ≤ b0_0 := hb4 ▸ (Below.size hB)
  clear hb4
  replace hB := below_ext hB hE5 (Nat.le_refl _)
  clear hE5
  refine WL_step (dd := some 6) rfl rfl rfl (Y_alloc tb_z51 rfl (fun b0_1 W6 hb7 hE8 hm0_1 => ?_))
  have lo_b0_1 : w.heap.size ≤ b0_1 := hb7 ▸ (Below.size hB)
  clear hb7
  replace hB := below_ext hB hE8 (Nat.le_refl _)
  replace hm0_0 := hE8.at hm0_0
  clear hE8
  replace hm0_1 : At W6 b0_1 #[wv 0 0, wv 0 1, wv 0 2, wv 0 3] 51 := hm0_1
  refine WL_nil ?_
  refine hK2 _ _ ?_
  clear hK2 K1
  refine WC_seq (fun K9 hK10 => ?_)
  refine WC_region ?_
  refine WL_step (dd := some 7) rfl rfl rfl (Y_alloc tb_z51 rfl (fun b1_0 W11 hb12 hE13 hm1_0 => ?_))
  have lo_b1_0 : w.heap.size ≤ b1_0 := hb12 ▸ (Below.size hB)
  have ne_b0_1_b1_0 : b0_1 ≠ b1_0 := Nat.ne_of_lt (hb12 ▸ hm0_1.lt)
  clear hb12
  replace hB := below_ext hB hE13 (Nat.le_refl _)
  replace hm0_0 := hE13.at hm0_0
  replace hm0_1 := hE13.at hm0_1
  clear hE13
  replace hm1_0 : At W11 b1_0 #[wv 0 0, wv 0 1, wv 0 2, wv 0 3] 51 := hm1_0
  refine WL_nil ?_
  refine hK10 _ _ ?_
  clear hK10 K9
  refine WC_seq (fun K14 hK15 => ?_)
  refine WC_seq (fun K16 hK17 => ?_)
  refine WC_region ?_
  refine WL_val (dd := some 12) rfl rfl rfl (r_fieldAddr (b := _) (o := _) rfl tb_fo24_3) ?_
  refine WL_val (dd := some 13) rfl rfl rfl (r_load1 (v := lv) rfl tb_sc22 (At.cell hm0_0 rfl)) ?_
  refine WL_val (dd := some 14) rfl rfl rfl (r_lenS (v := lv) rfl (Below.slT hB hlv) tb_el22) ?_
  refine WL_val (dd := some 15) rfl rfl rfl (r_move (v := .int .i64 0) rfl) ?_
  refine WL_nil ?_
  refine hK17 _ _ ?_
  clear hK17 K16
  refine WC_block ?_
  refine WC_loop (σ := (Nat)) [9, 10, 11, 15, 16, 17, 18, 19, 20, 21, 22, 23, 24, 25, 26, 27, 28, 29, 30, 31, 32, 33, 34, 35, 36, 37] (fun k => [(15, .int .i64 (k : Int))]) (fun k W => (Below w.heap.size w W) ∧ (At W b0_0 _ 24) ∧ (At W b0_1 _ 51) ∧ (At W b1_0 #[wv (mkTo T o m k) 0, wv (mkTo T o m k) 1, wv (mkTo T o m k) 2, wv (mkTo T o m k) 3] 51) ∧ (k ≤ T.ls.length) ∧ (True)) (fun k => T.ls.length - k) (0) ⟨rfl, trivial⟩ ⟨hB, hm0_0, hm0_1, hm1_0, (Nat.zero_le _), trivial⟩ ?_
  clear hB hm0_0 hm0_1 hm1_0
  rintro k g19 W18 ⟨hB, hm0_0, hm0_1, hm1_0, hk, _⟩ J20 hJ21
  refine WC_seq (fun K22 hK23 => ?_)
  refine WC_region ?_
  refine WL_val (dd := some 16) rfl rfl rfl (r_lss rfl rfl) ?_
  refine WL_nil ?_
  refine hK23 _ _ ?_
  clear hK23 K22
  refine WC_seq (fun K24 hK25 => ?_)
  refine WC_cond (b := _) rfl (fun hc0 => ?_) (fun hc0 => ?_)
  ·
    try with_reducible replace hc0 := dec_t hc0
    refine WC_skip ?_
    refine hK25 _ _ ?_
    clear hK25 K24
    refine WC_seq (fun K26 hK27 => ?_)
    refine WC_block ?_
    refine WC_seq (fun K28 hK29 => ?_)
    have hck := hls.c k (by omega)
    have hln := right_ln hr (show k < T.ls.length by omega)
    obtain ⟨hr1, hr2, hr3⟩ := lnOk_iff.1 hln
    have hbk := hmb k (by omega)
    have hb1 : (vs.getD k lv0).c.m < 256 ∧ (vs.getD k lv0).c.v < 256 := by rw [hck]; exact hbk
    have hrb : rightB (vs.getD k lv0).c.m (vs.getD k lv0).c.v T.ni = true := by rw [hck]; exact hr1
    refine WC_region ?_
    refine WL_val (dd := some 17) rfl rfl rfl (r_idxS (v := lv) rfl (Below.slT hB hlv) rfl tb_el22 (by omega) (by first | omega | (simp only [onTo_len, mayTo_len_]; omega))) ?_
    refine WL_val (dd := some 18) rfl rfl rfl (r_load3 rfl tb_ag45 (SlT.cell (Below.slT hB hlv) encLn_len lv0 (by omega) (by first | omega | (simp only [onTo_len, mayTo_len_]; omega)) 0 rfl) (SlT.cell (Below.slT hB hlv) encLn_len lv0 (by omega) (by first | omega | (simp only [onTo_len, mayTo_len_]; omega)) 1 rfl) (SlT.cell (Below.slT hB hlv) encLn_len lv0 (by omega) (by first | omega | (simp only [onTo_len, mayTo_len_]; omega)) 2 rfl)) ?_
    have hp4_1 : SlT encI 1 w ((vs.getD k lv0).o) ((T.ls.getD k ln0).os) := hls.o k (by omega)
    refine WL_step (dd := some 9) rfl rfl rfl (Y_alloc tb_z45 rfl (fun b4_2 W30 hb31 hE32 hm4_2 => ?_))
    have lo_b4_2 : w.heap.size ≤ b4_2 := hb31 ▸ (Below.size hB)
    clear hb31
    replace hB := below_ext hB hE32 (Nat.le_refl _)
    replace hm0_0 := hE32.at hm0_0
    replace hm0_1 := hE32.at hm0_1
    replace hm1_0 := hE32.at hm1_0
    clear hE32
    refine WL_step (dd := none) rfl rfl rfl (Y_storeW rfl rfl tb_ag45 rfl hm4_2 rfl (by exact one_ln (SlT.one hp4_1)) (fun W33 hG34 hm35 => ?_))
    replace hB := below_grown hB hG34 (Nat.le_refl _) (fun j hj => by cases hj; exact lo_b4_2)
    replace hm0_0 := At.grownAt hm0_0 hm4_2 hG34 (by decide)
    replace hm0_1 := At.grownAt hm0_1 hm4_2 hG34 (by decide)
    replace hm1_0 := At.grownAt hm1_0 hm4_2 hG34 (by decide)
    clear hG34 hm4_2
    have hm4_2 := hm35
    clear hm35
    refine WL_nil ?_
    refine hK29 _ _ ?_
    clear hK29 K28
    refine WC_seq (fun K36 hK37 => ?_)
    refine WC_region ?_
    refine WL_val (dd := some 19) rfl rfl rfl (r_fieldAddr (b := _) (o := _) rfl tb_fo45_1) ?_
    refine WL_val (dd := some 20) rfl rfl rfl (r_load1 (v := (vs.getD k lv0).o) rfl tb_sc43 (At.cell hm4_2 rfl)) ?_
    refine WL_val (dd := some 21) rfl rfl rfl (r_move (v := .int .i64 _) rfl) ?_
    refine WL_val (dd := some 22) rfl rfl rfl (r_idxS (v := (vs.getD k lv0).o) rfl (Below.slT hB hp4_1) rfl tb_el43 (by omega) (by first | omega | (simp only [onTo_len, mayTo_len_]; omega))) ?_
    refine WL_val (dd := some 23) rfl rfl rfl (r_load1 (v := .int .i64 _) rfl tb_sc3 (SlT.cell (Below.slT hB hp4_1) encI_len 0 (by omega) (by first | omega | (simp only [onTo_len, mayTo_len_]; omega)) 0 rfl)) ?_
    refine WL_val (dd := some 24) rfl rfl rfl (r_move (v := .int .i64 _) rfl) ?_
    refine WL_val (dd := some 25) rfl rfl rfl (r_eql rfl rfl) ?_
    refine WL_nil ?_
    refine hK37 _ _ ?_
    clear hK37 K36
    refine WC_cond (b := _) rfl (fun hc1 => ?_) (fun hc1 => ?_)
    ·
      try with_reducible replace hc1 := dec_t hc1
      refine WC_seq (fun K38 hK39 => ?_)
      refine WC_region ?_
      refine WL_val (dd := some 27) rfl rfl rfl (r_fieldAddr (b := _) (o := _) rfl tb_fo45_0) ?_
      refine WL_val (dd := some 28) rfl rfl rfl (r_load2 rfl tb_ag42 (At.cell hm4_2 rfl) (At.cell hm4_2 rfl)) ?_
      refine WL_val (dd := some 29) rfl rfl rfl (r_fieldAddr (b := _) (o := _) rfl tb_fo24_1) ?_
      refine WL_val (dd := some 30) rfl rfl rfl (r_load1 (v := .int .i64 _) rfl tb_sc3 (At.cell hm0_0 rfl)) ?_
      refine WL_call (dd := some 31) rfl rfl rfl (r_call2 tb_c39 (v0 := .agg #[_, _]) rfl (v1 := .int .i64 _) rfl) (C_cube_Points (vs.getD k lv0).c.m (vs.getD k lv0).c.v _ _ hb1.1 hb1.2) (fun v6_4 W40 hE41 hP6_4 => ?_)
      have hsz42 := (Below.size hB)
      replace hB := below_ext hB hE41 (Nat.le_refl _)
      replace hm0_0 := hE41.at hm0_0
      replace hm0_1 := hE41.at hm0_1
      replace hm1_0 := hE41.at hm1_0
      replace hm4_2 := hE41.at hm4_2
      clear hE41
      rw [if_pos hrb] at hP6_4
      obtain rfl := hP6_4
      clear hsz42
      refine WL_val (dd := some 26) rfl rfl rfl (r_move (v := .tuple #[.agg #[_, _, _, _], .int .i64 0]) rfl) ?_
      refine WL_val (dd := some 32) rfl rfl rfl (r_ext2_0 (h := rfl)) ?_
      refine WL_val (dd := some 33) rfl rfl rfl (r_ext2_1 (h := rfl)) ?_
      refine WL_step (dd := some 10) rfl rfl rfl (Y_alloc tb_z51 rfl (fun b6_8 W43 hb44 hE45 hm6_8 => ?_))
      have lo_b6_8 : w.heap.size ≤ b6_8 := hb44 ▸ (Below.size hB)
      have ne_b0_1_b6_8 : b0_1 ≠ b6_8 := Nat.ne_of_lt (hb44 ▸ hm0_1.lt)
      have ne_b1_0_b6_8 : b1_0 ≠ b6_8 := Nat.ne_of_lt (hb44 ▸ hm1_0.lt)
      clear hb44
      replace hB := below_ext hB hE45 (Nat.le_refl _)
      replace hm0_0 := hE45.at hm0_0
      replace hm0_1 := hE45.at hm0_1
      replace hm1_0 := hE45.at hm1_0
      replace hm4_2 := hE45.at hm4_2
      clear hE45
      replace hm6_8 : At W43 b6_8 #[wv 0 0, wv 0 1, wv 0 2, wv 0 3] 51 := hm6_8
      refine WL_step (dd := none) rfl rfl rfl (Y_storeW rfl rfl tb_ag51 rfl hm6_8 rfl (by rfl) (fun W46 hG47 hm48 => ?_))
      replace hB := below_grown hB hG47 (Nat.le_refl _) (fun j hj => by cases hj; exact lo_b6_8)
      replace hm0_0 := At.grownAt hm0_0 hm6_8 hG47 (by decide)
      replace hm0_1 := At.grownNe hm0_1 ne_b0_1_b6_8 hG47
      replace hm1_0 := At.grownNe hm1_0 ne_b1_0_b6_8 hG47
      replace hm4_2 := At.grownAt hm4_2 hm6_8 hG47 (by decide)
      clear hG47 hm6_8
      have hm6_8 := hm48
      clear hm48
      refine WL_val (dd := some 11) rfl rfl rfl (r_assign (v := .int .i64 0) rfl) ?_
      refine WL_nil ?_
      refine hK39 _ _ ?_
      clear hK39 K38
      refine WC_region ?_
      refine WL_val (dd := some 34) rfl rfl rfl (r_loadW rfl tb_ag51 rfl hm1_0) ?_
      refine WL_val (dd := some 35) rfl rfl rfl (r_loadW rfl tb_ag51 rfl hm6_8) ?_
      refine WL_call (dd := some 36) rfl rfl rfl (r_call2 tb_c40 (v0 := .agg #[_, _, _, _]) rfl (v1 := .agg #[_, _, _, _]) rfl) (C_set_Or _ _ _) (fun v7_2 W49 hE50 hP7_2 => ?_)
      have hsz51 := (Below.size hB)
      replace hB := below_ext hB hE50 (Nat.le_refl _)
      replace hm0_0 := hE50.at hm0_0
      replace hm0_1 := hE50.at hm0_1
      replace hm1_0 := hE50.at hm1_0
      replace hm4_2 := hE50.at hm4_2
      replace hm6_8 := hE50.at hm6_8
      clear hE50
      clear hsz51
      obtain rfl := hP7_2
      refine WL_step (dd := none) rfl rfl rfl (Y_storeW rfl rfl tb_ag51 rfl hm1_0 rfl (by rfl) (fun W52 hG53 hm54 => ?_))
      replace hB := below_grown hB hG53 (Nat.le_refl _) (fun j hj => by cases hj; exact lo_b1_0)
      replace hm0_0 := At.grownAt hm0_0 hm1_0 hG53 (by decide)
      replace hm0_1 := At.grownNe hm0_1 ne_b0_1_b1_0 hG53
      replace hm4_2 := At.grownAt hm4_2 hm1_0 hG53 (by decide)
      replace hm6_8 := At.grownNe hm6_8 (Ne.symm ne_b1_0_b6_8) hG53
      clear hG53 hm1_0
      have hm1_0 := hm54
      clear hm54
      refine WL_nil ?_
      refine hK27 _ _ ?_
      clear hK27 K26
      refine WC_region ?_
      refine WL_val (dd := some 37) rfl rfl rfl (r_addI rfl rfl (by omega) (by omega)) ?_
      refine WL_val (dd := some 15) rfl rfl rfl (r_move (v := .int .i64 _) rfl) ?_
      refine WL_nil ?_
      refine hJ21 _ _ (k + 1) ?_ ?_ ?_ ?_
      · repeat (first | exact agree.mask _ _ _ | refine agree.updo ?_ rfl _ | refine agree.updL ?_ _ rfl | refine agree.maskS rfl ?_)
      · exact ⟨rfl, trivial⟩
      · exact ⟨hB, hm0_0, hm0_1, (by first | (rw [← mkTo_t (o := o) (k := k) hc1, ← hck]; exact hm1_0) | (rw [← mkTo_f (o := o) (k := k) hc1]; exact hm1_0)), (by omega), trivial⟩
      · first | omega | (dsimp only; omega)
    ·
      try with_reducible replace hc1 := dec_f hc1
      refine WC_skip ?_
      refine hK27 _ _ ?_
      clear hK27 K26
      refine WC_region ?_
      refine WL_val (dd := some 37) rfl rfl rfl (r_addI rfl rfl (by omega) (by omega)) ?_
      refine WL_val (dd := some 15) rfl rfl rfl (r_move (v := .int .i64 _) rfl) ?_
      refine WL_nil ?_
      refine hJ21 _ _ (k + 1) ?_ ?_ ?_ ?_
      · repeat (first | exact agree.mask _ _ _ | refine agree.updo ?_ rfl _ | refine agree.updL ?_ _ rfl | refine agree.maskS rfl ?_)
      · exact ⟨rfl, trivial⟩
      · exact ⟨hB, hm0_0, hm0_1, (by first | (rw [← mkTo_t (o := o) (k := k) hc1, ← hck]; exact hm1_0) | (rw [← mkTo_f (o := o) (k := k) hc1]; exact hm1_0)), (by omega), trivial⟩
      · first | omega | (dsimp only; omega)
  ·
    try with_reducible replace hc0 := dec_f hc0
    refine WC_exit ?_
    refine hK15 _ _ ?_
    clear hK25 K24
    clear hJ21 J20
    clear hK15 K14
    refine WC_seq (fun K55 hK56 => ?_)
    refine WC_region ?_
    refine WL_val (dd := some 38) rfl rfl rfl (r_loadW rfl tb_ag51 rfl hm1_0) ?_
    refine WL_step (dd := none) rfl rfl rfl (Y_storeW rfl rfl tb_ag51 rfl hm0_1 rfl (by rfl) (fun W57 hG58 hm59 => ?_))
    replace hB := below_grown hB hG58 (Nat.le_refl _) (fun j hj => by cases hj; exact lo_b0_1)
    replace hm0_0 := At.grownAt hm0_0 hm0_1 hG58 (by decide)
    replace hm1_0 := At.grownNe hm1_0 (Ne.symm ne_b0_1_b1_0) hG58
    clear hG58 hm0_1
    have hm0_1 := hm59
    clear hm59
    refine WL_nil ?_
    refine hK56 _ _ ?_
    clear hK56 K55
    refine WC_ret ?_
    repeat (first | refine thenQ_ret ?_ | refine blockQ_ret ?_)
    refine ret_c rfl tb_ag51 hm0_1 rfl ?_
    refine ⟨hB, ?_⟩
    obtain rfl : k = T.ls.length := by omega
    rfl

set_option maxHeartbeats 4000000 in
theorem C_spec_Of (T : Tb) (lv : Value) (vs : List LnV) (w : World) (hlv : SlT encLn 3 w lv vs) (hls : LsAt w vs T.ls) (hmb : ∀ i, i < T.ls.length → (T.ls.getD i ln0).c.m < 256 ∧ (T.ls.getD i ln0).c.v < 256) :
    Fn Tryd.prog 17 #[.agg #[.int .i64 T.kind, .int .i64 T.ni, .int .i64 T.no, lv]] w fun v w' => (ofE T = 0 ∧ ∃ onV mayV, v = .tuple #[.agg #[.int .i64 T.ni, onV, mayV], .int .i64 0] ∧ OwT encS 4 51 w' w.heap.size onV (onTo T T.no.toNat) ∧ OwT encS 4 51 w' w.heap.size mayV (mayTo_ T T.no.toNat)) ∨ (ofE T ≠ 0 ∧ v = .tuple #[.agg #[.int .i64 0, .slice none 0 0, .slice none 0 0], .int .i64 (ofE T)]) := by
  refine Fn_intro (n := 73) Tryd.func17 rfl rfl (Nat.le_of_ble_eq_true rfl) ?_
  have hB : Below w.heap.size w w := Below.refl _ _
  have hle := hls.len
  refine WC_seq (fun K1 hK2 => ?_)
  refine WC_region ?_
  refine WL_step (dd := some 1) rfl rfl rfl (Y_box (c := #[_, _, _, _]) rfl rfl (fun b0_0 W3 hb4 hE5 hm0_0 => ?_))
  have lo_b0_0 : w.heap.size ≤ b0_0 := hb4 ▸ (Below.size hB)
  clear hb4
  replace hB := below_ext hB hE5 (Nat.le_refl _)
  clear hE5
  refine WL_step (dd := some 2) rfl rfl rfl (Y_alloc tb_z37 rfl (fun b0_1 W6 hb7 hE8 hm0_1 => ?_))
  have lo_b0_1 : w.heap.size ≤ b0_1 := hb7 ▸ (Below.size hB)
  clear hb7
  replace hB := below_ext hB hE8 (Nat.le_refl _)
  replace hm0_0 := hE8.at hm0_0
  clear hE8
  refine WL_val (dd := some 3) rfl rfl rfl (r_assign (v := .int .i64 0) rfl) ?_
  refine WL_nil ?_
  refine hK2 _ _ ?_
  clear hK2 K1
  refine WC_seq (fun K9 hK10 => ?_)
  refine WC_seq (fun K11 hK12 => ?_)
  refine WC_region ?_
  refine WL_val (dd := some 12) rfl rfl rfl (r_loadW rfl tb_ag24 rfl hm0_0) ?_
  refine WL_call (dd := some 13) rfl rfl rfl (r_call1 tb_c11 (v0 := .agg #[_, _, _, _]) rfl) (C_pla_Right _ _ _ _ (Below.slT hB hlv) (LsAt.below hB hls) (by assumption)) (fun v1_1 W13 hE14 hP1_1 => ?_)
  have hsz15 := (Below.size hB)
  replace hB := below_ext hB hE14 (Nat.le_refl _)
  replace hm0_0 := hE14.at hm0_0
  replace hm0_1 := hE14.at hm0_1
  clear hE14
  clear hsz15
  obtain rfl := hP1_1
  refine WL_val (dd := some 14) rfl rfl rfl (r_not rfl) ?_
  refine WL_nil ?_
  refine hK12 _ _ ?_
  clear hK12 K11
  refine WC_cond (b := _) rfl (fun hc0 => ?_) (fun hc0 => ?_)
  ·
    try with_reducible replace hc0 := dec_t hc0
    refine WC_seq (fun K16 hK17 => ?_)
    refine WC_region ?_
    refine WL_val (dd := some 15) rfl rfl rfl (tb_build37_ ) ?_
    refine WL_step (dd := none) rfl rfl rfl (Y_storeW rfl rfl tb_ag37 rfl hm0_1 rfl (by rfl) (fun W18 hG19 hm20 => ?_))
    replace hB := below_grown hB hG19 (Nat.le_refl _) (fun j hj => by cases hj; exact lo_b0_1)
    replace hm0_0 := At.grownAt hm0_0 hm0_1 hG19 (by decide)
    clear hG19 hm0_1
    have hm0_1 := hm20
    clear hm20
    refine WL_val (dd := some 3) rfl rfl rfl (r_assign (v := .int .i64 1) rfl) ?_
    refine WL_nil ?_
    refine hK17 _ _ ?_
    clear hK17 K16
    refine WC_ret ?_
    repeat (first | refine thenQ_ret ?_ | refine blockQ_ret ?_)
    try clear hK10 K9
    refine ret_ct rfl tb_ag37 hm0_1 rfl (v1 := .int .i64 1) rfl ?_
    refine ⟨hB, ?_⟩
    first | (rw [ofE_1 (by simpa using hc0)]; exact .inr ⟨by decide, rfl⟩) | (rw [ofE_4 (o := o) hr (by omega) (clash_t hs10_2 hn8 hc2)]; exact .inr ⟨by decide, rfl⟩) | (have ho2 : o = T.no.toNat := (by omega); subst ho2; exact .inl ⟨ofE_0 hr hq, onv, mayv, rfl, hon, hmay⟩)
  ·
    try with_reducible replace hc0 := dec_f hc0
    refine WC_skip ?_
    refine hK10 _ _ ?_
    clear hK10 K9
    refine WC_seq (fun K21 hK22 => ?_)
    have hr : rightT T = true := by simpa using hc0
    obtain ⟨hk0, hk3, hi0, hi8, hno1, hno4, hl64⟩ := right_hd hr
    have hn8 := right_n hr
    obtain ⟨no, hno⟩ := Int.eq_ofNat_of_zero_le (show 0 ≤ T.no by omega)
    refine WC_region ?_
    refine WL_val (dd := some 17) rfl rfl rfl (r_fieldAddr (b := _) (o := _) rfl tb_fo24_1) ?_
    refine WL_val (dd := some 18) rfl rfl rfl (r_load1 (v := .int .i64 _) rfl tb_sc3 (At.cell hm0_0 rfl)) ?_
    refine WL_call (dd := some 19) rfl rfl rfl (r_call1 tb_c21 (v0 := .int .i64 _) rfl) (C_set_All _ _) (fun v3_2 W23 hE24 hP3_2 => ?_)
    have hsz25 := (Below.size hB)
    replace hB := below_ext hB hE24 (Nat.le_refl _)
    replace hm0_0 := hE24.at hm0_0
    replace hm0_1 := hE24.at hm0_1
    clear hE24
    rw [if_pos ⟨hi0, hi8⟩] at hP3_2
    obtain rfl := hP3_2
    clear hsz25
    refine WL_val (dd := some 16) rfl rfl rfl (r_move (v := .tuple #[.agg #[_, _, _, _], .int .i64 0]) rfl) ?_
    refine WL_val (dd := some 20) rfl rfl rfl (r_ext2_0 (h := rfl)) ?_
    refine WL_val (dd := some 21) rfl rfl rfl (r_ext2_1 (h := rfl)) ?_
    refine WL_step (dd := some 4) rfl rfl rfl (Y_alloc tb_z51 rfl (fun b3_6 W26 hb27 hE28 hm3_6 => ?_))
    have lo_b3_6 : w.heap.size ≤ b3_6 := hb27 ▸ (Below.size hB)
    clear hb27
    replace hB := below_ext hB hE28 (Nat.le_refl _)
    replace hm0_0 := hE28.at hm0_0
    replace hm0_1 := hE28.at hm0_1
    clear hE28
    replace hm3_6 : At W26 b3_6 #[wv 0 0, wv 0 1, wv 0 2, wv 0 3] 51 := hm3_6
    refine WL_step (dd := none) rfl rfl rfl (Y_storeW rfl rfl tb_ag51 rfl hm3_6 rfl (by rfl) (fun W29 hG30 hm31 => ?_))
    replace hB := below_grown hB hG30 (Nat.le_refl _) (fun j hj => by cases hj; exact lo_b3_6)
    replace hm0_0 := At.grownAt hm0_0 hm3_6 hG30 (by decide)
    replace hm0_1 := At.grownAt hm0_1 hm3_6 hG30 (by decide)
    clear hG30 hm3_6
    have hm3_6 := hm31
    clear hm31
    refine WL_val (dd := some 5) rfl rfl rfl (r_assign (v := .int .i64 0) rfl) ?_
    refine WL_nil ?_
    refine hK22 _ _ ?_
    clear hK22 K21
    refine WC_seq (fun K32 hK33 => ?_)
    refine WC_draw Ext tb_mix (fun W34 hE35 => ?_)
    replace hB := below_ext hB hE35 (Nat.le_refl _)
    replace hm0_0 := hE35.at hm0_0
    replace hm0_1 := hE35.at hm0_1
    replace hm3_6 := hE35.at hm3_6
    have hS := Ext.refl W34
    refine WT_take (dd := some 23) 1 rfl (by kernel_rfl) (by kernel_rfl) (by kernel_rfl) rfl rfl rfl (fun _wq _hq => r_fieldAddr (b := _) (o := _) rfl tb_fo24_0) hS ?_
    refine WT_take (dd := some 24) 2 rfl (by kernel_rfl) (by kernel_rfl) (by kernel_rfl) rfl rfl rfl (fun _wq hq => r_load1 (v := .int .i64 _) rfl tb_sc3 (At.cell (hq.at hm0_0) rfl)) hS ?_
    refine WT_two 0 4 (by kernel_rfl) rfl rfl rfl rfl rfl rfl rfl rfl (Yd.call (r_call0 tb_c34) (C_spec_meanings _) (fun v4_0 W36 hE37 hP4_0 => ⟨.inl (hS.trans hE37), ?_⟩)) (Y_alloc tb_z71 rfl (fun b4_4 W40 hb41 hE42 hm4_4 => ⟨.inl (hS.trans hE42), ?_⟩))
    ·
      have hsz38 := (Below.size hB)
      have sv39_hB := hB
      have sv39_hm0_0 := hm0_0
      have sv39_hm0_1 := hm0_1
      have sv39_hm3_6 := hm3_6
      replace hB := below_ext hB hE37 (Nat.le_refl _)
      replace hm0_0 := hE37.at hm0_0
      replace hm0_1 := hE37.at hm0_1
      replace hm3_6 := hE37.at hm3_6
      replace hS := hS.trans hE37
      clear hE37
      clear hsz38
      obtain rfl := hP4_0
      refine WT_take (dd := some 25) 3 rfl (by kernel_rfl) (by kernel_rfl) (by kernel_rfl) rfl rfl rfl (fun _wq _hq => r_indexMn rfl rfl Tryd.underlying72 Tryd.underlying71 (by kernel_rfl) hk0 hk3) hS ?_
      refine WT_one (dd := some 6) 4 (by kernel_rfl) rfl rfl rfl rfl (Y_alloc tb_z71 rfl (fun b4_4 W44 hb45 hE46 hm4_4 => ⟨.inl (hS.trans hE46), ?_⟩))
      have lo_b4_4 : w.heap.size ≤ b4_4 := hb45 ▸ (Below.size hB)
      clear hb45
      replace hB := below_ext hB hE46 (Nat.le_refl _)
      replace hm0_0 := hE46.at hm0_0
      replace hm0_1 := hE46.at hm0_1
      replace hm3_6 := hE46.at hm3_6
      replace hS := hS.trans hE46
      clear hE46
      refine WT_one (dd := none) 5 (by kernel_rfl) rfl rfl rfl rfl (Y_storeW rfl rfl tb_ag71 rfl hm4_4 rfl (by rfl) (fun W47 hG48 hm49 => ⟨.inr (by kernel_rfl), ?_⟩))
      replace hB := below_grown hB hG48 (Nat.le_refl _) (fun j hj => by cases hj; exact lo_b4_4)
      replace hm0_0 := At.grownAt hm0_0 hm4_4 hG48 (by decide)
      replace hm0_1 := At.grownAt hm0_1 hm4_4 hG48 (by decide)
      replace hm3_6 := At.grownAt hm3_6 hm4_4 hG48 (by decide)
      clear hG48 hm4_4
      have hm4_4 := hm49
      clear hm49
      refine WT_done (by kernel_rfl) ?_
      try clear sv39_hB sv39_hm0_0 sv39_hm0_1 sv39_hm3_6
      refine hK33 _ _ ?_
      clear hK33 K32
      refine WC_seq (fun K50 hK51 => ?_)
      have hz53 := Below.slT hB hlv
      have hz54 := LsAt.below hB hls
      have hBo52 := hB
      replace hB := Below.refl W47.heap.size W47
      refine WC_region ?_
      refine WL_val (dd := some 26) rfl rfl rfl (r_fieldAddr (b := _) (o := _) rfl tb_fo24_1) ?_
      refine WL_val (dd := some 27) rfl rfl rfl (r_load1 (v := .int .i64 _) rfl tb_sc3 (At.cell (Below.atI hB hm0_0) rfl)) ?_
      refine WL_val (dd := some 28) rfl rfl rfl (tb_build37_0 (h0 := rfl) (k0 := rfl) (c0_0 := .int .i64 _)) ?_
      refine WL_step (dd := some 7) rfl rfl rfl (Y_alloc tb_z37 rfl (fun b5_3 W55 hb56 hE57 hm5_3 => ?_))
      have lo_b5_3 : W47.heap.size ≤ b5_3 := hb56 ▸ (Below.size hB)
      have ne_b0_1_b5_3 : b0_1 ≠ b5_3 := Nat.ne_of_lt (hb56 ▸ (Below.atI hB hm0_1).lt)
      clear hb56
      replace hB := below_ext hB hE57 (Nat.le_refl _)
      clear hE57
      refine WL_step (dd := none) rfl rfl rfl (Y_storeW rfl rfl tb_ag37 rfl hm5_3 rfl (by rfl) (fun W58 hG59 hm60 => ?_))
      replace hB := below_grown hB hG59 (Nat.le_refl _) (fun j hj => by cases hj; exact lo_b5_3)
      clear hG59 hm5_3
      have hm5_3 := hm60
      clear hm60
      refine WL_nil ?_
      refine hK51 _ _ ?_
      clear hK51 K50
      refine WC_seq (fun K61 hK62 => ?_)
      refine WC_seq (fun K63 hK64 => ?_)
      refine WC_region ?_
      refine WL_val (dd := some 29) rfl rfl rfl (r_fieldAddr (b := _) (o := _) rfl tb_fo24_2) ?_
      refine WL_val (dd := some 30) rfl rfl rfl (r_load1 (v := .int .i64 _) rfl tb_sc3 (At.cell (Below.atI hB hm0_0) rfl)) ?_
      refine WL_val (dd := some 31) rfl rfl rfl (r_move (v := .int .i64 0) rfl) ?_
      refine WL_nil ?_
      refine hK64 _ _ ?_
      clear hK64 K63
      refine WC_block ?_
      refine WC_loop (σ := (Nat) × (Value) × (Value)) [3, 8, 9, 10, 11, 31, 32, 33, 34, 35, 36, 37, 38, 39, 40, 41, 42, 43, 44, 45, 46, 47, 48, 49, 50, 51, 52, 53, 54, 55, 56, 57, 58, 59, 60, 61, 62, 63, 64, 65, 66, 67, 68, 69, 70, 71] (fun (o, onv, mayv) => [(31, .int .i64 (o : Int))]) (fun sg W => match sg with | (o, onv, mayv) => (Below W47.heap.size W47 W) ∧ (At W b5_3 #[.int .i64 T.ni, onv, mayv] 37) ∧ (OwT encS 4 51 W W47.heap.size onv (onTo T o)) ∧ (OwT encS 4 51 W W47.heap.size mayv (mayTo_ T o)) ∧ (Apart onv mayv) ∧ ((o : Int) ≤ T.no) ∧ (∀ q, q < o → clash T q = false) ∧ (True)) (fun (o, onv, mayv) => T.no.toNat - o) ((0, .slice none 0 0, .slice none 0 0)) ⟨rfl, trivial⟩ ⟨hB, hm5_3, OwT.nil, OwT.nil, Apart.nilL, (by omega), upTo_zero, trivial⟩ ?_
      clear hB hm5_3
      rintro ⟨o, onv, mayv⟩ g66 W65 ⟨hB, hm5_3, hon, hmay, hap, ho, hq, _⟩ J67 hJ68
      refine WC_seq (fun K69 hK70 => ?_)
      refine WC_region ?_
      refine WL_val (dd := some 32) rfl rfl rfl (r_lss rfl rfl) ?_
      refine WL_nil ?_
      refine hK70 _ _ ?_
      clear hK70 K69
      refine WC_seq (fun K71 hK72 => ?_)
      refine WC_cond (b := _) rfl (fun hc1 => ?_) (fun hc1 => ?_)
      ·
        try with_reducible replace hc1 := dec_t hc1
        refine WC_skip ?_
        refine hK72 _ _ ?_
        clear hK72 K71
        refine WC_seq (fun K73 hK74 => ?_)
        refine WC_block ?_
        refine WC_seq (fun K75 hK76 => ?_)
        refine WC_region ?_
        refine WL_val (dd := some 33) rfl rfl rfl (r_move (v := .int .i64 _) rfl) ?_
        refine WL_val (dd := some 8) rfl rfl rfl (r_assign (v := .int .i64 _) rfl) ?_
        refine WL_nil ?_
        refine hK76 _ _ ?_
        clear hK76 K75
        refine WC_seq (fun K77 hK78 => ?_)
        refine WC_draw Ext tb_mix (fun W79 hE80 => ?_)
        replace hB := below_ext hB hE80 (Nat.le_refl _)
        replace hm5_3 := hE80.at hm5_3
        replace hon := hE80.ow hon
        replace hmay := hE80.ow hmay
        have hS := Ext.refl W79
        refine WT_take (dd := some 34) 0 rfl (by kernel_rfl) (by kernel_rfl) (by kernel_rfl) rfl rfl rfl (fun _wq hq => r_loadW rfl tb_ag24 rfl (hq.at (Below.atI hB hm0_0))) hS ?_
        refine WT_take (dd := some 35) 1 rfl (by kernel_rfl) (by kernel_rfl) (by kernel_rfl) rfl rfl rfl (fun _wq _hq => r_move (v := .int .i64 _) rfl) hS ?_
        refine WT_take (dd := some 37) 3 rfl (by kernel_rfl) (by kernel_rfl) (by kernel_rfl) rfl rfl rfl (fun _wq hq => r_loadW rfl tb_ag24 rfl (hq.at (Below.atI hB hm0_0))) hS ?_
        refine WT_take (dd := some 38) 4 rfl (by kernel_rfl) (by kernel_rfl) (by kernel_rfl) rfl rfl rfl (fun _wq _hq => r_move (v := .int .i64 _) rfl) hS ?_
        refine WT_take (dd := some 40) 6 rfl (by kernel_rfl) (by kernel_rfl) (by kernel_rfl) rfl rfl rfl (fun _wq hq => r_loadW rfl tb_ag24 rfl (hq.at (Below.atI hB hm0_0))) hS ?_
        refine WT_take (dd := some 41) 7 rfl (by kernel_rfl) (by kernel_rfl) (by kernel_rfl) rfl rfl rfl (fun _wq _hq => r_move (v := .int .i64 _) rfl) hS ?_
        refine WT_par (m := 6) (A := [2, 5, 8, 9, 10, 11]) (L1 := #[true, true, true, true, true, true, true, true, true, true, true, true, false, false, false]) (T := [36, 39, 42, 9, 10, 11]) (fun L g W => ∃ b9_9 b9_10 b9_11 : Nat, (Ext W79 W) ∧ (Below W47.heap.size W47 W) ∧ (At W b5_3 _ 37) ∧ (OwT encS 4 51 W W47.heap.size onv _) ∧ (OwT encS 4 51 W W47.heap.size mayv _) ∧ ((L.getD 2 false = true → g 36 = setV (mkS T o 1))) ∧ ((L.getD 5 false = true → g 39 = setV (mkS T o 0))) ∧ ((L.getD 8 false = true → g 42 = setV (mkS T o 2))) ∧ ((L.getD 9 false = true → g 9 = .pointer (some ⟨b9_9, 0, none⟩) ∧ At W b9_9 #[wv 0 0, wv 0 1, wv 0 2, wv 0 3] 51 ∧ W47.heap.size ≤ b9_9 ∧ Value.ownBlock onv ≠ some b9_9 ∧ Value.ownBlock mayv ≠ some b9_9)) ∧ ((L.getD 10 false = true → g 10 = .pointer (some ⟨b9_10, 0, none⟩) ∧ At W b9_10 #[wv 0 0, wv 0 1, wv 0 2, wv 0 3] 51 ∧ W47.heap.size ≤ b9_10 ∧ Value.ownBlock onv ≠ some b9_10 ∧ Value.ownBlock mayv ≠ some b9_10)) ∧ ((L.getD 11 false = true → g 11 = .pointer (some ⟨b9_11, 0, none⟩) ∧ At W b9_11 #[wv 0 0, wv 0 1, wv 0 2, wv 0 3] 51 ∧ W47.heap.size ≤ b9_11 ∧ Value.ownBlock onv ≠ some b9_11 ∧ Value.ownBlock mayv ≠ some b9_11)) ∧ ((L.getD 9 false = true → L.getD 10 false = true → b9_9 ≠ b9_10)) ∧ ((L.getD 9 false = true → L.getD 11 false = true → b9_9 ≠ b9_11)) ∧ ((L.getD 10 false = true → L.getD 11 false = true → b9_10 ≠ b9_11)) ∧ (True)) (by kernel_rfl) ⟨0, 0, 0, hS, hB, hm5_3, hon, hmay, (fun h => Bool.noConfusion (show false = true from h)), (fun h => Bool.noConfusion (show false = true from h)), (fun h => Bool.noConfusion (show false = true from h)), (fun h => Bool.noConfusion (show false = true from h)), (fun h => Bool.noConfusion (show false = true from h)), (fun h => Bool.noConfusion (show false = true from h)), (fun h => Bool.noConfusion (show false = true from h)), (fun h => Bool.noConfusion (show false = true from h)), (fun h => Bool.noConfusion (show false = true from h)), trivial⟩ ?_ ?_
        ·
          clear hS hB hm5_3 hon hmay
          rintro i hi L g W81 hlt ⟨b9_9, b9_10, b9_11, hS, hB, hm5_3, hon, hmay, hp2, hp5, hp8, hp9, hp10, hp11, hn9_10, hn9_11, hn10_11, _⟩
          have hi2 : i = 2 ∨ i = 5 ∨ i = 8 ∨ i = 9 ∨ i = 10 ∨ i = 11 := by simpa using hi
          rcases hi2 with rfl | rfl | rfl | rfl | rfl | rfl
          ·
            refine ⟨_, 36, rfl, rfl, rfl, rfl, rfl, ?_⟩
            refine Yd.call (r_call3 tb_c35 (v0 := .agg #[_, _, _, _]) rfl (v1 := .int .i64 _) rfl (v2 := .int .i64 1) rfl) (C_spec_marked T _ vs o 1 _ (Below.slT hB hz53) (LsAt.below hB hz54) hmb hr (by omega)) (fun v W' hE hP => ⟨.inl (hS.trans hE), ?_⟩)
            obtain rfl := hP
            exact ⟨b9_9, b9_10, b9_11, hS.trans hE, below_ext hB hE (Nat.le_refl _), hE.at hm5_3, hE.ow hon, hE.ow hmay, (fun _ => rfl), (fun h => hp5 (put_ne (by decide) h)), (fun h => hp8 (put_ne (by decide) h)), (fun h => let q := hp9 (put_ne (by decide) h); ⟨q.1, hE.at q.2.1, q.2.2⟩), (fun h => let q := hp10 (put_ne (by decide) h); ⟨q.1, hE.at q.2.1, q.2.2⟩), (fun h => let q := hp11 (put_ne (by decide) h); ⟨q.1, hE.at q.2.1, q.2.2⟩), (fun h k => hn9_10 (put_ne (by decide) h) (put_ne (by decide) k)), (fun h k => hn9_11 (put_ne (by decide) h) (put_ne (by decide) k)), (fun h k => hn10_11 (put_ne (by decide) h) (put_ne (by decide) k)), trivial⟩
          ·
            refine ⟨_, 39, rfl, rfl, rfl, rfl, rfl, ?_⟩
            refine Yd.call (r_call3 tb_c35 (v0 := .agg #[_, _, _, _]) rfl (v1 := .int .i64 _) rfl (v2 := .int .i64 0) rfl) (C_spec_marked T _ vs o 0 _ (Below.slT hB hz53) (LsAt.below hB hz54) hmb hr (by omega)) (fun v W' hE hP => ⟨.inl (hS.trans hE), ?_⟩)
            obtain rfl := hP
            exact ⟨b9_9, b9_10, b9_11, hS.trans hE, below_ext hB hE (Nat.le_refl _), hE.at hm5_3, hE.ow hon, hE.ow hmay, (fun h => hp2 (put_ne (by decide) h)), (fun _ => rfl), (fun h => hp8 (put_ne (by decide) h)), (fun h => let q := hp9 (put_ne (by decide) h); ⟨q.1, hE.at q.2.1, q.2.2⟩), (fun h => let q := hp10 (put_ne (by decide) h); ⟨q.1, hE.at q.2.1, q.2.2⟩), (fun h => let q := hp11 (put_ne (by decide) h); ⟨q.1, hE.at q.2.1, q.2.2⟩), (fun h k => hn9_10 (put_ne (by decide) h) (put_ne (by decide) k)), (fun h k => hn9_11 (put_ne (by decide) h) (put_ne (by decide) k)), (fun h k => hn10_11 (put_ne (by decide) h) (put_ne (by decide) k)), trivial⟩
          ·
            refine ⟨_, 42, rfl, rfl, rfl, rfl, rfl, ?_⟩
            refine Yd.call (r_call3 tb_c35 (v0 := .agg #[_, _, _, _]) rfl (v1 := .int .i64 _) rfl (v2 := .int .i64 2) rfl) (C_spec_marked T _ vs o 2 _ (Below.slT hB hz53) (LsAt.below hB hz54) hmb hr (by omega)) (fun v W' hE hP => ⟨.inl (hS.trans hE), ?_⟩)
            obtain rfl := hP
            exact ⟨b9_9, b9_10, b9_11, hS.trans hE, below_ext hB hE (Nat.le_refl _), hE.at hm5_3, hE.ow hon, hE.ow hmay, (fun h => hp2 (put_ne (by decide) h)), (fun h => hp5 (put_ne (by decide) h)), (fun _ => rfl), (fun h => let q := hp9 (put_ne (by decide) h); ⟨q.1, hE.at q.2.1, q.2.2⟩), (fun h => let q := hp10 (put_ne (by decide) h); ⟨q.1, hE.at q.2.1, q.2.2⟩), (fun h => let q := hp11 (put_ne (by decide) h); ⟨q.1, hE.at q.2.1, q.2.2⟩), (fun h k => hn9_10 (put_ne (by decide) h) (put_ne (by decide) k)), (fun h k => hn9_11 (put_ne (by decide) h) (put_ne (by decide) k)), (fun h k => hn10_11 (put_ne (by decide) h) (put_ne (by decide) k)), trivial⟩
          ·
            refine ⟨_, 9, rfl, rfl, rfl, rfl, rfl, ?_⟩
            refine Y_alloc tb_z51 rfl (fun b W' hb hE hm => ⟨.inl (hS.trans hE), ?_⟩)
            exact ⟨b, b9_10, b9_11, hS.trans hE, below_ext hB hE (Nat.le_refl _), hE.at hm5_3, hE.ow hon, hE.ow hmay, (fun h => hp2 (put_ne (by decide) h)), (fun h => hp5 (put_ne (by decide) h)), (fun h => hp8 (put_ne (by decide) h)), (fun _ => ⟨rfl, hm, hb ▸ (Below.size hB), OwT.neB hon (Nat.le_of_eq hb.symm), OwT.neB hmay (Nat.le_of_eq hb.symm)⟩), (fun h => let q := hp10 (put_ne (by decide) h); ⟨q.1, hE.at q.2.1, q.2.2⟩), (fun h => let q := hp11 (put_ne (by decide) h); ⟨q.1, hE.at q.2.1, q.2.2⟩), (fun _ k => Nat.ne_of_gt (hb ▸ (hp10 (put_ne (by decide) k)).2.1.lt)), (fun _ k => Nat.ne_of_gt (hb ▸ (hp11 (put_ne (by decide) k)).2.1.lt)), (fun h k => hn10_11 (put_ne (by decide) h) (put_ne (by decide) k)), trivial⟩
          ·
            refine ⟨_, 10, rfl, rfl, rfl, rfl, rfl, ?_⟩
            refine Y_alloc tb_z51 rfl (fun b W' hb hE hm => ⟨.inl (hS.trans hE), ?_⟩)
            exact ⟨b9_9, b, b9_11, hS.trans hE, below_ext hB hE (Nat.le_refl _), hE.at hm5_3, hE.ow hon, hE.ow hmay, (fun h => hp2 (put_ne (by decide) h)), (fun h => hp5 (put_ne (by decide) h)), (fun h => hp8 (put_ne (by decide) h)), (fun h => let q := hp9 (put_ne (by decide) h); ⟨q.1, hE.at q.2.1, q.2.2⟩), (fun _ => ⟨rfl, hm, hb ▸ (Below.size hB), OwT.neB hon (Nat.le_of_eq hb.symm), OwT.neB hmay (Nat.le_of_eq hb.symm)⟩), (fun h => let q := hp11 (put_ne (by decide) h); ⟨q.1, hE.at q.2.1, q.2.2⟩), (fun h _ => Nat.ne_of_lt (hb ▸ (hp9 (put_ne (by decide) h)).2.1.lt)), (fun h k => hn9_11 (put_ne (by decide) h) (put_ne (by decide) k)), (fun _ k => Nat.ne_of_gt (hb ▸ (hp11 (put_ne (by decide) k)).2.1.lt)), trivial⟩
          ·
            refine ⟨_, 11, rfl, rfl, rfl, rfl, rfl, ?_⟩
            refine Y_alloc tb_z51 rfl (fun b W' hb hE hm => ⟨.inl (hS.trans hE), ?_⟩)
            exact ⟨b9_9, b9_10, b, hS.trans hE, below_ext hB hE (Nat.le_refl _), hE.at hm5_3, hE.ow hon, hE.ow hmay, (fun h => hp2 (put_ne (by decide) h)), (fun h => hp5 (put_ne (by decide) h)), (fun h => hp8 (put_ne (by decide) h)), (fun h => let q := hp9 (put_ne (by decide) h); ⟨q.1, hE.at q.2.1, q.2.2⟩), (fun h => let q := hp10 (put_ne (by decide) h); ⟨q.1, hE.at q.2.1, q.2.2⟩), (fun _ => ⟨rfl, hm, hb ▸ (Below.size hB), OwT.neB hon (Nat.le_of_eq hb.symm), OwT.neB hmay (Nat.le_of_eq hb.symm)⟩), (fun h k => hn9_10 (put_ne (by decide) h) (put_ne (by decide) k)), (fun h _ => Nat.ne_of_lt (hb ▸ (hp9 (put_ne (by decide) h)).2.1.lt)), (fun h _ => Nat.ne_of_lt (hb ▸ (hp10 (put_ne (by decide) h)).2.1.lt)), trivial⟩
        clear hS hB hm5_3 hon hmay
        rintro g83 W82 ⟨b9_9, b9_10, b9_11, hS, hB, hm5_3, hon, hmay, hp2, hp5, hp8, hp9, hp10, hp11, hn9_10, hn9_11, hn10_11, _⟩
        have q36 := hp2 rfl
        clear hp2
        have q39 := hp5 rfl
        clear hp5
        have q42 := hp8 rfl
        clear hp8
        obtain ⟨q9, hm9_9, lo_b9_9, no_onv_b9_9, no_mayv_b9_9⟩ := hp9 rfl
        obtain ⟨q10, hm9_10, lo_b9_10, no_onv_b9_10, no_mayv_b9_10⟩ := hp10 rfl
        obtain ⟨q11, hm9_11, lo_b9_11, no_onv_b9_11, no_mayv_b9_11⟩ := hp11 rfl
        have ne_b9_9_b9_10 := hn9_10 rfl rfl
        clear hn9_10
        have ne_b9_9_b9_11 := hn9_11 rfl rfl
        clear hn9_11
        have ne_b9_10_b9_11 := hn10_11 rfl rfl
        clear hn10_11
        refine WT_congr (mask_head [(36, setV (mkS T o 1)), (39, setV (mkS T o 0)), (42, setV (mkS T o 2)), (9, .pointer (some ⟨b9_9, 0, none⟩)), (10, .pointer (some ⟨b9_10, 0, none⟩)), (11, .pointer (some ⟨b9_11, 0, none⟩))] ⟨q36, q39, q42, q9, q10, q11, trivial⟩) ?_
        refine WT_one (dd := none) 12 (by kernel_rfl) rfl rfl rfl rfl (Y_storeW rfl rfl tb_ag51 rfl hm9_9 rfl (by rfl) (fun W84 hG85 hm86 => ⟨.inr (by kernel_rfl), ?_⟩))
        have sv87_hB := hB
        have sv87_hm5_3 := hm5_3
        have sv87_hon := hon
        have sv87_hmay := hmay
        have sv87_hm9_9 := hm9_9
        have sv87_hm9_10 := hm9_10
        have sv87_hm9_11 := hm9_11
        replace hB := below_grown hB hG85 (Nat.le_refl _) (fun j hj => by cases hj; exact lo_b9_9)
        replace hm5_3 := At.grownAt hm5_3 hm9_9 hG85 (by decide)
        replace hon := OwT.grownAtNe hon no_onv_b9_9 hG85
        replace hmay := OwT.grownAtNe hmay no_mayv_b9_9 hG85
        replace hm9_10 := At.grownNe hm9_10 (Ne.symm ne_b9_9_b9_10) hG85
        replace hm9_11 := At.grownNe hm9_11 (Ne.symm ne_b9_9_b9_11) hG85
        clear hG85 hm9_9
        have hm9_9 := hm86
        clear hm86
        refine WT_one (dd := none) 13 (by kernel_rfl) rfl rfl rfl rfl (Y_storeW rfl rfl tb_ag51 rfl hm9_10 rfl (by rfl) (fun W88 hG89 hm90 => ⟨.inr (by kernel_rfl), ?_⟩))
        replace hB := below_grown hB hG89 (Nat.le_refl _) (fun j hj => by cases hj; exact lo_b9_10)
        replace hm5_3 := At.grownAt hm5_3 hm9_10 hG89 (by decide)
        replace hon := OwT.grownAtNe hon no_onv_b9_10 hG89
        replace hmay := OwT.grownAtNe hmay no_mayv_b9_10 hG89
        replace hm9_9 := At.grownNe hm9_9 ne_b9_9_b9_10 hG89
        replace hm9_11 := At.grownNe hm9_11 (Ne.symm ne_b9_10_b9_11) hG89
        clear hG89 hm9_10
        have hm9_10 := hm90
        clear hm90
        refine WT_one (dd := none) 14 (by kernel_rfl) rfl rfl rfl rfl (Y_storeW rfl rfl tb_ag51 rfl hm9_11 rfl (by rfl) (fun W91 hG92 hm93 => ⟨.inr (by kernel_rfl), ?_⟩))
        replace hB := below_grown hB hG92 (Nat.le_refl _) (fun j hj => by cases hj; exact lo_b9_11)
        replace hm5_3 := At.grownAt hm5_3 hm9_11 hG92 (by decide)
        replace hon := OwT.grownAtNe hon no_onv_b9_11 hG92
        replace hmay := OwT.grownAtNe hmay no_mayv_b9_11 hG92
        replace hm9_9 := At.grownNe hm9_9 ne_b9_9_b9_11 hG92
        replace hm9_10 := At.grownNe hm9_10 ne_b9_10_b9_11 hG92
        clear hG92 hm9_11
        have hm9_11 := hm93
        clear hm93
        refine WT_done (by kernel_rfl) ?_
        try clear sv87_hB sv87_hm5_3 sv87_hon sv87_hmay
        refine hK78 _ _ ?_
        clear hK78 K77
        refine WC_seq (fun K94 hK95 => ?_)
        refine WC_seq (fun K96 hK97 => ?_)
        refine WC_region ?_
        refine WL_val (dd := some 43) rfl rfl rfl (r_fieldAddr (b := _) (o := _) rfl tb_fo71_1) ?_
        refine WL_val (dd := some 44) rfl rfl rfl (r_load1 (v := .bool _) rfl tb_sc4 (At.cell (Below.atI hB hm4_4) rfl)) ?_
        refine WL_split (dd := some 45) rfl rfl rfl (r_move (v := .bool _) rfl) (fun hs10_2 => ?_) (fun hs10_2 => ?_)
        ·
          try with_reducible replace hs10_2 := dec_t hs10_2
          refine WL_val (dd := some 46) rfl rfl rfl (r_loadW rfl tb_ag51 rfl hm9_9) ?_
          refine WL_val (dd := some 47) rfl rfl rfl (r_loadW rfl tb_ag51 rfl hm9_10) ?_
          refine WL_call (dd := some 48) rfl rfl rfl (r_call2 tb_c36 (v0 := .agg #[_, _, _, _]) rfl (v1 := .agg #[_, _, _, _]) rfl) (C_set_And _ _ _) (fun v10_5 W98 hE99 hP10_5 => ?_)
          have hsz100 := (Below.size hB)
          replace hB := below_ext hB hE99 (Nat.le_refl _)
          replace hm5_3 := hE99.at hm5_3
          replace hon := hE99.ow hon
          replace hmay := hE99.ow hmay
          replace hm9_9 := hE99.at hm9_9
          replace hm9_10 := hE99.at hm9_10
          replace hm9_11 := hE99.at hm9_11
          clear hE99
          clear hsz100
          obtain rfl := hP10_5
          refine WL_val (dd := some 49) (v := setV 0) rfl rfl rfl (tb_build51_ ) ?_
          refine WL_val (dd := some 50) rfl rfl rfl (tb_neq51 rfl rfl) ?_
          refine WL_val (dd := some 51) rfl rfl rfl (r_pick_t rfl (v := .bool _) rfl) ?_
          refine WL_nil ?_
          refine hK97 _ _ ?_
          clear hK97 K96
          refine WC_cond (b := _) rfl (fun hc2 => ?_) (fun hc2 => ?_)
          ·
            try with_reducible replace hc2 := dec_t hc2
            refine WC_seq (fun K101 hK102 => ?_)
            try clear hz53
            try clear hz54
            replace hm0_0 := Below.atI hB hm0_0
            replace hm0_1 := Below.atI hB hm0_1
            replace hm3_6 := Below.atI hB hm3_6
            replace hm4_4 := Below.atI hB hm4_4
            have hzs := Nat.le_trans (Nat.le_refl _) (Below.size hBo52)
            replace lo_b5_3 := Nat.le_trans hzs lo_b5_3
            replace hon := OwT.mono hon hzs
            replace hmay := OwT.mono hmay hzs
            replace lo_b9_9 := Nat.le_trans hzs lo_b9_9
            replace lo_b9_10 := Nat.le_trans hzs lo_b9_10
            replace lo_b9_11 := Nat.le_trans hzs lo_b9_11
            replace hB := Below.trans hBo52 (Below.mono hB hzs)
            clear hBo52 hzs
            refine WC_region ?_
            refine WL_val (dd := some 52) rfl rfl rfl (tb_build37_ ) ?_
            refine WL_step (dd := none) rfl rfl rfl (Y_storeW rfl rfl tb_ag37 rfl hm0_1 rfl (by rfl) (fun W103 hG104 hm105 => ?_))
            replace hm0_0 := At.grownAt hm0_0 hm0_1 hG104 (by decide)
            replace hm3_6 := At.grownAt hm3_6 hm0_1 hG104 (by decide)
            replace hm4_4 := At.grownAt hm4_4 hm0_1 hG104 (by decide)
            replace hB := below_grown hB hG104 (Nat.le_refl _) (fun j hj => by cases hj; exact lo_b0_1)
            replace hm5_3 := At.grownNe hm5_3 (Ne.symm ne_b0_1_b5_3) hG104
            replace hon := OwT.grownAt hon hm0_1 hG104 (by decide)
            replace hmay := OwT.grownAt hmay hm0_1 hG104 (by decide)
            replace hm9_9 := At.grownAt hm9_9 hm0_1 hG104 (by decide)
            replace hm9_10 := At.grownAt hm9_10 hm0_1 hG104 (by decide)
            replace hm9_11 := At.grownAt hm9_11 hm0_1 hG104 (by decide)
            clear hG104 hm0_1
            have hm0_1 := hm105
            clear hm105
            refine WL_val (dd := some 3) rfl rfl rfl (r_assign (v := .int .i64 4) rfl) ?_
            refine WL_nil ?_
            refine hK102 _ _ ?_
            clear hK102 K101
            refine WC_ret ?_
            repeat (first | refine thenQ_ret ?_ | refine blockQ_ret ?_)
            try clear hK95 K94
            try clear hK74 K73
            try clear hJ68 J67
            try clear hK62 K61
            refine ret_ct rfl tb_ag37 hm0_1 rfl (v1 := .int .i64 4) rfl ?_
            refine ⟨hB, ?_⟩
            first | (rw [ofE_1 (by simpa using hc0)]; exact .inr ⟨by decide, rfl⟩) | (rw [ofE_4 (o := o) hr (by omega) (clash_t hs10_2 hn8 hc2)]; exact .inr ⟨by decide, rfl⟩) | (have ho2 : o = T.no.toNat := (by omega); subst ho2; exact .inl ⟨ofE_0 hr hq, onv, mayv, rfl, hon, hmay⟩)
          ·
            try with_reducible replace hc2 := dec_f hc2
            refine WC_skip ?_
            refine hK95 _ _ ?_
            clear hK95 K94
            refine WC_draw (fun a b => Gr2 onv.ownBlock mayv.ownBlock a b) tb_mix (fun W106 hE107 => ?_)
            replace hB := below_ext hB hE107 (Nat.le_refl _)
            replace hm5_3 := hE107.at hm5_3
            replace hon := hE107.ow hon
            replace hmay := hE107.ow hmay
            replace hm9_9 := hE107.at hm9_9
            replace hm9_10 := hE107.at hm9_10
            replace hm9_11 := hE107.at hm9_11
            have hrow108 := hon
            have hrow109 := hmay
            have hS : Gr2 onv.ownBlock mayv.ownBlock W106 W106 := Gr2.refl
            refine WT_take (dd := some 53) 0 rfl (by kernel_rfl) (by kernel_rfl) (by kernel_rfl) rfl rfl rfl (fun _wq _hq => r_fieldAddr (b := _) (o := _) rfl tb_fo37_1) hS ?_
            refine WT_take (dd := some 54) 1 rfl (by kernel_rfl) (by kernel_rfl) (by kernel_rfl) rfl rfl rfl (fun _wq hq => r_load1 (v := onv) rfl tb_sc35 (At.cell (At.gr2 hm5_3 hq (own_neT hrow108 hm5_3 (by decide)) (own_neT hrow109 hm5_3 (by decide))) rfl)) hS ?_
            refine WT_take (dd := some 55) 2 rfl (by kernel_rfl) (by kernel_rfl) (by kernel_rfl) rfl rfl rfl (fun _wq hq => r_loadW rfl tb_ag51 rfl (At.gr2 hm9_9 hq (Ne.symm no_onv_b9_9) (Ne.symm no_mayv_b9_9))) hS ?_
            refine WT_take (dd := some 58) 5 rfl (by kernel_rfl) (by kernel_rfl) (by kernel_rfl) rfl rfl rfl (fun _wq _hq => r_fieldAddr (b := _) (o := _) rfl tb_fo37_2) hS ?_
            refine WT_take (dd := some 59) 6 rfl (by kernel_rfl) (by kernel_rfl) (by kernel_rfl) rfl rfl rfl (fun _wq hq => r_load1 (v := mayv) rfl tb_sc35 (At.cell (At.gr2 hm5_3 hq (own_neT hrow108 hm5_3 (by decide)) (own_neT hrow109 hm5_3 (by decide))) rfl)) hS ?_
            refine WT_take (dd := some 60) 7 rfl (by kernel_rfl) (by kernel_rfl) (by kernel_rfl) rfl rfl rfl (fun _wq _hq => r_fieldAddr (b := _) (o := _) rfl tb_fo71_0) hS ?_
            refine WT_take (dd := some 61) 8 rfl (by kernel_rfl) (by kernel_rfl) (by kernel_rfl) rfl rfl rfl (fun _wq hq => r_load1 (v := .func (.func (mnA 57 58 55 T.kind)) #[] #[]) rfl tb_sc69 (At.cell (Below.atI (below_gr2 hB hq (Nat.le_refl _) (OwT.lt hrow108) (OwT.lt hrow109)) hm4_4) rfl)) hS ?_
            refine WT_take (dd := some 62) 9 rfl (by kernel_rfl) (by kernel_rfl) (by kernel_rfl) rfl rfl rfl (fun _wq hq => r_loadW rfl tb_ag51 rfl (Below.atI (below_gr2 hB hq (Nat.le_refl _) (OwT.lt hrow108) (OwT.lt hrow109)) hm3_6)) hS ?_
            refine WT_take (dd := some 63) 10 rfl (by kernel_rfl) (by kernel_rfl) (by kernel_rfl) rfl rfl rfl (fun _wq hq => r_loadW rfl tb_ag51 rfl (At.gr2 hm9_9 hq (Ne.symm no_onv_b9_9) (Ne.symm no_mayv_b9_9))) hS ?_
            refine WT_take (dd := some 64) 11 rfl (by kernel_rfl) (by kernel_rfl) (by kernel_rfl) rfl rfl rfl (fun _wq hq => r_loadW rfl tb_ag51 rfl (At.gr2 hm9_10 hq (Ne.symm no_onv_b9_10) (Ne.symm no_mayv_b9_10))) hS ?_
            refine WT_take (dd := some 65) 12 rfl (by kernel_rfl) (by kernel_rfl) (by kernel_rfl) rfl rfl rfl (fun _wq hq => r_loadW rfl tb_ag51 rfl (At.gr2 hm9_11 hq (Ne.symm no_onv_b9_11) (Ne.symm no_mayv_b9_11))) hS ?_
            refine WT_one (dd := some 56) 3 (by kernel_rfl) rfl rfl rfl rfl (Y_lit1 (u := .agg #[_, _, _, _]) rfl tb_el35 tb_zs51 rfl (by decide) (by decide) (fun b12_3 W110 hb111 hE112 hm12_3 => ⟨.inl (Gr2.ext hS hE112), ?_⟩))
            have lo_b12_3 : W47.heap.size ≤ b12_3 := hb111 ▸ (Below.size hB)
            have ne_b3_6_b12_3 : b3_6 ≠ b12_3 := Nat.ne_of_lt (hb111 ▸ (Below.atI hB hm3_6).lt)
            have no_onv_b12_3 := OwT.neB (b := b12_3) hon (Nat.le_of_eq hb111.symm)
            have no_mayv_b12_3 := OwT.neB (b := b12_3) hmay (Nat.le_of_eq hb111.symm)
            have ne_b9_9_b12_3 : b9_9 ≠ b12_3 := Nat.ne_of_lt (hb111 ▸ hm9_9.lt)
            have ne_b9_10_b12_3 : b9_10 ≠ b12_3 := Nat.ne_of_lt (hb111 ▸ hm9_10.lt)
            have ne_b9_11_b12_3 : b9_11 ≠ b12_3 := Nat.ne_of_lt (hb111 ▸ hm9_11.lt)
            clear hb111
            have sv113_hB := hB
            have sv113_hm5_3 := hm5_3
            have sv113_hon := hon
            have sv113_hmay := hmay
            have sv113_hm9_9 := hm9_9
            have sv113_hm9_10 := hm9_10
            have sv113_hm9_11 := hm9_11
            replace hB := below_ext hB hE112 (Nat.le_refl _)
            replace hm5_3 := hE112.at hm5_3
            replace hon := hE112.ow hon
            replace hmay := hE112.ow hmay
            replace hm9_9 := hE112.at hm9_9
            replace hm9_10 := hE112.at hm9_10
            replace hm9_11 := hE112.at hm9_11
            replace hS := Gr2.ext hS hE112
            clear hE112
            refine WT_one (dd := some 57) 4 (by kernel_rfl) rfl rfl rfl rfl (Y_appendA (v := onv) (v2 := .slice (some ⟨b12_3, 0, none⟩) 1 1) rfl rfl tb_el35 tb_zs51 (by decide) hon (sl_lit1 hm12_3 rfl) rfl (by have := Below.size hB; omega) (by first | omega | (simp; omega) | (simp only [onTo_len, mayTo_len_]; omega)) (by first | omega | (simp; omega) | (simp only [onTo_len, mayTo_len_]; omega)) (fun v12_4 W114 hG115 ho12_4 hob116 => ⟨.inl (Gr2.one hS hG115), ?_⟩))
            replace hS := Gr2.one hS hG115
            have hap117 := Apart.app hap hob116 hmay
            replace ho12_4 := OwT.snoc (enc := encS) (x := (mkS T o 1)) rfl rfl rfl rfl ho12_4
            clear hm12_3
            replace hB := below_grown hB hG115 (Nat.le_refl _) (fun j hj => (OwT.lt hon j hj))
            replace hm5_3 := At.grownOw hm5_3 hon hG115 (by decide)
            replace hmay := OwT.grownAp hmay hap hG115
            replace hm9_9 := At.grownOwNe hm9_9 no_onv_b9_9 hG115
            replace hm9_10 := At.grownOwNe hm9_10 no_onv_b9_10 hG115
            replace hm9_11 := At.grownOwNe hm9_11 no_onv_b9_11 hG115
            clear hG115
            clear hon
            refine WT_take (dd := some 69) 16 rfl (by kernel_rfl) (by kernel_rfl) (by kernel_rfl) rfl rfl rfl (fun _wq _hq => r_fieldAddr (b := _) (o := _) rfl tb_fo37_1) hS ?_
            refine WT_one (dd := some 66) 13 (by kernel_rfl) rfl rfl rfl rfl (Yd.call (r_call (q := (mnA 57 58 55 T.kind)) (first := #[]) (cap := #[]) (vs := #[.agg #[_, _, _, _], .agg #[_, _, _, _], .agg #[_, _, _, _], .agg #[_, _, _, _]]) rfl (callB_mn T.kind) (by simp only [List.map_toArray, List.map_cons, List.map_nil, List.append_toArray, List.nil_append, List.cons_append]; rfl)) (C_mn T.kind _ _ _ _ _) (fun v12_13 W118 hE119 hP12_13 => ⟨.inl (Gr2.ext hS hE119), ?_⟩))
            have hsz120 := (Below.size hB)
            replace hB := below_ext hB hE119 (Nat.le_refl _)
            replace hm5_3 := hE119.at hm5_3
            replace hmay := hE119.ow hmay
            replace hm9_9 := hE119.at hm9_9
            replace hm9_10 := hE119.at hm9_10
            replace hm9_11 := hE119.at hm9_11
            replace ho12_4 := hE119.ow ho12_4
            replace hS := Gr2.ext hS hE119
            clear hE119
            clear hsz120
            obtain rfl := hP12_13
            refine WT_one (dd := some 67) 14 (by kernel_rfl) rfl rfl rfl rfl (Y_lit1 (u := .agg #[_, _, _, _]) rfl tb_el35 tb_zs51 rfl (by decide) (by decide) (fun b12_14 W121 hb122 hE123 hm12_14 => ⟨.inl (Gr2.ext hS hE123), ?_⟩))
            have lo_b12_14 : W47.heap.size ≤ b12_14 := hb122 ▸ (Below.size hB)
            have ne_b3_6_b12_14 : b3_6 ≠ b12_14 := Nat.ne_of_lt (hb122 ▸ (Below.atI hB hm3_6).lt)
            have no_mayv_b12_14 := OwT.neB (b := b12_14) hmay (Nat.le_of_eq hb122.symm)
            have ne_b9_9_b12_14 : b9_9 ≠ b12_14 := Nat.ne_of_lt (hb122 ▸ hm9_9.lt)
            have ne_b9_10_b12_14 : b9_10 ≠ b12_14 := Nat.ne_of_lt (hb122 ▸ hm9_10.lt)
            have ne_b9_11_b12_14 : b9_11 ≠ b12_14 := Nat.ne_of_lt (hb122 ▸ hm9_11.lt)
            have no_v12_4_b12_14 := OwT.neB (b := b12_14) ho12_4 (Nat.le_of_eq hb122.symm)
            clear hb122
            replace hB := below_ext hB hE123 (Nat.le_refl _)
            replace hm5_3 := hE123.at hm5_3
            replace hmay := hE123.ow hmay
            replace hm9_9 := hE123.at hm9_9
            replace hm9_10 := hE123.at hm9_10
            replace hm9_11 := hE123.at hm9_11
            replace ho12_4 := hE123.ow ho12_4
            replace hS := Gr2.ext hS hE123
            clear hE123
            refine WT_one (dd := some 68) 15 (by kernel_rfl) rfl rfl rfl rfl (Y_appendA (v := mayv) (v2 := .slice (some ⟨b12_14, 0, none⟩) 1 1) rfl rfl tb_el35 tb_zs51 (by decide) hmay (sl_lit1 hm12_14 rfl) rfl (by have := Below.size hB; omega) (by first | omega | (simp; omega) | (simp only [onTo_len, mayTo_len_]; omega)) (by first | omega | (simp; omega) | (simp only [onTo_len, mayTo_len_]; omega)) (fun v12_15 W124 hG125 ho12_15 hob126 => ⟨.inl (Gr2.two hS hG125), ?_⟩))
            replace hS := Gr2.two hS hG125
            have hap127 := Apart.app (Apart.symm hap117) hob126 ho12_4
            replace ho12_15 := OwT.snoc (enc := encS) (x := (mayT T o)) rfl rfl rfl rfl ho12_15
            clear hm12_14
            replace hB := below_grown hB hG125 (Nat.le_refl _) (fun j hj => (OwT.lt hmay j hj))
            replace hm5_3 := At.grownOw hm5_3 hmay hG125 (by decide)
            replace hm9_9 := At.grownOwNe hm9_9 no_mayv_b9_9 hG125
            replace hm9_10 := At.grownOwNe hm9_10 no_mayv_b9_10 hG125
            replace hm9_11 := At.grownOwNe hm9_11 no_mayv_b9_11 hG125
            replace ho12_4 := OwT.grownAp ho12_4 (Apart.symm hap117) hG125
            clear hG125
            clear hmay
            refine WT_one (dd := none) 17 (by kernel_rfl) rfl rfl rfl rfl (Y_store1 (v := v12_4) rfl rfl tb_sc35 (SlT.one ho12_4.sl) hm5_3 (by simp) (fun W128 hG129 hm130 => ⟨.inr (by kernel_rfl), ?_⟩))
            replace hB := below_grown hB hG129 (Nat.le_refl _) (fun j hj => by cases hj; exact lo_b5_3)
            replace hm9_9 := At.grownAt hm9_9 hm5_3 hG129 (by decide)
            replace hm9_10 := At.grownAt hm9_10 hm5_3 hG129 (by decide)
            replace hm9_11 := At.grownAt hm9_11 hm5_3 hG129 (by decide)
            replace ho12_4 := OwT.grownAt ho12_4 hm5_3 hG129 (by decide)
            replace ho12_15 := OwT.grownAt ho12_15 hm5_3 hG129 (by decide)
            clear hG129 hm5_3
            have hm5_3 := hm130
            clear hm130
            replace hm5_3 : At _ _ #[_, _, _] _ := hm5_3
            refine WT_one (dd := some 70) 18 (by kernel_rfl) rfl rfl rfl rfl (Yd.val (r_fieldAddr (b := _) (o := _) rfl tb_fo37_2) ⟨.inr (by kernel_rfl), ?_⟩)
            refine WT_one (dd := none) 19 (by kernel_rfl) rfl rfl rfl rfl (Y_store1 (v := v12_15) rfl rfl tb_sc35 (SlT.one ho12_15.sl) hm5_3 (by simp) (fun W131 hG132 hm133 => ⟨.inr (by kernel_rfl), ?_⟩))
            replace hB := below_grown hB hG132 (Nat.le_refl _) (fun j hj => by cases hj; exact lo_b5_3)
            replace hm9_9 := At.grownAt hm9_9 hm5_3 hG132 (by decide)
            replace hm9_10 := At.grownAt hm9_10 hm5_3 hG132 (by decide)
            replace hm9_11 := At.grownAt hm9_11 hm5_3 hG132 (by decide)
            replace ho12_4 := OwT.grownAt ho12_4 hm5_3 hG132 (by decide)
            replace ho12_15 := OwT.grownAt ho12_15 hm5_3 hG132 (by decide)
            clear hG132 hm5_3
            have hm5_3 := hm133
            clear hm133
            replace hm5_3 : At _ _ #[_, _, _] _ := hm5_3
            refine WT_done (by kernel_rfl) ?_
            try clear sv113_hB sv113_hm9_9 sv113_hm9_10 sv113_hm9_11
            try clear hrow108 hrow109
            refine hK74 _ _ ?_
            clear hK74 K73
            refine WC_region ?_
            refine WL_val (dd := some 71) rfl rfl rfl (r_addI rfl rfl (by omega) (by omega)) ?_
            refine WL_val (dd := some 31) rfl rfl rfl (r_move (v := .int .i64 _) rfl) ?_
            refine WL_nil ?_
            refine hJ68 _ _ ((o + 1, v12_4, v12_15)) ?_ ?_ ?_ ?_
            · repeat (first | exact agree.mask _ _ _ | refine agree.updo ?_ rfl _ | refine agree.updL ?_ _ rfl | refine agree.maskS rfl ?_)
            · exact ⟨rfl, trivial⟩
            · exact ⟨hB, (by exact hm5_3), (by rw [onTo_succ]; exact ho12_4), (by rw [mayTo_succ]; exact ho12_15), (Apart.symm hap127), (by omega), (upTo_succ hq (by first | exact clash_k hs10_2 | exact clash_f hn8 hc2)), trivial⟩
            · show T.no.toNat - (o + 1) < T.no.toNat - o; omega
        ·
          try with_reducible replace hs10_2 := dec_f hs10_2
          refine WL_skip (dd := some 46) rfl rfl rfl ?_
          refine WL_skip (dd := some 47) rfl rfl rfl ?_
          refine WL_skip (dd := some 48) rfl rfl rfl ?_
          refine WL_skip (dd := some 49) rfl rfl rfl ?_
          refine WL_skip (dd := some 50) rfl rfl rfl ?_
          refine WL_val (dd := some 51) rfl rfl rfl (r_pick_f rfl (v := .bool false) rfl) ?_
          refine WL_nil ?_
          refine hK97 _ _ ?_
          clear hK97 K96
          refine WC_cond_false rfl ?_
          refine WC_skip ?_
          refine hK95 _ _ ?_
          clear hK95 K94
          refine WC_draw (fun a b => Gr2 onv.ownBlock mayv.ownBlock a b) tb_mix (fun W134 hE135 => ?_)
          replace hB := below_ext hB hE135 (Nat.le_refl _)
          replace hm5_3 := hE135.at hm5_3
          replace hon := hE135.ow hon
          replace hmay := hE135.ow hmay
          replace hm9_9 := hE135.at hm9_9
          replace hm9_10 := hE135.at hm9_10
          replace hm9_11 := hE135.at hm9_11
          have hrow136 := hon
          have hrow137 := hmay
          have hS : Gr2 onv.ownBlock mayv.ownBlock W134 W134 := Gr2.refl
          refine WT_take (dd := some 53) 0 rfl (by kernel_rfl) (by kernel_rfl) (by kernel_rfl) rfl rfl rfl (fun _wq _hq => r_fieldAddr (b := _) (o := _) rfl tb_fo37_1) hS ?_
          refine WT_take (dd := some 54) 1 rfl (by kernel_rfl) (by kernel_rfl) (by kernel_rfl) rfl rfl rfl (fun _wq hq => r_load1 (v := onv) rfl tb_sc35 (At.cell (At.gr2 hm5_3 hq (own_neT hrow136 hm5_3 (by decide)) (own_neT hrow137 hm5_3 (by decide))) rfl)) hS ?_
          refine WT_take (dd := some 55) 2 rfl (by kernel_rfl) (by kernel_rfl) (by kernel_rfl) rfl rfl rfl (fun _wq hq => r_loadW rfl tb_ag51 rfl (At.gr2 hm9_9 hq (Ne.symm no_onv_b9_9) (Ne.symm no_mayv_b9_9))) hS ?_
          refine WT_take (dd := some 58) 5 rfl (by kernel_rfl) (by kernel_rfl) (by kernel_rfl) rfl rfl rfl (fun _wq _hq => r_fieldAddr (b := _) (o := _) rfl tb_fo37_2) hS ?_
          refine WT_take (dd := some 59) 6 rfl (by kernel_rfl) (by kernel_rfl) (by kernel_rfl) rfl rfl rfl (fun _wq hq => r_load1 (v := mayv) rfl tb_sc35 (At.cell (At.gr2 hm5_3 hq (own_neT hrow136 hm5_3 (by decide)) (own_neT hrow137 hm5_3 (by decide))) rfl)) hS ?_
          refine WT_take (dd := some 60) 7 rfl (by kernel_rfl) (by kernel_rfl) (by kernel_rfl) rfl rfl rfl (fun _wq _hq => r_fieldAddr (b := _) (o := _) rfl tb_fo71_0) hS ?_
          refine WT_take (dd := some 61) 8 rfl (by kernel_rfl) (by kernel_rfl) (by kernel_rfl) rfl rfl rfl (fun _wq hq => r_load1 (v := .func (.func (mnA 57 58 55 T.kind)) #[] #[]) rfl tb_sc69 (At.cell (Below.atI (below_gr2 hB hq (Nat.le_refl _) (OwT.lt hrow136) (OwT.lt hrow137)) hm4_4) rfl)) hS ?_
          refine WT_take (dd := some 62) 9 rfl (by kernel_rfl) (by kernel_rfl) (by kernel_rfl) rfl rfl rfl (fun _wq hq => r_loadW rfl tb_ag51 rfl (Below.atI (below_gr2 hB hq (Nat.le_refl _) (OwT.lt hrow136) (OwT.lt hrow137)) hm3_6)) hS ?_
          refine WT_take (dd := some 63) 10 rfl (by kernel_rfl) (by kernel_rfl) (by kernel_rfl) rfl rfl rfl (fun _wq hq => r_loadW rfl tb_ag51 rfl (At.gr2 hm9_9 hq (Ne.symm no_onv_b9_9) (Ne.symm no_mayv_b9_9))) hS ?_
          refine WT_take (dd := some 64) 11 rfl (by kernel_rfl) (by kernel_rfl) (by kernel_rfl) rfl rfl rfl (fun _wq hq => r_loadW rfl tb_ag51 rfl (At.gr2 hm9_10 hq (Ne.symm no_onv_b9_10) (Ne.symm no_mayv_b9_10))) hS ?_
          refine WT_take (dd := some 65) 12 rfl (by kernel_rfl) (by kernel_rfl) (by kernel_rfl) rfl rfl rfl (fun _wq hq => r_loadW rfl tb_ag51 rfl (At.gr2 hm9_11 hq (Ne.symm no_onv_b9_11) (Ne.symm no_mayv_b9_11))) hS ?_
          refine WT_one (dd := some 56) 3 (by kernel_rfl) rfl rfl rfl rfl (Y_lit1 (u := .agg #[_, _, _, _]) rfl tb_el35 tb_zs51 rfl (by decide) (by decide) (fun b12_3 W138 hb139 hE140 hm12_3 => ⟨.inl (Gr2.ext hS hE140), ?_⟩))
          have lo_b12_3 : W47.heap.size ≤ b12_3 := hb139 ▸ (Below.size hB)
          have ne_b3_6_b12_3 : b3_6 ≠ b12_3 := Nat.ne_of_lt (hb139 ▸ (Below.atI hB hm3_6).lt)
          have no_onv_b12_3 := OwT.neB (b := b12_3) hon (Nat.le_of_eq hb139.symm)
          have no_mayv_b12_3 := OwT.neB (b := b12_3) hmay (Nat.le_of_eq hb139.symm)
          have ne_b9_9_b12_3 : b9_9 ≠ b12_3 := Nat.ne_of_lt (hb139 ▸ hm9_9.lt)
          have ne_b9_10_b12_3 : b9_10 ≠ b12_3 := Nat.ne_of_lt (hb139 ▸ hm9_10.lt)
          have ne_b9_11_b12_3 : b9_11 ≠ b12_3 := Nat.ne_of_lt (hb139 ▸ hm9_11.lt)
          clear hb139
          have sv141_hB := hB
          have sv141_hm5_3 := hm5_3
          have sv141_hon := hon
          have sv141_hmay := hmay
          have sv141_hm9_9 := hm9_9
          have sv141_hm9_10 := hm9_10
          have sv141_hm9_11 := hm9_11
          replace hB := below_ext hB hE140 (Nat.le_refl _)
          replace hm5_3 := hE140.at hm5_3
          replace hon := hE140.ow hon
          replace hmay := hE140.ow hmay
          replace hm9_9 := hE140.at hm9_9
          replace hm9_10 := hE140.at hm9_10
          replace hm9_11 := hE140.at hm9_11
          replace hS := Gr2.ext hS hE140
          clear hE140
          refine WT_one (dd := some 57) 4 (by kernel_rfl) rfl rfl rfl rfl (Y_appendA (v := onv) (v2 := .slice (some ⟨b12_3, 0, none⟩) 1 1) rfl rfl tb_el35 tb_zs51 (by decide) hon (sl_lit1 hm12_3 rfl) rfl (by have := Below.size hB; omega) (by first | omega | (simp; omega) | (simp only [onTo_len, mayTo_len_]; omega)) (by first | omega | (simp; omega) | (simp only [onTo_len, mayTo_len_]; omega)) (fun v12_4 W142 hG143 ho12_4 hob144 => ⟨.inl (Gr2.one hS hG143), ?_⟩))
          replace hS := Gr2.one hS hG143
          have hap145 := Apart.app hap hob144 hmay
          replace ho12_4 := OwT.snoc (enc := encS) (x := (mkS T o 1)) rfl rfl rfl rfl ho12_4
          clear hm12_3
          replace hB := below_grown hB hG143 (Nat.le_refl _) (fun j hj => (OwT.lt hon j hj))
          replace hm5_3 := At.grownOw hm5_3 hon hG143 (by decide)
          replace hmay := OwT.grownAp hmay hap hG143
          replace hm9_9 := At.grownOwNe hm9_9 no_onv_b9_9 hG143
          replace hm9_10 := At.grownOwNe hm9_10 no_onv_b9_10 hG143
          replace hm9_11 := At.grownOwNe hm9_11 no_onv_b9_11 hG143
          clear hG143
          clear hon
          refine WT_take (dd := some 69) 16 rfl (by kernel_rfl) (by kernel_rfl) (by kernel_rfl) rfl rfl rfl (fun _wq _hq => r_fieldAddr (b := _) (o := _) rfl tb_fo37_1) hS ?_
          refine WT_one (dd := some 66) 13 (by kernel_rfl) rfl rfl rfl rfl (Yd.call (r_call (q := (mnA 57 58 55 T.kind)) (first := #[]) (cap := #[]) (vs := #[.agg #[_, _, _, _], .agg #[_, _, _, _], .agg #[_, _, _, _], .agg #[_, _, _, _]]) rfl (callB_mn T.kind) (by simp only [List.map_toArray, List.map_cons, List.map_nil, List.append_toArray, List.nil_append, List.cons_append]; rfl)) (C_mn T.kind _ _ _ _ _) (fun v12_13 W146 hE147 hP12_13 => ⟨.inl (Gr2.ext hS hE147), ?_⟩))
          have hsz148 := (Below.size hB)
          replace hB := below_ext hB hE147 (Nat.le_refl _)
          replace hm5_3 := hE147.at hm5_3
          replace hmay := hE147.ow hmay
          replace hm9_9 := hE147.at hm9_9
          replace hm9_10 := hE147.at hm9_10
          replace hm9_11 := hE147.at hm9_11
          replace ho12_4 := hE147.ow ho12_4
          replace hS := Gr2.ext hS hE147
          clear hE147
          clear hsz148
          obtain rfl := hP12_13
          refine WT_one (dd := some 67) 14 (by kernel_rfl) rfl rfl rfl rfl (Y_lit1 (u := .agg #[_, _, _, _]) rfl tb_el35 tb_zs51 rfl (by decide) (by decide) (fun b12_14 W149 hb150 hE151 hm12_14 => ⟨.inl (Gr2.ext hS hE151), ?_⟩))
          have lo_b12_14 : W47.heap.size ≤ b12_14 := hb150 ▸ (Below.size hB)
          have ne_b3_6_b12_14 : b3_6 ≠ b12_14 := Nat.ne_of_lt (hb150 ▸ (Below.atI hB hm3_6).lt)
          have no_mayv_b12_14 := OwT.neB (b := b12_14) hmay (Nat.le_of_eq hb150.symm)
          have ne_b9_9_b12_14 : b9_9 ≠ b12_14 := Nat.ne_of_lt (hb150 ▸ hm9_9.lt)
          have ne_b9_10_b12_14 : b9_10 ≠ b12_14 := Nat.ne_of_lt (hb150 ▸ hm9_10.lt)
          have ne_b9_11_b12_14 : b9_11 ≠ b12_14 := Nat.ne_of_lt (hb150 ▸ hm9_11.lt)
          have no_v12_4_b12_14 := OwT.neB (b := b12_14) ho12_4 (Nat.le_of_eq hb150.symm)
          clear hb150
          replace hB := below_ext hB hE151 (Nat.le_refl _)
          replace hm5_3 := hE151.at hm5_3
          replace hmay := hE151.ow hmay
          replace hm9_9 := hE151.at hm9_9
          replace hm9_10 := hE151.at hm9_10
          replace hm9_11 := hE151.at hm9_11
          replace ho12_4 := hE151.ow ho12_4
          replace hS := Gr2.ext hS hE151
          clear hE151
          refine WT_one (dd := some 68) 15 (by kernel_rfl) rfl rfl rfl rfl (Y_appendA (v := mayv) (v2 := .slice (some ⟨b12_14, 0, none⟩) 1 1) rfl rfl tb_el35 tb_zs51 (by decide) hmay (sl_lit1 hm12_14 rfl) rfl (by have := Below.size hB; omega) (by first | omega | (simp; omega) | (simp only [onTo_len, mayTo_len_]; omega)) (by first | omega | (simp; omega) | (simp only [onTo_len, mayTo_len_]; omega)) (fun v12_15 W152 hG153 ho12_15 hob154 => ⟨.inl (Gr2.two hS hG153), ?_⟩))
          replace hS := Gr2.two hS hG153
          have hap155 := Apart.app (Apart.symm hap145) hob154 ho12_4
          replace ho12_15 := OwT.snoc (enc := encS) (x := (mayT T o)) rfl rfl rfl rfl ho12_15
          clear hm12_14
          replace hB := below_grown hB hG153 (Nat.le_refl _) (fun j hj => (OwT.lt hmay j hj))
          replace hm5_3 := At.grownOw hm5_3 hmay hG153 (by decide)
          replace hm9_9 := At.grownOwNe hm9_9 no_mayv_b9_9 hG153
          replace hm9_10 := At.grownOwNe hm9_10 no_mayv_b9_10 hG153
          replace hm9_11 := At.grownOwNe hm9_11 no_mayv_b9_11 hG153
          replace ho12_4 := OwT.grownAp ho12_4 (Apart.symm hap145) hG153
          clear hG153
          clear hmay
          refine WT_one (dd := none) 17 (by kernel_rfl) rfl rfl rfl rfl (Y_store1 (v := v12_4) rfl rfl tb_sc35 (SlT.one ho12_4.sl) hm5_3 (by simp) (fun W156 hG157 hm158 => ⟨.inr (by kernel_rfl), ?_⟩))
          replace hB := below_grown hB hG157 (Nat.le_refl _) (fun j hj => by cases hj; exact lo_b5_3)
          replace hm9_9 := At.grownAt hm9_9 hm5_3 hG157 (by decide)
          replace hm9_10 := At.grownAt hm9_10 hm5_3 hG157 (by decide)
          replace hm9_11 := At.grownAt hm9_11 hm5_3 hG157 (by decide)
          replace ho12_4 := OwT.grownAt ho12_4 hm5_3 hG157 (by decide)
          replace ho12_15 := OwT.grownAt ho12_15 hm5_3 hG157 (by decide)
          clear hG157 hm5_3
          have hm5_3 := hm158
          clear hm158
          replace hm5_3 : At _ _ #[_, _, _] _ := hm5_3
          refine WT_one (dd := some 70) 18 (by kernel_rfl) rfl rfl rfl rfl (Yd.val (r_fieldAddr (b := _) (o := _) rfl tb_fo37_2) ⟨.inr (by kernel_rfl), ?_⟩)
          refine WT_one (dd := none) 19 (by kernel_rfl) rfl rfl rfl rfl (Y_store1 (v := v12_15) rfl rfl tb_sc35 (SlT.one ho12_15.sl) hm5_3 (by simp) (fun W159 hG160 hm161 => ⟨.inr (by kernel_rfl), ?_⟩))
          replace hB := below_grown hB hG160 (Nat.le_refl _) (fun j hj => by cases hj; exact lo_b5_3)
          replace hm9_9 := At.grownAt hm9_9 hm5_3 hG160 (by decide)
          replace hm9_10 := At.grownAt hm9_10 hm5_3 hG160 (by decide)
          replace hm9_11 := At.grownAt hm9_11 hm5_3 hG160 (by decide)
          replace ho12_4 := OwT.grownAt ho12_4 hm5_3 hG160 (by decide)
          replace ho12_15 := OwT.grownAt ho12_15 hm5_3 hG160 (by decide)
          clear hG160 hm5_3
          have hm5_3 := hm161
          clear hm161
          replace hm5_3 : At _ _ #[_, _, _] _ := hm5_3
          refine WT_done (by kernel_rfl) ?_
          try clear sv141_hB sv141_hm9_9 sv141_hm9_10 sv141_hm9_11
          try clear hrow136 hrow137
          refine hK74 _ _ ?_
          clear hK74 K73
          refine WC_region ?_
          refine WL_val (dd := some 71) rfl rfl rfl (r_addI rfl rfl (by omega) (by omega)) ?_
          refine WL_val (dd := some 31) rfl rfl rfl (r_move (v := .int .i64 _) rfl) ?_
          refine WL_nil ?_
          refine hJ68 _ _ ((o + 1, v12_4, v12_15)) ?_ ?_ ?_ ?_
          · repeat (first | exact agree.mask _ _ _ | refine agree.updo ?_ rfl _ | refine agree.updL ?_ _ rfl | refine agree.maskS rfl ?_)
          · exact ⟨rfl, trivial⟩
          · exact ⟨hB, (by exact hm5_3), (by rw [onTo_succ]; exact ho12_4), (by rw [mayTo_succ]; exact ho12_15), (Apart.symm hap155), (by omega), (upTo_succ hq (by first | exact clash_k hs10_2 | exact clash_f hn8 hc2)), trivial⟩
          · show T.no.toNat - (o + 1) < T.no.toNat - o; omega
      ·
        try with_reducible replace hc1 := dec_f hc1
        refine WC_exit ?_
        refine hK62 _ _ ?_
        clear hK72 K71
        clear hJ68 J67
        clear hK62 K61
        refine WC_seq (fun K162 hK163 => ?_)
        try clear hz53
        try clear hz54
        replace hm0_0 := Below.atI hB hm0_0
        replace hm0_1 := Below.atI hB hm0_1
        replace hm3_6 := Below.atI hB hm3_6
        replace hm4_4 := Below.atI hB hm4_4
        have hzs := Nat.le_trans (Nat.le_refl _) (Below.size hBo52)
        replace lo_b5_3 := Nat.le_trans hzs lo_b5_3
        replace hon := OwT.mono hon hzs
        replace hmay := OwT.mono hmay hzs
        replace hB := Below.trans hBo52 (Below.mono hB hzs)
        clear hBo52 hzs
        refine WC_region ?_
        refine WL_val (dd := some 72) rfl rfl rfl (r_loadW rfl tb_ag37 rfl hm5_3) ?_
        refine WL_step (dd := none) rfl rfl rfl (Y_storeW rfl rfl tb_ag37 rfl hm0_1 rfl (by exact one_sp (SlT.one (OwT.sl hon)) (SlT.one (OwT.sl hmay))) (fun W164 hG165 hm166 => ?_))
        replace hm0_0 := At.grownAt hm0_0 hm0_1 hG165 (by decide)
        replace hm3_6 := At.grownAt hm3_6 hm0_1 hG165 (by decide)
        replace hm4_4 := At.grownAt hm4_4 hm0_1 hG165 (by decide)
        replace hB := below_grown hB hG165 (Nat.le_refl _) (fun j hj => by cases hj; exact lo_b0_1)
        replace hm5_3 := At.grownNe hm5_3 (Ne.symm ne_b0_1_b5_3) hG165
        replace hon := OwT.grownAt hon hm0_1 hG165 (by decide)
        replace hmay := OwT.grownAt hmay hm0_1 hG165 (by decide)
        clear hG165 hm0_1
        have hm0_1 := hm166
        clear hm166
        refine WL_val (dd := some 3) rfl rfl rfl (r_assign (v := .int .i64 0) rfl) ?_
        refine WL_nil ?_
        refine hK163 _ _ ?_
        clear hK163 K162
        refine WC_ret ?_
        repeat (first | refine thenQ_ret ?_ | refine blockQ_ret ?_)
        refine ret_ct rfl tb_ag37 hm0_1 rfl (v1 := .int .i64 0) rfl ?_
        refine ⟨hB, ?_⟩
        first | (rw [ofE_1 (by simpa using hc0)]; exact .inr ⟨by decide, rfl⟩) | (rw [ofE_4 (o := o) hr (by omega) (clash_t hs10_2 hn8 hc2)]; exact .inr ⟨by decide, rfl⟩) | (have ho2 : o = T.no.toNat := (by omega); subst ho2; exact .inl ⟨ofE_0 hr hq, onv, mayv, rfl, hon, hmay⟩)
    ·
      have lo_b4_4 : w.heap.size ≤ b4_4 := hb41 ▸ (Below.size hB)
      clear hb41
      have sv43_hB := hB
      have sv43_hm0_0 := hm0_0
      have sv43_hm0_1 := hm0_1
      have sv43_hm3_6 := hm3_6
      replace hB := below_ext hB hE42 (Nat.le_refl _)
      replace hm0_0 := hE42.at hm0_0
      replace hm0_1 := hE42.at hm0_1
      replace hm3_6 := hE42.at hm3_6
      replace hS := hS.trans hE42
      clear hE42
      refine WT_one (dd := some 22) 0 (by kernel_rfl) rfl rfl rfl rfl (Yd.call (r_call0 tb_c34) (C_spec_meanings _) (fun v4_0 W167 hE168 hP4_0 => ⟨.inl (hS.trans hE168), ?_⟩))
      have hsz169 := (Below.size hB)
      replace hB := below_ext hB hE168 (Nat.le_refl _)
      replace hm0_0 := hE168.at hm0_0
      replace hm0_1 := hE168.at hm0_1
      replace hm3_6 := hE168.at hm3_6
      replace hm4_4 := hE168.at hm4_4
      replace hS := hS.trans hE168
      clear hE168
      clear hsz169
      obtain rfl := hP4_0
      refine WT_take (dd := some 25) 3 rfl (by kernel_rfl) (by kernel_rfl) (by kernel_rfl) rfl rfl rfl (fun _wq _hq => r_indexMn rfl rfl Tryd.underlying72 Tryd.underlying71 (by kernel_rfl) hk0 hk3) hS ?_
      refine WT_one (dd := none) 5 (by kernel_rfl) rfl rfl rfl rfl (Y_storeW rfl rfl tb_ag71 rfl hm4_4 rfl (by rfl) (fun W170 hG171 hm172 => ⟨.inr (by kernel_rfl), ?_⟩))
      replace hB := below_grown hB hG171 (Nat.le_refl _) (fun j hj => by cases hj; exact lo_b4_4)
      replace hm0_0 := At.grownAt hm0_0 hm4_4 hG171 (by decide)
      replace hm0_1 := At.grownAt hm0_1 hm4_4 hG171 (by decide)
      replace hm3_6 := At.grownAt hm3_6 hm4_4 hG171 (by decide)
      clear hG171 hm4_4
      have hm4_4 := hm172
      clear hm172
      refine WT_done (by kernel_rfl) ?_
      try clear sv43_hB sv43_hm0_0 sv43_hm0_1 sv43_hm3_6
      refine hK33 _ _ ?_
      clear hK33 K32
      refine WC_seq (fun K173 hK174 => ?_)
      have hz176 := Below.slT hB hlv
      have hz177 := LsAt.below hB hls
      have hBo175 := hB
      replace hB := Below.refl W170.heap.size W170
      refine WC_region ?_
      refine WL_val (dd := some 26) rfl rfl rfl (r_fieldAddr (b := _) (o := _) rfl tb_fo24_1) ?_
      refine WL_val (dd := some 27) rfl rfl rfl (r_load1 (v := .int .i64 _) rfl tb_sc3 (At.cell (Below.atI hB hm0_0) rfl)) ?_
      refine WL_val (dd := some 28) rfl rfl rfl (tb_build37_0 (h0 := rfl) (k0 := rfl) (c0_0 := .int .i64 _)) ?_
      refine WL_step (dd := some 7) rfl rfl rfl (Y_alloc tb_z37 rfl (fun b5_3 W178 hb179 hE180 hm5_3 => ?_))
      have lo_b5_3 : W170.heap.size ≤ b5_3 := hb179 ▸ (Below.size hB)
      have ne_b0_1_b5_3 : b0_1 ≠ b5_3 := Nat.ne_of_lt (hb179 ▸ (Below.atI hB hm0_1).lt)
      clear hb179
      replace hB := below_ext hB hE180 (Nat.le_refl _)
      clear hE180
      refine WL_step (dd := none) rfl rfl rfl (Y_storeW rfl rfl tb_ag37 rfl hm5_3 rfl (by rfl) (fun W181 hG182 hm183 => ?_))
      replace hB := below_grown hB hG182 (Nat.le_refl _) (fun j hj => by cases hj; exact lo_b5_3)
      clear hG182 hm5_3
      have hm5_3 := hm183
      clear hm183
      refine WL_nil ?_
      refine hK174 _ _ ?_
      clear hK174 K173
      refine WC_seq (fun K184 hK185 => ?_)
      refine WC_seq (fun K186 hK187 => ?_)
      refine WC_region ?_
      refine WL_val (dd := some 29) rfl rfl rfl (r_fieldAddr (b := _) (o := _) rfl tb_fo24_2) ?_
      refine WL_val (dd := some 30) rfl rfl rfl (r_load1 (v := .int .i64 _) rfl tb_sc3 (At.cell (Below.atI hB hm0_0) rfl)) ?_
      refine WL_val (dd := some 31) rfl rfl rfl (r_move (v := .int .i64 0) rfl) ?_
      refine WL_nil ?_
      refine hK187 _ _ ?_
      clear hK187 K186
      refine WC_block ?_
      refine WC_loop (σ := (Nat) × (Value) × (Value)) [3, 8, 9, 10, 11, 31, 32, 33, 34, 35, 36, 37, 38, 39, 40, 41, 42, 43, 44, 45, 46, 47, 48, 49, 50, 51, 52, 53, 54, 55, 56, 57, 58, 59, 60, 61, 62, 63, 64, 65, 66, 67, 68, 69, 70, 71] (fun (o, onv, mayv) => [(31, .int .i64 (o : Int))]) (fun sg W => match sg with | (o, onv, mayv) => (Below W170.heap.size W170 W) ∧ (At W b5_3 #[.int .i64 T.ni, onv, mayv] 37) ∧ (OwT encS 4 51 W W170.heap.size onv (onTo T o)) ∧ (OwT encS 4 51 W W170.heap.size mayv (mayTo_ T o)) ∧ (Apart onv mayv) ∧ ((o : Int) ≤ T.no) ∧ (∀ q, q < o → clash T q = false) ∧ (True)) (fun (o, onv, mayv) => T.no.toNat - o) ((0, .slice none 0 0, .slice none 0 0)) ⟨rfl, trivial⟩ ⟨hB, hm5_3, OwT.nil, OwT.nil, Apart.nilL, (by omega), upTo_zero, trivial⟩ ?_
      clear hB hm5_3
      rintro ⟨o, onv, mayv⟩ g189 W188 ⟨hB, hm5_3, hon, hmay, hap, ho, hq, _⟩ J190 hJ191
      refine WC_seq (fun K192 hK193 => ?_)
      refine WC_region ?_
      refine WL_val (dd := some 32) rfl rfl rfl (r_lss rfl rfl) ?_
      refine WL_nil ?_
      refine hK193 _ _ ?_
      clear hK193 K192
      refine WC_seq (fun K194 hK195 => ?_)
      refine WC_cond (b := _) rfl (fun hc1 => ?_) (fun hc1 => ?_)
      ·
        try with_reducible replace hc1 := dec_t hc1
        refine WC_skip ?_
        refine hK195 _ _ ?_
        clear hK195 K194
        refine WC_seq (fun K196 hK197 => ?_)
        refine WC_block ?_
        refine WC_seq (fun K198 hK199 => ?_)
        refine WC_region ?_
        refine WL_val (dd := some 33) rfl rfl rfl (r_move (v := .int .i64 _) rfl) ?_
        refine WL_val (dd := some 8) rfl rfl rfl (r_assign (v := .int .i64 _) rfl) ?_
        refine WL_nil ?_
        refine hK199 _ _ ?_
        clear hK199 K198
        refine WC_seq (fun K200 hK201 => ?_)
        refine WC_draw Ext tb_mix (fun W202 hE203 => ?_)
        replace hB := below_ext hB hE203 (Nat.le_refl _)
        replace hm5_3 := hE203.at hm5_3
        replace hon := hE203.ow hon
        replace hmay := hE203.ow hmay
        have hS := Ext.refl W202
        refine WT_take (dd := some 34) 0 rfl (by kernel_rfl) (by kernel_rfl) (by kernel_rfl) rfl rfl rfl (fun _wq hq => r_loadW rfl tb_ag24 rfl (hq.at (Below.atI hB hm0_0))) hS ?_
        refine WT_take (dd := some 35) 1 rfl (by kernel_rfl) (by kernel_rfl) (by kernel_rfl) rfl rfl rfl (fun _wq _hq => r_move (v := .int .i64 _) rfl) hS ?_
        refine WT_take (dd := some 37) 3 rfl (by kernel_rfl) (by kernel_rfl) (by kernel_rfl) rfl rfl rfl (fun _wq hq => r_loadW rfl tb_ag24 rfl (hq.at (Below.atI hB hm0_0))) hS ?_
        refine WT_take (dd := some 38) 4 rfl (by kernel_rfl) (by kernel_rfl) (by kernel_rfl) rfl rfl rfl (fun _wq _hq => r_move (v := .int .i64 _) rfl) hS ?_
        refine WT_take (dd := some 40) 6 rfl (by kernel_rfl) (by kernel_rfl) (by kernel_rfl) rfl rfl rfl (fun _wq hq => r_loadW rfl tb_ag24 rfl (hq.at (Below.atI hB hm0_0))) hS ?_
        refine WT_take (dd := some 41) 7 rfl (by kernel_rfl) (by kernel_rfl) (by kernel_rfl) rfl rfl rfl (fun _wq _hq => r_move (v := .int .i64 _) rfl) hS ?_
        refine WT_par (m := 6) (A := [2, 5, 8, 9, 10, 11]) (L1 := #[true, true, true, true, true, true, true, true, true, true, true, true, false, false, false]) (T := [36, 39, 42, 9, 10, 11]) (fun L g W => ∃ b9_9 b9_10 b9_11 : Nat, (Ext W202 W) ∧ (Below W170.heap.size W170 W) ∧ (At W b5_3 _ 37) ∧ (OwT encS 4 51 W W170.heap.size onv _) ∧ (OwT encS 4 51 W W170.heap.size mayv _) ∧ ((L.getD 2 false = true → g 36 = setV (mkS T o 1))) ∧ ((L.getD 5 false = true → g 39 = setV (mkS T o 0))) ∧ ((L.getD 8 false = true → g 42 = setV (mkS T o 2))) ∧ ((L.getD 9 false = true → g 9 = .pointer (some ⟨b9_9, 0, none⟩) ∧ At W b9_9 #[wv 0 0, wv 0 1, wv 0 2, wv 0 3] 51 ∧ W170.heap.size ≤ b9_9 ∧ Value.ownBlock onv ≠ some b9_9 ∧ Value.ownBlock mayv ≠ some b9_9)) ∧ ((L.getD 10 false = true → g 10 = .pointer (some ⟨b9_10, 0, none⟩) ∧ At W b9_10 #[wv 0 0, wv 0 1, wv 0 2, wv 0 3] 51 ∧ W170.heap.size ≤ b9_10 ∧ Value.ownBlock onv ≠ some b9_10 ∧ Value.ownBlock mayv ≠ some b9_10)) ∧ ((L.getD 11 false = true → g 11 = .pointer (some ⟨b9_11, 0, none⟩) ∧ At W b9_11 #[wv 0 0, wv 0 1, wv 0 2, wv 0 3] 51 ∧ W170.heap.size ≤ b9_11 ∧ Value.ownBlock onv ≠ some b9_11 ∧ Value.ownBlock mayv ≠ some b9_11)) ∧ ((L.getD 9 false = true → L.getD 10 false = true → b9_9 ≠ b9_10)) ∧ ((L.getD 9 false = true → L.getD 11 false = true → b9_9 ≠ b9_11)) ∧ ((L.getD 10 false = true → L.getD 11 false = true → b9_10 ≠ b9_11)) ∧ (True)) (by kernel_rfl) ⟨0, 0, 0, hS, hB, hm5_3, hon, hmay, (fun h => Bool.noConfusion (show false = true from h)), (fun h => Bool.noConfusion (show false = true from h)), (fun h => Bool.noConfusion (show false = true from h)), (fun h => Bool.noConfusion (show false = true from h)), (fun h => Bool.noConfusion (show false = true from h)), (fun h => Bool.noConfusion (show false = true from h)), (fun h => Bool.noConfusion (show false = true from h)), (fun h => Bool.noConfusion (show false = true from h)), (fun h => Bool.noConfusion (show false = true from h)), trivial⟩ ?_ ?_
        ·
          clear hS hB hm5_3 hon hmay
          rintro i hi L g W204 hlt ⟨b9_9, b9_10, b9_11, hS, hB, hm5_3, hon, hmay, hp2, hp5, hp8, hp9, hp10, hp11, hn9_10, hn9_11, hn10_11, _⟩
          have hi2 : i = 2 ∨ i = 5 ∨ i = 8 ∨ i = 9 ∨ i = 10 ∨ i = 11 := by simpa using hi
          rcases hi2 with rfl | rfl | rfl | rfl | rfl | rfl
          ·
            refine ⟨_, 36, rfl, rfl, rfl, rfl, rfl, ?_⟩
            refine Yd.call (r_call3 tb_c35 (v0 := .agg #[_, _, _, _]) rfl (v1 := .int .i64 _) rfl (v2 := .int .i64 1) rfl) (C_spec_marked T _ vs o 1 _ (Below.slT hB hz176) (LsAt.below hB hz177) hmb hr (by omega)) (fun v W' hE hP => ⟨.inl (hS.trans hE), ?_⟩)
            obtain rfl := hP
            exact ⟨b9_9, b9_10, b9_11, hS.trans hE, below_ext hB hE (Nat.le_refl _), hE.at hm5_3, hE.ow hon, hE.ow hmay, (fun _ => rfl), (fun h => hp5 (put_ne (by decide) h)), (fun h => hp8 (put_ne (by decide) h)), (fun h => let q := hp9 (put_ne (by decide) h); ⟨q.1, hE.at q.2.1, q.2.2⟩), (fun h => let q := hp10 (put_ne (by decide) h); ⟨q.1, hE.at q.2.1, q.2.2⟩), (fun h => let q := hp11 (put_ne (by decide) h); ⟨q.1, hE.at q.2.1, q.2.2⟩), (fun h k => hn9_10 (put_ne (by decide) h) (put_ne (by decide) k)), (fun h k => hn9_11 (put_ne (by decide) h) (put_ne (by decide) k)), (fun h k => hn10_11 (put_ne (by decide) h) (put_ne (by decide) k)), trivial⟩
          ·
            refine ⟨_, 39, rfl, rfl, rfl, rfl, rfl, ?_⟩
            refine Yd.call (r_call3 tb_c35 (v0 := .agg #[_, _, _, _]) rfl (v1 := .int .i64 _) rfl (v2 := .int .i64 0) rfl) (C_spec_marked T _ vs o 0 _ (Below.slT hB hz176) (LsAt.below hB hz177) hmb hr (by omega)) (fun v W' hE hP => ⟨.inl (hS.trans hE), ?_⟩)
            obtain rfl := hP
            exact ⟨b9_9, b9_10, b9_11, hS.trans hE, below_ext hB hE (Nat.le_refl _), hE.at hm5_3, hE.ow hon, hE.ow hmay, (fun h => hp2 (put_ne (by decide) h)), (fun _ => rfl), (fun h => hp8 (put_ne (by decide) h)), (fun h => let q := hp9 (put_ne (by decide) h); ⟨q.1, hE.at q.2.1, q.2.2⟩), (fun h => let q := hp10 (put_ne (by decide) h); ⟨q.1, hE.at q.2.1, q.2.2⟩), (fun h => let q := hp11 (put_ne (by decide) h); ⟨q.1, hE.at q.2.1, q.2.2⟩), (fun h k => hn9_10 (put_ne (by decide) h) (put_ne (by decide) k)), (fun h k => hn9_11 (put_ne (by decide) h) (put_ne (by decide) k)), (fun h k => hn10_11 (put_ne (by decide) h) (put_ne (by decide) k)), trivial⟩
          ·
            refine ⟨_, 42, rfl, rfl, rfl, rfl, rfl, ?_⟩
            refine Yd.call (r_call3 tb_c35 (v0 := .agg #[_, _, _, _]) rfl (v1 := .int .i64 _) rfl (v2 := .int .i64 2) rfl) (C_spec_marked T _ vs o 2 _ (Below.slT hB hz176) (LsAt.below hB hz177) hmb hr (by omega)) (fun v W' hE hP => ⟨.inl (hS.trans hE), ?_⟩)
            obtain rfl := hP
            exact ⟨b9_9, b9_10, b9_11, hS.trans hE, below_ext hB hE (Nat.le_refl _), hE.at hm5_3, hE.ow hon, hE.ow hmay, (fun h => hp2 (put_ne (by decide) h)), (fun h => hp5 (put_ne (by decide) h)), (fun _ => rfl), (fun h => let q := hp9 (put_ne (by decide) h); ⟨q.1, hE.at q.2.1, q.2.2⟩), (fun h => let q := hp10 (put_ne (by decide) h); ⟨q.1, hE.at q.2.1, q.2.2⟩), (fun h => let q := hp11 (put_ne (by decide) h); ⟨q.1, hE.at q.2.1, q.2.2⟩), (fun h k => hn9_10 (put_ne (by decide) h) (put_ne (by decide) k)), (fun h k => hn9_11 (put_ne (by decide) h) (put_ne (by decide) k)), (fun h k => hn10_11 (put_ne (by decide) h) (put_ne (by decide) k)), trivial⟩
          ·
            refine ⟨_, 9, rfl, rfl, rfl, rfl, rfl, ?_⟩
            refine Y_alloc tb_z51 rfl (fun b W' hb hE hm => ⟨.inl (hS.trans hE), ?_⟩)
            exact ⟨b, b9_10, b9_11, hS.trans hE, below_ext hB hE (Nat.le_refl _), hE.at hm5_3, hE.ow hon, hE.ow hmay, (fun h => hp2 (put_ne (by decide) h)), (fun h => hp5 (put_ne (by decide) h)), (fun h => hp8 (put_ne (by decide) h)), (fun _ => ⟨rfl, hm, hb ▸ (Below.size hB), OwT.neB hon (Nat.le_of_eq hb.symm), OwT.neB hmay (Nat.le_of_eq hb.symm)⟩), (fun h => let q := hp10 (put_ne (by decide) h); ⟨q.1, hE.at q.2.1, q.2.2⟩), (fun h => let q := hp11 (put_ne (by decide) h); ⟨q.1, hE.at q.2.1, q.2.2⟩), (fun _ k => Nat.ne_of_gt (hb ▸ (hp10 (put_ne (by decide) k)).2.1.lt)), (fun _ k => Nat.ne_of_gt (hb ▸ (hp11 (put_ne (by decide) k)).2.1.lt)), (fun h k => hn10_11 (put_ne (by decide) h) (put_ne (by decide) k)), trivial⟩
          ·
            refine ⟨_, 10, rfl, rfl, rfl, rfl, rfl, ?_⟩
            refine Y_alloc tb_z51 rfl (fun b W' hb hE hm => ⟨.inl (hS.trans hE), ?_⟩)
            exact ⟨b9_9, b, b9_11, hS.trans hE, below_ext hB hE (Nat.le_refl _), hE.at hm5_3, hE.ow hon, hE.ow hmay, (fun h => hp2 (put_ne (by decide) h)), (fun h => hp5 (put_ne (by decide) h)), (fun h => hp8 (put_ne (by decide) h)), (fun h => let q := hp9 (put_ne (by decide) h); ⟨q.1, hE.at q.2.1, q.2.2⟩), (fun _ => ⟨rfl, hm, hb ▸ (Below.size hB), OwT.neB hon (Nat.le_of_eq hb.symm), OwT.neB hmay (Nat.le_of_eq hb.symm)⟩), (fun h => let q := hp11 (put_ne (by decide) h); ⟨q.1, hE.at q.2.1, q.2.2⟩), (fun h _ => Nat.ne_of_lt (hb ▸ (hp9 (put_ne (by decide) h)).2.1.lt)), (fun h k => hn9_11 (put_ne (by decide) h) (put_ne (by decide) k)), (fun _ k => Nat.ne_of_gt (hb ▸ (hp11 (put_ne (by decide) k)).2.1.lt)), trivial⟩
          ·
            refine ⟨_, 11, rfl, rfl, rfl, rfl, rfl, ?_⟩
            refine Y_alloc tb_z51 rfl (fun b W' hb hE hm => ⟨.inl (hS.trans hE), ?_⟩)
            exact ⟨b9_9, b9_10, b, hS.trans hE, below_ext hB hE (Nat.le_refl _), hE.at hm5_3, hE.ow hon, hE.ow hmay, (fun h => hp2 (put_ne (by decide) h)), (fun h => hp5 (put_ne (by decide) h)), (fun h => hp8 (put_ne (by decide) h)), (fun h => let q := hp9 (put_ne (by decide) h); ⟨q.1, hE.at q.2.1, q.2.2⟩), (fun h => let q := hp10 (put_ne (by decide) h); ⟨q.1, hE.at q.2.1, q.2.2⟩), (fun _ => ⟨rfl, hm, hb ▸ (Below.size hB), OwT.neB hon (Nat.le_of_eq hb.symm), OwT.neB hmay (Nat.le_of_eq hb.symm)⟩), (fun h k => hn9_10 (put_ne (by decide) h) (put_ne (by decide) k)), (fun h _ => Nat.ne_of_lt (hb ▸ (hp9 (put_ne (by decide) h)).2.1.lt)), (fun h _ => Nat.ne_of_lt (hb ▸ (hp10 (put_ne (by decide) h)).2.1.lt)), trivial⟩
        clear hS hB hm5_3 hon hmay
        rintro g206 W205 ⟨b9_9, b9_10, b9_11, hS, hB, hm5_3, hon, hmay, hp2, hp5, hp8, hp9, hp10, hp11, hn9_10, hn9_11, hn10_11, _⟩
        have q36 := hp2 rfl
        clear hp2
        have q39 := hp5 rfl
        clear hp5
        have q42 := hp8 rfl
        clear hp8
        obtain ⟨q9, hm9_9, lo_b9_9, no_onv_b9_9, no_mayv_b9_9⟩ := hp9 rfl
        obtain ⟨q10, hm9_10, lo_b9_10, no_onv_b9_10, no_mayv_b9_10⟩ := hp10 rfl
        obtain ⟨q11, hm9_11, lo_b9_11, no_onv_b9_11, no_mayv_b9_11⟩ := hp11 rfl
        have ne_b9_9_b9_10 := hn9_10 rfl rfl
        clear hn9_10
        have ne_b9_9_b9_11 := hn9_11 rfl rfl
        clear hn9_11
        have ne_b9_10_b9_11 := hn10_11 rfl rfl
        clear hn10_11
        refine WT_congr (mask_head [(36, setV (mkS T o 1)), (39, setV (mkS T o 0)), (42, setV (mkS T o 2)), (9, .pointer (some ⟨b9_9, 0, none⟩)), (10, .pointer (some ⟨b9_10, 0, none⟩)), (11, .pointer (some ⟨b9_11, 0, none⟩))] ⟨q36, q39, q42, q9, q10, q11, trivial⟩) ?_
        refine WT_one (dd := none) 12 (by kernel_rfl) rfl rfl rfl rfl (Y_storeW rfl rfl tb_ag51 rfl hm9_9 rfl (by rfl) (fun W207 hG208 hm209 => ⟨.inr (by kernel_rfl), ?_⟩))
        have sv210_hB := hB
        have sv210_hm5_3 := hm5_3
        have sv210_hon := hon
        have sv210_hmay := hmay
        have sv210_hm9_9 := hm9_9
        have sv210_hm9_10 := hm9_10
        have sv210_hm9_11 := hm9_11
        replace hB := below_grown hB hG208 (Nat.le_refl _) (fun j hj => by cases hj; exact lo_b9_9)
        replace hm5_3 := At.grownAt hm5_3 hm9_9 hG208 (by decide)
        replace hon := OwT.grownAtNe hon no_onv_b9_9 hG208
        replace hmay := OwT.grownAtNe hmay no_mayv_b9_9 hG208
        replace hm9_10 := At.grownNe hm9_10 (Ne.symm ne_b9_9_b9_10) hG208
        replace hm9_11 := At.grownNe hm9_11 (Ne.symm ne_b9_9_b9_11) hG208
        clear hG208 hm9_9
        have hm9_9 := hm209
        clear hm209
        refine WT_one (dd := none) 13 (by kernel_rfl) rfl rfl rfl rfl (Y_storeW rfl rfl tb_ag51 rfl hm9_10 rfl (by rfl) (fun W211 hG212 hm213 => ⟨.inr (by kernel_rfl), ?_⟩))
        replace hB := below_grown hB hG212 (Nat.le_refl _) (fun j hj => by cases hj; exact lo_b9_10)
        replace hm5_3 := At.grownAt hm5_3 hm9_10 hG212 (by decide)
        replace hon := OwT.grownAtNe hon no_onv_b9_10 hG212
        replace hmay := OwT.grownAtNe hmay no_mayv_b9_10 hG212
        replace hm9_9 := At.grownNe hm9_9 ne_b9_9_b9_10 hG212
        replace hm9_11 := At.grownNe hm9_11 (Ne.symm ne_b9_10_b9_11) hG212
        clear hG212 hm9_10
        have hm9_10 := hm213
        clear hm213
        refine WT_one (dd := none) 14 (by kernel_rfl) rfl rfl rfl rfl (Y_storeW rfl rfl tb_ag51 rfl hm9_11 rfl (by rfl) (fun W214 hG215 hm216 => ⟨.inr (by kernel_rfl), ?_⟩))
        replace hB := below_grown hB hG215 (Nat.le_refl _) (fun j hj => by cases hj; exact lo_b9_11)
        replace hm5_3 := At.grownAt hm5_3 hm9_11 hG215 (by decide)
        replace hon := OwT.grownAtNe hon no_onv_b9_11 hG215
        replace hmay := OwT.grownAtNe hmay no_mayv_b9_11 hG215
        replace hm9_9 := At.grownNe hm9_9 ne_b9_9_b9_11 hG215
        replace hm9_10 := At.grownNe hm9_10 ne_b9_10_b9_11 hG215
        clear hG215 hm9_11
        have hm9_11 := hm216
        clear hm216
        refine WT_done (by kernel_rfl) ?_
        try clear sv210_hB sv210_hm5_3 sv210_hon sv210_hmay
        refine hK201 _ _ ?_
        clear hK201 K200
        refine WC_seq (fun K217 hK218 => ?_)
        refine WC_seq (fun K219 hK220 => ?_)
        refine WC_region ?_
        refine WL_val (dd := some 43) rfl rfl rfl (r_fieldAddr (b := _) (o := _) rfl tb_fo71_1) ?_
        refine WL_val (dd := some 44) rfl rfl rfl (r_load1 (v := .bool _) rfl tb_sc4 (At.cell (Below.atI hB hm4_4) rfl)) ?_
        refine WL_split (dd := some 45) rfl rfl rfl (r_move (v := .bool _) rfl) (fun hs10_2 => ?_) (fun hs10_2 => ?_)
        ·
          try with_reducible replace hs10_2 := dec_t hs10_2
          refine WL_val (dd := some 46) rfl rfl rfl (r_loadW rfl tb_ag51 rfl hm9_9) ?_
          refine WL_val (dd := some 47) rfl rfl rfl (r_loadW rfl tb_ag51 rfl hm9_10) ?_
          refine WL_call (dd := some 48) rfl rfl rfl (r_call2 tb_c36 (v0 := .agg #[_, _, _, _]) rfl (v1 := .agg #[_, _, _, _]) rfl) (C_set_And _ _ _) (fun v10_5 W221 hE222 hP10_5 => ?_)
          have hsz223 := (Below.size hB)
          replace hB := below_ext hB hE222 (Nat.le_refl _)
          replace hm5_3 := hE222.at hm5_3
          replace hon := hE222.ow hon
          replace hmay := hE222.ow hmay
          replace hm9_9 := hE222.at hm9_9
          replace hm9_10 := hE222.at hm9_10
          replace hm9_11 := hE222.at hm9_11
          clear hE222
          clear hsz223
          obtain rfl := hP10_5
          refine WL_val (dd := some 49) (v := setV 0) rfl rfl rfl (tb_build51_ ) ?_
          refine WL_val (dd := some 50) rfl rfl rfl (tb_neq51 rfl rfl) ?_
          refine WL_val (dd := some 51) rfl rfl rfl (r_pick_t rfl (v := .bool _) rfl) ?_
          refine WL_nil ?_
          refine hK220 _ _ ?_
          clear hK220 K219
          refine WC_cond (b := _) rfl (fun hc2 => ?_) (fun hc2 => ?_)
          ·
            try with_reducible replace hc2 := dec_t hc2
            refine WC_seq (fun K224 hK225 => ?_)
            try clear hz176
            try clear hz177
            replace hm0_0 := Below.atI hB hm0_0
            replace hm0_1 := Below.atI hB hm0_1
            replace hm3_6 := Below.atI hB hm3_6
            replace hm4_4 := Below.atI hB hm4_4
            have hzs := Nat.le_trans (Nat.le_refl _) (Below.size hBo175)
            replace lo_b5_3 := Nat.le_trans hzs lo_b5_3
            replace hon := OwT.mono hon hzs
            replace hmay := OwT.mono hmay hzs
            replace lo_b9_9 := Nat.le_trans hzs lo_b9_9
            replace lo_b9_10 := Nat.le_trans hzs lo_b9_10
            replace lo_b9_11 := Nat.le_trans hzs lo_b9_11
            replace hB := Below.trans hBo175 (Below.mono hB hzs)
            clear hBo175 hzs
            refine WC_region ?_
            refine WL_val (dd := some 52) rfl rfl rfl (tb_build37_ ) ?_
            refine WL_step (dd := none) rfl rfl rfl (Y_storeW rfl rfl tb_ag37 rfl hm0_1 rfl (by rfl) (fun W226 hG227 hm228 => ?_))
            replace hm0_0 := At.grownAt hm0_0 hm0_1 hG227 (by decide)
            replace hm3_6 := At.grownAt hm3_6 hm0_1 hG227 (by decide)
            replace hm4_4 := At.grownAt hm4_4 hm0_1 hG227 (by decide)
            replace hB := below_grown hB hG227 (Nat.le_refl _) (fun j hj => by cases hj; exact lo_b0_1)
            replace hm5_3 := At.grownNe hm5_3 (Ne.symm ne_b0_1_b5_3) hG227
            replace hon := OwT.grownAt hon hm0_1 hG227 (by decide)
            replace hmay := OwT.grownAt hmay hm0_1 hG227 (by decide)
            replace hm9_9 := At.grownAt hm9_9 hm0_1 hG227 (by decide)
            replace hm9_10 := At.grownAt hm9_10 hm0_1 hG227 (by decide)
            replace hm9_11 := At.grownAt hm9_11 hm0_1 hG227 (by decide)
            clear hG227 hm0_1
            have hm0_1 := hm228
            clear hm228
            refine WL_val (dd := some 3) rfl rfl rfl (r_assign (v := .int .i64 4) rfl) ?_
            refine WL_nil ?_
            refine hK225 _ _ ?_
            clear hK225 K224
            refine WC_ret ?_
            repeat (first | refine thenQ_ret ?_ | refine blockQ_ret ?_)
            try clear hK218 K217
            try clear hK197 K196
            try clear hJ191 J190
            try clear hK185 K184
            refine ret_ct rfl tb_ag37 hm0_1 rfl (v1 := .int .i64 4) rfl ?_
            refine ⟨hB, ?_⟩
            first | (rw [ofE_1 (by simpa using hc0)]; exact .inr ⟨by decide, rfl⟩) | (rw [ofE_4 (o := o) hr (by omega) (clash_t hs10_2 hn8 hc2)]; exact .inr ⟨by decide, rfl⟩) | (have ho2 : o = T.no.toNat := (by omega); subst ho2; exact .inl ⟨ofE_0 hr hq, onv, mayv, rfl, hon, hmay⟩)
          ·
            try with_reducible replace hc2 := dec_f hc2
            refine WC_skip ?_
            refine hK218 _ _ ?_
            clear hK218 K217
            refine WC_draw (fun a b => Gr2 onv.ownBlock mayv.ownBlock a b) tb_mix (fun W229 hE230 => ?_)
            replace hB := below_ext hB hE230 (Nat.le_refl _)
            replace hm5_3 := hE230.at hm5_3
            replace hon := hE230.ow hon
            replace hmay := hE230.ow hmay
            replace hm9_9 := hE230.at hm9_9
            replace hm9_10 := hE230.at hm9_10
            replace hm9_11 := hE230.at hm9_11
            have hrow231 := hon
            have hrow232 := hmay
            have hS : Gr2 onv.ownBlock mayv.ownBlock W229 W229 := Gr2.refl
            refine WT_take (dd := some 53) 0 rfl (by kernel_rfl) (by kernel_rfl) (by kernel_rfl) rfl rfl rfl (fun _wq _hq => r_fieldAddr (b := _) (o := _) rfl tb_fo37_1) hS ?_
            refine WT_take (dd := some 54) 1 rfl (by kernel_rfl) (by kernel_rfl) (by kernel_rfl) rfl rfl rfl (fun _wq hq => r_load1 (v := onv) rfl tb_sc35 (At.cell (At.gr2 hm5_3 hq (own_neT hrow231 hm5_3 (by decide)) (own_neT hrow232 hm5_3 (by decide))) rfl)) hS ?_
            refine WT_take (dd := some 55) 2 rfl (by kernel_rfl) (by kernel_rfl) (by kernel_rfl) rfl rfl rfl (fun _wq hq => r_loadW rfl tb_ag51 rfl (At.gr2 hm9_9 hq (Ne.symm no_onv_b9_9) (Ne.symm no_mayv_b9_9))) hS ?_
            refine WT_take (dd := some 58) 5 rfl (by kernel_rfl) (by kernel_rfl) (by kernel_rfl) rfl rfl rfl (fun _wq _hq => r_fieldAddr (b := _) (o := _) rfl tb_fo37_2) hS ?_
            refine WT_take (dd := some 59) 6 rfl (by kernel_rfl) (by kernel_rfl) (by kernel_rfl) rfl rfl rfl (fun _wq hq => r_load1 (v := mayv) rfl tb_sc35 (At.cell (At.gr2 hm5_3 hq (own_neT hrow231 hm5_3 (by decide)) (own_neT hrow232 hm5_3 (by decide))) rfl)) hS ?_
            refine WT_take (dd := some 60) 7 rfl (by kernel_rfl) (by kernel_rfl) (by kernel_rfl) rfl rfl rfl (fun _wq _hq => r_fieldAddr (b := _) (o := _) rfl tb_fo71_0) hS ?_
            refine WT_take (dd := some 61) 8 rfl (by kernel_rfl) (by kernel_rfl) (by kernel_rfl) rfl rfl rfl (fun _wq hq => r_load1 (v := .func (.func (mnA 57 58 55 T.kind)) #[] #[]) rfl tb_sc69 (At.cell (Below.atI (below_gr2 hB hq (Nat.le_refl _) (OwT.lt hrow231) (OwT.lt hrow232)) hm4_4) rfl)) hS ?_
            refine WT_take (dd := some 62) 9 rfl (by kernel_rfl) (by kernel_rfl) (by kernel_rfl) rfl rfl rfl (fun _wq hq => r_loadW rfl tb_ag51 rfl (Below.atI (below_gr2 hB hq (Nat.le_refl _) (OwT.lt hrow231) (OwT.lt hrow232)) hm3_6)) hS ?_
            refine WT_take (dd := some 63) 10 rfl (by kernel_rfl) (by kernel_rfl) (by kernel_rfl) rfl rfl rfl (fun _wq hq => r_loadW rfl tb_ag51 rfl (At.gr2 hm9_9 hq (Ne.symm no_onv_b9_9) (Ne.symm no_mayv_b9_9))) hS ?_
            refine WT_take (dd := some 64) 11 rfl (by kernel_rfl) (by kernel_rfl) (by kernel_rfl) rfl rfl rfl (fun _wq hq => r_loadW rfl tb_ag51 rfl (At.gr2 hm9_10 hq (Ne.symm no_onv_b9_10) (Ne.symm no_mayv_b9_10))) hS ?_
            refine WT_take (dd := some 65) 12 rfl (by kernel_rfl) (by kernel_rfl) (by kernel_rfl) rfl rfl rfl (fun _wq hq => r_loadW rfl tb_ag51 rfl (At.gr2 hm9_11 hq (Ne.symm no_onv_b9_11) (Ne.symm no_mayv_b9_11))) hS ?_
            refine WT_one (dd := some 56) 3 (by kernel_rfl) rfl rfl rfl rfl (Y_lit1 (u := .agg #[_, _, _, _]) rfl tb_el35 tb_zs51 rfl (by decide) (by decide) (fun b12_3 W233 hb234 hE235 hm12_3 => ⟨.inl (Gr2.ext hS hE235), ?_⟩))
            have lo_b12_3 : W170.heap.size ≤ b12_3 := hb234 ▸ (Below.size hB)
            have ne_b3_6_b12_3 : b3_6 ≠ b12_3 := Nat.ne_of_lt (hb234 ▸ (Below.atI hB hm3_6).lt)
            have no_onv_b12_3 := OwT.neB (b := b12_3) hon (Nat.le_of_eq hb234.symm)
            have no_mayv_b12_3 := OwT.neB (b := b12_3) hmay (Nat.le_of_eq hb234.symm)
            have ne_b9_9_b12_3 : b9_9 ≠ b12_3 := Nat.ne_of_lt (hb234 ▸ hm9_9.lt)
            have ne_b9_10_b12_3 : b9_10 ≠ b12_3 := Nat.ne_of_lt (hb234 ▸ hm9_10.lt)
            have ne_b9_11_b12_3 : b9_11 ≠ b12_3 := Nat.ne_of_lt (hb234 ▸ hm9_11.lt)
            clear hb234
            have sv236_hB := hB
            have sv236_hm5_3 := hm5_3
            have sv236_hon := hon
            have sv236_hmay := hmay
            have sv236_hm9_9 := hm9_9
            have sv236_hm9_10 := hm9_10
            have sv236_hm9_11 := hm9_11
            replace hB := below_ext hB hE235 (Nat.le_refl _)
            replace hm5_3 := hE235.at hm5_3
            replace hon := hE235.ow hon
            replace hmay := hE235.ow hmay
            replace hm9_9 := hE235.at hm9_9
            replace hm9_10 := hE235.at hm9_10
            replace hm9_11 := hE235.at hm9_11
            replace hS := Gr2.ext hS hE235
            clear hE235
            refine WT_one (dd := some 57) 4 (by kernel_rfl) rfl rfl rfl rfl (Y_appendA (v := onv) (v2 := .slice (some ⟨b12_3, 0, none⟩) 1 1) rfl rfl tb_el35 tb_zs51 (by decide) hon (sl_lit1 hm12_3 rfl) rfl (by have := Below.size hB; omega) (by first | omega | (simp; omega) | (simp only [onTo_len, mayTo_len_]; omega)) (by first | omega | (simp; omega) | (simp only [onTo_len, mayTo_len_]; omega)) (fun v12_4 W237 hG238 ho12_4 hob239 => ⟨.inl (Gr2.one hS hG238), ?_⟩))
            replace hS := Gr2.one hS hG238
            have hap240 := Apart.app hap hob239 hmay
            replace ho12_4 := OwT.snoc (enc := encS) (x := (mkS T o 1)) rfl rfl rfl rfl ho12_4
            clear hm12_3
            replace hB := below_grown hB hG238 (Nat.le_refl _) (fun j hj => (OwT.lt hon j hj))
            replace hm5_3 := At.grownOw hm5_3 hon hG238 (by decide)
            replace hmay := OwT.grownAp hmay hap hG238
            replace hm9_9 := At.grownOwNe hm9_9 no_onv_b9_9 hG238
            replace hm9_10 := At.grownOwNe hm9_10 no_onv_b9_10 hG238
            replace hm9_11 := At.grownOwNe hm9_11 no_onv_b9_11 hG238
            clear hG238
            clear hon
            refine WT_take (dd := some 69) 16 rfl (by kernel_rfl) (by kernel_rfl) (by kernel_rfl) rfl rfl rfl (fun _wq _hq => r_fieldAddr (b := _) (o := _) rfl tb_fo37_1) hS ?_
            refine WT_one (dd := some 66) 13 (by kernel_rfl) rfl rfl rfl rfl (Yd.call (r_call (q := (mnA 57 58 55 T.kind)) (first := #[]) (cap := #[]) (vs := #[.agg #[_, _, _, _], .agg #[_, _, _, _], .agg #[_, _, _, _], .agg #[_, _, _, _]]) rfl (callB_mn T.kind) (by simp only [List.map_toArray, List.map_cons, List.map_nil, List.append_toArray, List.nil_append, List.cons_append]; rfl)) (C_mn T.kind _ _ _ _ _) (fun v12_13 W241 hE242 hP12_13 => ⟨.inl (Gr2.ext hS hE242), ?_⟩))
            have hsz243 := (Below.size hB)
            replace hB := below_ext hB hE242 (Nat.le_refl _)
            replace hm5_3 := hE242.at hm5_3
            replace hmay := hE242.ow hmay
            replace hm9_9 := hE242.at hm9_9
            replace hm9_10 := hE242.at hm9_10
            replace hm9_11 := hE242.at hm9_11
            replace ho12_4 := hE242.ow ho12_4
            replace hS := Gr2.ext hS hE242
            clear hE242
            clear hsz243
            obtain rfl := hP12_13
            refine WT_one (dd := some 67) 14 (by kernel_rfl) rfl rfl rfl rfl (Y_lit1 (u := .agg #[_, _, _, _]) rfl tb_el35 tb_zs51 rfl (by decide) (by decide) (fun b12_14 W244 hb245 hE246 hm12_14 => ⟨.inl (Gr2.ext hS hE246), ?_⟩))
            have lo_b12_14 : W170.heap.size ≤ b12_14 := hb245 ▸ (Below.size hB)
            have ne_b3_6_b12_14 : b3_6 ≠ b12_14 := Nat.ne_of_lt (hb245 ▸ (Below.atI hB hm3_6).lt)
            have no_mayv_b12_14 := OwT.neB (b := b12_14) hmay (Nat.le_of_eq hb245.symm)
            have ne_b9_9_b12_14 : b9_9 ≠ b12_14 := Nat.ne_of_lt (hb245 ▸ hm9_9.lt)
            have ne_b9_10_b12_14 : b9_10 ≠ b12_14 := Nat.ne_of_lt (hb245 ▸ hm9_10.lt)
            have ne_b9_11_b12_14 : b9_11 ≠ b12_14 := Nat.ne_of_lt (hb245 ▸ hm9_11.lt)
            have no_v12_4_b12_14 := OwT.neB (b := b12_14) ho12_4 (Nat.le_of_eq hb245.symm)
            clear hb245
            replace hB := below_ext hB hE246 (Nat.le_refl _)
            replace hm5_3 := hE246.at hm5_3
            replace hmay := hE246.ow hmay
            replace hm9_9 := hE246.at hm9_9
            replace hm9_10 := hE246.at hm9_10
            replace hm9_11 := hE246.at hm9_11
            replace ho12_4 := hE246.ow ho12_4
            replace hS := Gr2.ext hS hE246
            clear hE246
            refine WT_one (dd := some 68) 15 (by kernel_rfl) rfl rfl rfl rfl (Y_appendA (v := mayv) (v2 := .slice (some ⟨b12_14, 0, none⟩) 1 1) rfl rfl tb_el35 tb_zs51 (by decide) hmay (sl_lit1 hm12_14 rfl) rfl (by have := Below.size hB; omega) (by first | omega | (simp; omega) | (simp only [onTo_len, mayTo_len_]; omega)) (by first | omega | (simp; omega) | (simp only [onTo_len, mayTo_len_]; omega)) (fun v12_15 W247 hG248 ho12_15 hob249 => ⟨.inl (Gr2.two hS hG248), ?_⟩))
            replace hS := Gr2.two hS hG248
            have hap250 := Apart.app (Apart.symm hap240) hob249 ho12_4
            replace ho12_15 := OwT.snoc (enc := encS) (x := (mayT T o)) rfl rfl rfl rfl ho12_15
            clear hm12_14
            replace hB := below_grown hB hG248 (Nat.le_refl _) (fun j hj => (OwT.lt hmay j hj))
            replace hm5_3 := At.grownOw hm5_3 hmay hG248 (by decide)
            replace hm9_9 := At.grownOwNe hm9_9 no_mayv_b9_9 hG248
            replace hm9_10 := At.grownOwNe hm9_10 no_mayv_b9_10 hG248
            replace hm9_11 := At.grownOwNe hm9_11 no_mayv_b9_11 hG248
            replace ho12_4 := OwT.grownAp ho12_4 (Apart.symm hap240) hG248
            clear hG248
            clear hmay
            refine WT_one (dd := none) 17 (by kernel_rfl) rfl rfl rfl rfl (Y_store1 (v := v12_4) rfl rfl tb_sc35 (SlT.one ho12_4.sl) hm5_3 (by simp) (fun W251 hG252 hm253 => ⟨.inr (by kernel_rfl), ?_⟩))
            replace hB := below_grown hB hG252 (Nat.le_refl _) (fun j hj => by cases hj; exact lo_b5_3)
            replace hm9_9 := At.grownAt hm9_9 hm5_3 hG252 (by decide)
            replace hm9_10 := At.grownAt hm9_10 hm5_3 hG252 (by decide)
            replace hm9_11 := At.grownAt hm9_11 hm5_3 hG252 (by decide)
            replace ho12_4 := OwT.grownAt ho12_4 hm5_3 hG252 (by decide)
            replace ho12_15 := OwT.grownAt ho12_15 hm5_3 hG252 (by decide)
            clear hG252 hm5_3
            have hm5_3 := hm253
            clear hm253
            replace hm5_3 : At _ _ #[_, _, _] _ := hm5_3
            refine WT_one (dd := some 70) 18 (by kernel_rfl) rfl rfl rfl rfl (Yd.val (r_fieldAddr (b := _) (o := _) rfl tb_fo37_2) ⟨.inr (by kernel_rfl), ?_⟩)
            refine WT_one (dd := none) 19 (by kernel_rfl) rfl rfl rfl rfl (Y_store1 (v := v12_15) rfl rfl tb_sc35 (SlT.one ho12_15.sl) hm5_3 (by simp) (fun W254 hG255 hm256 => ⟨.inr (by kernel_rfl), ?_⟩))
            replace hB := below_grown hB hG255 (Nat.le_refl _) (fun j hj => by cases hj; exact lo_b5_3)
            replace hm9_9 := At.grownAt hm9_9 hm5_3 hG255 (by decide)
            replace hm9_10 := At.grownAt hm9_10 hm5_3 hG255 (by decide)
            replace hm9_11 := At.grownAt hm9_11 hm5_3 hG255 (by decide)
            replace ho12_4 := OwT.grownAt ho12_4 hm5_3 hG255 (by decide)
            replace ho12_15 := OwT.grownAt ho12_15 hm5_3 hG255 (by decide)
            clear hG255 hm5_3
            have hm5_3 := hm256
            clear hm256
            replace hm5_3 : At _ _ #[_, _, _] _ := hm5_3
            refine WT_done (by kernel_rfl) ?_
            try clear sv236_hB sv236_hm9_9 sv236_hm9_10 sv236_hm9_11
            try clear hrow231 hrow232
            refine hK197 _ _ ?_
            clear hK197 K196
            refine WC_region ?_
            refine WL_val (dd := some 71) rfl rfl rfl (r_addI rfl rfl (by omega) (by omega)) ?_
            refine WL_val (dd := some 31) rfl rfl rfl (r_move (v := .int .i64 _) rfl) ?_
            refine WL_nil ?_
            refine hJ191 _ _ ((o + 1, v12_4, v12_15)) ?_ ?_ ?_ ?_
            · repeat (first | exact agree.mask _ _ _ | refine agree.updo ?_ rfl _ | refine agree.updL ?_ _ rfl | refine agree.maskS rfl ?_)
            · exact ⟨rfl, trivial⟩
            · exact ⟨hB, (by exact hm5_3), (by rw [onTo_succ]; exact ho12_4), (by rw [mayTo_succ]; exact ho12_15), (Apart.symm hap250), (by omega), (upTo_succ hq (by first | exact clash_k hs10_2 | exact clash_f hn8 hc2)), trivial⟩
            · show T.no.toNat - (o + 1) < T.no.toNat - o; omega
        ·
          try with_reducible replace hs10_2 := dec_f hs10_2
          refine WL_skip (dd := some 46) rfl rfl rfl ?_
          refine WL_skip (dd := some 47) rfl rfl rfl ?_
          refine WL_skip (dd := some 48) rfl rfl rfl ?_
          refine WL_skip (dd := some 49) rfl rfl rfl ?_
          refine WL_skip (dd := some 50) rfl rfl rfl ?_
          refine WL_val (dd := some 51) rfl rfl rfl (r_pick_f rfl (v := .bool false) rfl) ?_
          refine WL_nil ?_
          refine hK220 _ _ ?_
          clear hK220 K219
          refine WC_cond_false rfl ?_
          refine WC_skip ?_
          refine hK218 _ _ ?_
          clear hK218 K217
          refine WC_draw (fun a b => Gr2 onv.ownBlock mayv.ownBlock a b) tb_mix (fun W257 hE258 => ?_)
          replace hB := below_ext hB hE258 (Nat.le_refl _)
          replace hm5_3 := hE258.at hm5_3
          replace hon := hE258.ow hon
          replace hmay := hE258.ow hmay
          replace hm9_9 := hE258.at hm9_9
          replace hm9_10 := hE258.at hm9_10
          replace hm9_11 := hE258.at hm9_11
          have hrow259 := hon
          have hrow260 := hmay
          have hS : Gr2 onv.ownBlock mayv.ownBlock W257 W257 := Gr2.refl
          refine WT_take (dd := some 53) 0 rfl (by kernel_rfl) (by kernel_rfl) (by kernel_rfl) rfl rfl rfl (fun _wq _hq => r_fieldAddr (b := _) (o := _) rfl tb_fo37_1) hS ?_
          refine WT_take (dd := some 54) 1 rfl (by kernel_rfl) (by kernel_rfl) (by kernel_rfl) rfl rfl rfl (fun _wq hq => r_load1 (v := onv) rfl tb_sc35 (At.cell (At.gr2 hm5_3 hq (own_neT hrow259 hm5_3 (by decide)) (own_neT hrow260 hm5_3 (by decide))) rfl)) hS ?_
          refine WT_take (dd := some 55) 2 rfl (by kernel_rfl) (by kernel_rfl) (by kernel_rfl) rfl rfl rfl (fun _wq hq => r_loadW rfl tb_ag51 rfl (At.gr2 hm9_9 hq (Ne.symm no_onv_b9_9) (Ne.symm no_mayv_b9_9))) hS ?_
          refine WT_take (dd := some 58) 5 rfl (by kernel_rfl) (by kernel_rfl) (by kernel_rfl) rfl rfl rfl (fun _wq _hq => r_fieldAddr (b := _) (o := _) rfl tb_fo37_2) hS ?_
          refine WT_take (dd := some 59) 6 rfl (by kernel_rfl) (by kernel_rfl) (by kernel_rfl) rfl rfl rfl (fun _wq hq => r_load1 (v := mayv) rfl tb_sc35 (At.cell (At.gr2 hm5_3 hq (own_neT hrow259 hm5_3 (by decide)) (own_neT hrow260 hm5_3 (by decide))) rfl)) hS ?_
          refine WT_take (dd := some 60) 7 rfl (by kernel_rfl) (by kernel_rfl) (by kernel_rfl) rfl rfl rfl (fun _wq _hq => r_fieldAddr (b := _) (o := _) rfl tb_fo71_0) hS ?_
          refine WT_take (dd := some 61) 8 rfl (by kernel_rfl) (by kernel_rfl) (by kernel_rfl) rfl rfl rfl (fun _wq hq => r_load1 (v := .func (.func (mnA 57 58 55 T.kind)) #[] #[]) rfl tb_sc69 (At.cell (Below.atI (below_gr2 hB hq (Nat.le_refl _) (OwT.lt hrow259) (OwT.lt hrow260)) hm4_4) rfl)) hS ?_
          refine WT_take (dd := some 62) 9 rfl (by kernel_rfl) (by kernel_rfl) (by kernel_rfl) rfl rfl rfl (fun _wq hq => r_loadW rfl tb_ag51 rfl (Below.atI (below_gr2 hB hq (Nat.le_refl _) (OwT.lt hrow259) (OwT.lt hrow260)) hm3_6)) hS ?_
          refine WT_take (dd := some 63) 10 rfl (by kernel_rfl) (by kernel_rfl) (by kernel_rfl) rfl rfl rfl (fun _wq hq => r_loadW rfl tb_ag51 rfl (At.gr2 hm9_9 hq (Ne.symm no_onv_b9_9) (Ne.symm no_mayv_b9_9))) hS ?_
          refine WT_take (dd := some 64) 11 rfl (by kernel_rfl) (by kernel_rfl) (by kernel_rfl) rfl rfl rfl (fun _wq hq => r_loadW rfl tb_ag51 rfl (At.gr2 hm9_10 hq (Ne.symm no_onv_b9_10) (Ne.symm no_mayv_b9_10))) hS ?_
          refine WT_take (dd := some 65) 12 rfl (by kernel_rfl) (by kernel_rfl) (by kernel_rfl) rfl rfl rfl (fun _wq hq => r_loadW rfl tb_ag51 rfl (At.gr2 hm9_11 hq (Ne.symm no_onv_b9_11) (Ne.symm no_mayv_b9_11))) hS ?_
          refine WT_one (dd := some 56) 3 (by kernel_rfl) rfl rfl rfl rfl (Y_lit1 (u := .agg #[_, _, _, _]) rfl tb_el35 tb_zs51 rfl (by decide) (by decide) (fun b12_3 W261 hb262 hE263 hm12_3 => ⟨.inl (Gr2.ext hS hE263), ?_⟩))
          have lo_b12_3 : W170.heap.size ≤ b12_3 := hb262 ▸ (Below.size hB)
          have ne_b3_6_b12_3 : b3_6 ≠ b12_3 := Nat.ne_of_lt (hb262 ▸ (Below.atI hB hm3_6).lt)
          have no_onv_b12_3 := OwT.neB (b := b12_3) hon (Nat.le_of_eq hb262.symm)
          have no_mayv_b12_3 := OwT.neB (b := b12_3) hmay (Nat.le_of_eq hb262.symm)
          have ne_b9_9_b12_3 : b9_9 ≠ b12_3 := Nat.ne_of_lt (hb262 ▸ hm9_9.lt)
          have ne_b9_10_b12_3 : b9_10 ≠ b12_3 := Nat.ne_of_lt (hb262 ▸ hm9_10.lt)
          have ne_b9_11_b12_3 : b9_11 ≠ b12_3 := Nat.ne_of_lt (hb262 ▸ hm9_11.lt)
          clear hb262
          have sv264_hB := hB
          have sv264_hm5_3 := hm5_3
          have sv264_hon := hon
          have sv264_hmay := hmay
          have sv264_hm9_9 := hm9_9
          have sv264_hm9_10 := hm9_10
          have sv264_hm9_11 := hm9_11
          replace hB := below_ext hB hE263 (Nat.le_refl _)
          replace hm5_3 := hE263.at hm5_3
          replace hon := hE263.ow hon
          replace hmay := hE263.ow hmay
          replace hm9_9 := hE263.at hm9_9
          replace hm9_10 := hE263.at hm9_10
          replace hm9_11 := hE263.at hm9_11
          replace hS := Gr2.ext hS hE263
          clear hE263
          refine WT_one (dd := some 57) 4 (by kernel_rfl) rfl rfl rfl rfl (Y_appendA (v := onv) (v2 := .slice (some ⟨b12_3, 0, none⟩) 1 1) rfl rfl tb_el35 tb_zs51 (by decide) hon (sl_lit1 hm12_3 rfl) rfl (by have := Below.size hB; omega) (by first | omega | (simp; omega) | (simp only [onTo_len, mayTo_len_]; omega)) (by first | omega | (simp; omega) | (simp only [onTo_len, mayTo_len_]; omega)) (fun v12_4 W265 hG266 ho12_4 hob267 => ⟨.inl (Gr2.one hS hG266), ?_⟩))
          replace hS := Gr2.one hS hG266
          have hap268 := Apart.app hap hob267 hmay
          replace ho12_4 := OwT.snoc (enc := encS) (x := (mkS T o 1)) rfl rfl rfl rfl ho12_4
          clear hm12_3
          replace hB := below_grown hB hG266 (Nat.le_refl _) (fun j hj => (OwT.lt hon j hj))
          replace hm5_3 := At.grownOw hm5_3 hon hG266 (by decide)
          replace hmay := OwT.grownAp hmay hap hG266
          replace hm9_9 := At.grownOwNe hm9_9 no_onv_b9_9 hG266
          replace hm9_10 := At.grownOwNe hm9_10 no_onv_b9_10 hG266
          replace hm9_11 := At.grownOwNe hm9_11 no_onv_b9_11 hG266
          clear hG266
          clear hon
          refine WT_take (dd := some 69) 16 rfl (by kernel_rfl) (by kernel_rfl) (by kernel_rfl) rfl rfl rfl (fun _wq _hq => r_fieldAddr (b := _) (o := _) rfl tb_fo37_1) hS ?_
          refine WT_one (dd := some 66) 13 (by kernel_rfl) rfl rfl rfl rfl (Yd.call (r_call (q := (mnA 57 58 55 T.kind)) (first := #[]) (cap := #[]) (vs := #[.agg #[_, _, _, _], .agg #[_, _, _, _], .agg #[_, _, _, _], .agg #[_, _, _, _]]) rfl (callB_mn T.kind) (by simp only [List.map_toArray, List.map_cons, List.map_nil, List.append_toArray, List.nil_append, List.cons_append]; rfl)) (C_mn T.kind _ _ _ _ _) (fun v12_13 W269 hE270 hP12_13 => ⟨.inl (Gr2.ext hS hE270), ?_⟩))
          have hsz271 := (Below.size hB)
          replace hB := below_ext hB hE270 (Nat.le_refl _)
          replace hm5_3 := hE270.at hm5_3
          replace hmay := hE270.ow hmay
          replace hm9_9 := hE270.at hm9_9
          replace hm9_10 := hE270.at hm9_10
          replace hm9_11 := hE270.at hm9_11
          replace ho12_4 := hE270.ow ho12_4
          replace hS := Gr2.ext hS hE270
          clear hE270
          clear hsz271
          obtain rfl := hP12_13
          refine WT_one (dd := some 67) 14 (by kernel_rfl) rfl rfl rfl rfl (Y_lit1 (u := .agg #[_, _, _, _]) rfl tb_el35 tb_zs51 rfl (by decide) (by decide) (fun b12_14 W272 hb273 hE274 hm12_14 => ⟨.inl (Gr2.ext hS hE274), ?_⟩))
          have lo_b12_14 : W170.heap.size ≤ b12_14 := hb273 ▸ (Below.size hB)
          have ne_b3_6_b12_14 : b3_6 ≠ b12_14 := Nat.ne_of_lt (hb273 ▸ (Below.atI hB hm3_6).lt)
          have no_mayv_b12_14 := OwT.neB (b := b12_14) hmay (Nat.le_of_eq hb273.symm)
          have ne_b9_9_b12_14 : b9_9 ≠ b12_14 := Nat.ne_of_lt (hb273 ▸ hm9_9.lt)
          have ne_b9_10_b12_14 : b9_10 ≠ b12_14 := Nat.ne_of_lt (hb273 ▸ hm9_10.lt)
          have ne_b9_11_b12_14 : b9_11 ≠ b12_14 := Nat.ne_of_lt (hb273 ▸ hm9_11.lt)
          have no_v12_4_b12_14 := OwT.neB (b := b12_14) ho12_4 (Nat.le_of_eq hb273.symm)
          clear hb273
          replace hB := below_ext hB hE274 (Nat.le_refl _)
          replace hm5_3 := hE274.at hm5_3
          replace hmay := hE274.ow hmay
          replace hm9_9 := hE274.at hm9_9
          replace hm9_10 := hE274.at hm9_10
          replace hm9_11 := hE274.at hm9_11
          replace ho12_4 := hE274.ow ho12_4
          replace hS := Gr2.ext hS hE274
          clear hE274
          refine WT_one (dd := some 68) 15 (by kernel_rfl) rfl rfl rfl rfl (Y_appendA (v := mayv) (v2 := .slice (some ⟨b12_14, 0, none⟩) 1 1) rfl rfl tb_el35 tb_zs51 (by decide) hmay (sl_lit1 hm12_14 rfl) rfl (by have := Below.size hB; omega) (by first | omega | (simp; omega) | (simp only [onTo_len, mayTo_len_]; omega)) (by first | omega | (simp; omega) | (simp only [onTo_len, mayTo_len_]; omega)) (fun v12_15 W275 hG276 ho12_15 hob277 => ⟨.inl (Gr2.two hS hG276), ?_⟩))
          replace hS := Gr2.two hS hG276
          have hap278 := Apart.app (Apart.symm hap268) hob277 ho12_4
          replace ho12_15 := OwT.snoc (enc := encS) (x := (mayT T o)) rfl rfl rfl rfl ho12_15
          clear hm12_14
          replace hB := below_grown hB hG276 (Nat.le_refl _) (fun j hj => (OwT.lt hmay j hj))
          replace hm5_3 := At.grownOw hm5_3 hmay hG276 (by decide)
          replace hm9_9 := At.grownOwNe hm9_9 no_mayv_b9_9 hG276
          replace hm9_10 := At.grownOwNe hm9_10 no_mayv_b9_10 hG276
          replace hm9_11 := At.grownOwNe hm9_11 no_mayv_b9_11 hG276
          replace ho12_4 := OwT.grownAp ho12_4 (Apart.symm hap268) hG276
          clear hG276
          clear hmay
          refine WT_one (dd := none) 17 (by kernel_rfl) rfl rfl rfl rfl (Y_store1 (v := v12_4) rfl rfl tb_sc35 (SlT.one ho12_4.sl) hm5_3 (by simp) (fun W279 hG280 hm281 => ⟨.inr (by kernel_rfl), ?_⟩))
          replace hB := below_grown hB hG280 (Nat.le_refl _) (fun j hj => by cases hj; exact lo_b5_3)
          replace hm9_9 := At.grownAt hm9_9 hm5_3 hG280 (by decide)
          replace hm9_10 := At.grownAt hm9_10 hm5_3 hG280 (by decide)
          replace hm9_11 := At.grownAt hm9_11 hm5_3 hG280 (by decide)
          replace ho12_4 := OwT.grownAt ho12_4 hm5_3 hG280 (by decide)
          replace ho12_15 := OwT.grownAt ho12_15 hm5_3 hG280 (by decide)
          clear hG280 hm5_3
          have hm5_3 := hm281
          clear hm281
          replace hm5_3 : At _ _ #[_, _, _] _ := hm5_3
          refine WT_one (dd := some 70) 18 (by kernel_rfl) rfl rfl rfl rfl (Yd.val (r_fieldAddr (b := _) (o := _) rfl tb_fo37_2) ⟨.inr (by kernel_rfl), ?_⟩)
          refine WT_one (dd := none) 19 (by kernel_rfl) rfl rfl rfl rfl (Y_store1 (v := v12_15) rfl rfl tb_sc35 (SlT.one ho12_15.sl) hm5_3 (by simp) (fun W282 hG283 hm284 => ⟨.inr (by kernel_rfl), ?_⟩))
          replace hB := below_grown hB hG283 (Nat.le_refl _) (fun j hj => by cases hj; exact lo_b5_3)
          replace hm9_9 := At.grownAt hm9_9 hm5_3 hG283 (by decide)
          replace hm9_10 := At.grownAt hm9_10 hm5_3 hG283 (by decide)
          replace hm9_11 := At.grownAt hm9_11 hm5_3 hG283 (by decide)
          replace ho12_4 := OwT.grownAt ho12_4 hm5_3 hG283 (by decide)
          replace ho12_15 := OwT.grownAt ho12_15 hm5_3 hG283 (by decide)
          clear hG283 hm5_3
          have hm5_3 := hm284
          clear hm284
          replace hm5_3 : At _ _ #[_, _, _] _ := hm5_3
          refine WT_done (by kernel_rfl) ?_
          try clear sv264_hB sv264_hm9_9 sv264_hm9_10 sv264_hm9_11
          try clear hrow259 hrow260
          refine hK197 _ _ ?_
          clear hK197 K196
          refine WC_region ?_
          refine WL_val (dd := some 71) rfl rfl rfl (r_addI rfl rfl (by omega) (by omega)) ?_
          refine WL_val (dd := some 31) rfl rfl rfl (r_move (v := .int .i64 _) rfl) ?_
          refine WL_nil ?_
          refine hJ191 _ _ ((o + 1, v12_4, v12_15)) ?_ ?_ ?_ ?_
          · repeat (first | exact agree.mask _ _ _ | refine agree.updo ?_ rfl _ | refine agree.updL ?_ _ rfl | refine agree.maskS rfl ?_)
          · exact ⟨rfl, trivial⟩
          · exact ⟨hB, (by exact hm5_3), (by rw [onTo_succ]; exact ho12_4), (by rw [mayTo_succ]; exact ho12_15), (Apart.symm hap278), (by omega), (upTo_succ hq (by first | exact clash_k hs10_2 | exact clash_f hn8 hc2)), trivial⟩
          · show T.no.toNat - (o + 1) < T.no.toNat - o; omega
      ·
        try with_reducible replace hc1 := dec_f hc1
        refine WC_exit ?_
        refine hK185 _ _ ?_
        clear hK195 K194
        clear hJ191 J190
        clear hK185 K184
        refine WC_seq (fun K285 hK286 => ?_)
        try clear hz176
        try clear hz177
        replace hm0_0 := Below.atI hB hm0_0
        replace hm0_1 := Below.atI hB hm0_1
        replace hm3_6 := Below.atI hB hm3_6
        replace hm4_4 := Below.atI hB hm4_4
        have hzs := Nat.le_trans (Nat.le_refl _) (Below.size hBo175)
        replace lo_b5_3 := Nat.le_trans hzs lo_b5_3
        replace hon := OwT.mono hon hzs
        replace hmay := OwT.mono hmay hzs
        replace hB := Below.trans hBo175 (Below.mono hB hzs)
        clear hBo175 hzs
        refine WC_region ?_
        refine WL_val (dd := some 72) rfl rfl rfl (r_loadW rfl tb_ag37 rfl hm5_3) ?_
        refine WL_step (dd := none) rfl rfl rfl (Y_storeW rfl rfl tb_ag37 rfl hm0_1 rfl (by exact one_sp (SlT.one (OwT.sl hon)) (SlT.one (OwT.sl hmay))) (fun W287 hG288 hm289 => ?_))
        replace hm0_0 := At.grownAt hm0_0 hm0_1 hG288 (by decide)
        replace hm3_6 := At.grownAt hm3_6 hm0_1 hG288 (by decide)
        replace hm4_4 := At.grownAt hm4_4 hm0_1 hG288 (by decide)
        replace hB := below_grown hB hG288 (Nat.le_refl _) (fun j hj => by cases hj; exact lo_b0_1)
        replace hm5_3 := At.grownNe hm5_3 (Ne.symm ne_b0_1_b5_3) hG288
        replace hon := OwT.grownAt hon hm0_1 hG288 (by decide)
        replace hmay := OwT.grownAt hmay hm0_1 hG288 (by decide)
        clear hG288 hm0_1
        have hm0_1 := hm289
        clear hm289
        refine WL_val (dd := some 3) rfl rfl rfl (r_assign (v := .int .i64 0) rfl) ?_
        refine WL_nil ?_
        refine hK286 _ _ ?_
        clear hK286 K285
        refine WC_ret ?_
        repeat (first | refine thenQ_ret ?_ | refine blockQ_ret ?_)
        refine ret_ct rfl tb_ag37 hm0_1 rfl (v1 := .int .i64 0) rfl ?_
        refine ⟨hB, ?_⟩
        first | (rw [ofE_1 (by simpa using hc0)]; exact .inr ⟨by decide, rfl⟩) | (rw [ofE_4 (o := o) hr (by omega) (clash_t hs10_2 hn8 hc2)]; exact .inr ⟨by decide, rfl⟩) | (have ho2 : o = T.no.toNat := (by omega); subst ho2; exact .inl ⟨ofE_0 hr hq, onv, mayv, rfl, hon, hmay⟩)

end Go.Proofs.YtnkaebjaeaecmaaDoor
