/-
  The walks of package spec.
-/
import Derived.Test.YtnkaebjaeaecmaaGreatDoorProg
import Derived.Test.YtnkaebjaeaecmaaGreatDoorWPla5
import Derived.Test.YtnkaebjaeaecmaaGreatDoorWCov
import Derived.Test.YtnkaebjaeaecmaaGreatDoorSpec3
import Derived.Test.YtnkaebjaeaecmaaGreatDoorPar
import Derived.Test.YtnkaebjaeaecmaaGreatDoorZip
namespace Go.Proofs.YtnkaebjaeaecmaaGreatDoor
set_option linter.unusedVariables false
set_option linter.unusedSimpArgs false
open Go Go.RowKit

theorem tb_z57 : zeroI Tryz.prog 57 = some (.agg #[.nilFunc, .bool false, .nilFunc, .bool false, .nilFunc, .bool false, .nilFunc, .bool false]) := by kernel_rfl
theorem tb_z56 : zeroI Tryz.prog 56 = some (.agg #[.nilFunc, .bool false]) := by kernel_rfl
theorem tb_size4 : (Tryz.prog.info? 4).map (·.size) = some 1 := by kernel_rfl
theorem tb_size54 : (Tryz.prog.info? 54).map (·.size) = some 1 := by kernel_rfl
theorem tb_build56_0_1 {f : Nat → Value} {w : World} {d : Option Nat} {ty : TypeId} {ps : String} {af : Array Edge} {g : Option (Nat × Bool)} {x0 x1 : Operand} {c0_0 c1_0 : Value} (h0 : evF f x0 = c0_0) (k0 : c0_0.cells = #[c0_0]) (h1 : evF f x1 = c1_0) (k1 : c1_0.cells = #[c1_0]) :
    (execOp (evF f) ⟨d, .build 56 #[(0, x0), (1, x1)], ty, ps, af, g⟩).run Tryz.prog w = .ok (.value (.agg #[c0_0, c1_0])) w := by
  obtain ⟨i0, hi0, hz0⟩ := Option.bind_eq_some_iff.1 (show (Tryz.prog.info? 56).bind (·.zero) = _ from tb_z56)
  obtain ⟨j4, hj4, hs4⟩ := Option.map_eq_some_iff.1 tb_size4
  obtain ⟨j54, hj54, hs54⟩ := Option.map_eq_some_iff.1 tb_size54
  simp [execOp, h0, k0, h1, k1, Instr.build, zeroValue, typeInfo, sizeOf, hi0, hz0, run_underlying Tryz.underlying56, Instr.fill, cells_agg, hj4, hs4, hj54, hs54]
theorem tb_size56 : (Tryz.prog.info? 56).map (·.size) = some 2 := by kernel_rfl
theorem tb_build57_0_1_2_3 {f : Nat → Value} {w : World} {d : Option Nat} {ty : TypeId} {ps : String} {af : Array Edge} {g : Option (Nat × Bool)} {x0 x1 x2 x3 : Operand} {c0_0 c0_1 c1_0 c1_1 c2_0 c2_1 c3_0 c3_1 : Value} (h0 : evF f x0 = .agg #[c0_0, c0_1]) (h1 : evF f x1 = .agg #[c1_0, c1_1]) (h2 : evF f x2 = .agg #[c2_0, c2_1]) (h3 : evF f x3 = .agg #[c3_0, c3_1]) :
    (execOp (evF f) ⟨d, .build 57 #[(0, x0), (1, x1), (2, x2), (3, x3)], ty, ps, af, g⟩).run Tryz.prog w = .ok (.value (.agg #[c0_0, c0_1, c1_0, c1_1, c2_0, c2_1, c3_0, c3_1])) w := by
  obtain ⟨i0, hi0, hz0⟩ := Option.bind_eq_some_iff.1 (show (Tryz.prog.info? 57).bind (·.zero) = _ from tb_z57)
  obtain ⟨j56, hj56, hs56⟩ := Option.map_eq_some_iff.1 tb_size56
  simp [execOp, h0, h1, h2, h3, Instr.build, zeroValue, typeInfo, sizeOf, hi0, hz0, run_underlying Tryz.underlying57, Instr.fill, cells_agg, hj56, hs56]
theorem tb_ag57 : aggN Tryz.prog 57 = some 8 := by kernel_rfl
theorem tb_z29 : zeroI Tryz.prog 29 = some (.agg #[.int .i64 0, .slice none 0 0, .slice none 0 0]) := by kernel_rfl
theorem tb_c17 : callB Tryz.prog 17 = true := by kernel_rfl
theorem tb_size27 : (Tryz.prog.info? 27).map (·.size) = some 1 := by kernel_rfl
theorem tb_build29_ {f : Nat → Value} {w : World} {d : Option Nat} {ty : TypeId} {ps : String} {af : Array Edge} {g : Option (Nat × Bool)}    :
    (execOp (evF f) ⟨d, .build 29 #[], ty, ps, af, g⟩).run Tryz.prog w = .ok (.value (.agg #[.int .i64 0, .slice none 0 0, .slice none 0 0])) w := by
  obtain ⟨i0, hi0, hz0⟩ := Option.bind_eq_some_iff.1 (show (Tryz.prog.info? 29).bind (·.zero) = _ from tb_z29)
  obtain ⟨j3, hj3, hs3⟩ := Option.map_eq_some_iff.1 tb_size3
  obtain ⟨j27, hj27, hs27⟩ := Option.map_eq_some_iff.1 tb_size27
  simp [execOp, Instr.build, zeroValue, typeInfo, sizeOf, hi0, hz0, run_underlying Tryz.underlying29, Instr.fill, cells_agg, hj3, hs3, hj27, hs27]
theorem tb_c19 : callB Tryz.prog 19 = true := by kernel_rfl
theorem tb_ag56 : aggN Tryz.prog 56 = some 2 := by kernel_rfl
theorem tb_build29_0 {f : Nat → Value} {w : World} {d : Option Nat} {ty : TypeId} {ps : String} {af : Array Edge} {g : Option (Nat × Bool)} {x0 : Operand} {c0_0 : Value} (h0 : evF f x0 = c0_0) (k0 : c0_0.cells = #[c0_0]) :
    (execOp (evF f) ⟨d, .build 29 #[(0, x0)], ty, ps, af, g⟩).run Tryz.prog w = .ok (.value (.agg #[c0_0, .slice none 0 0, .slice none 0 0])) w := by
  obtain ⟨i0, hi0, hz0⟩ := Option.bind_eq_some_iff.1 (show (Tryz.prog.info? 29).bind (·.zero) = _ from tb_z29)
  obtain ⟨j3, hj3, hs3⟩ := Option.map_eq_some_iff.1 tb_size3
  obtain ⟨j27, hj27, hs27⟩ := Option.map_eq_some_iff.1 tb_size27
  simp [execOp, h0, k0, Instr.build, zeroValue, typeInfo, sizeOf, hi0, hz0, run_underlying Tryz.underlying29, Instr.fill, cells_agg, hj3, hs3, hj27, hs27]
theorem tb_c20 : callB Tryz.prog 20 = true := by kernel_rfl
theorem tb_fo56_1 : fieldO Tryz.prog 56 1 = some 1 := by kernel_rfl
theorem tb_c21 : callB Tryz.prog 21 = true := by kernel_rfl
theorem tb_neq51 {f : Nat → Value} {w : World} {d : Option Nat} {ty t2 : TypeId} {ps : String} {af : Array Edge} {g : Option (Nat × Bool)} {x y : Operand} {a0 a1 a2 a3 b0 b1 b2 b3 : Int} (hx : evF f x = .agg #[.int .u64 a0, .int .u64 a1, .int .u64 a2, .int .u64 a3]) (hy : evF f y = .agg #[.int .u64 b0, .int .u64 b1, .int .u64 b2, .int .u64 b3]) :
    (execOp (evF f) ⟨d, .binOp .neq 51 x y t2, ty, ps, af, g⟩).run Tryz.prog w = .ok (.value (.bool (decide (¬ (a0 = b0 ∧ a1 = b1 ∧ a2 = b2 ∧ a3 = b3))))) w := by
  have hg : Tryz.prog.eqGuardType Tryz.prog.depth 51 = false := by kernel_rfl
  have ha := run_equalIn_arr (P := Tryz.prog) w 9999 4 51 49 #[.int .u64 a0, .int .u64 a1, .int .u64 a2, .int .u64 a3] #[.int .u64 b0, .int .u64 b1, .int .u64 b2, .int .u64 b3]
    (fun i => .int .u64 ([a0, a1, a2, a3].getD i 0)) (fun i => .int .u64 ([b0, b1, b2, b3].getD i 0)) (fun i => [a0, a1, a2, a3].getD i 0 == [b0, b1, b2, b3].getD i 0) Tryz.underlying51 (by kernel_rfl) (by simp [isAgg, run_underlying Tryz.underlying49])
    (fun i hi => by
      have : i = 0 ∨ i = 1 ∨ i = 2 ∨ i = 3 := by omega
      rcases this with rfl | rfl | rfl | rfl <;> rfl)
    (fun i hi => by
      have : i = 0 ∨ i = 1 ∨ i = 2 ∨ i = 3 := by omega
      rcases this with rfl | rfl | rfl | rfl <;> rfl)
    (fun i hi => run_equalIn_int w 9998 49 .u64 .u64 _ _ Tryz.underlying49)
  simp only [execOp, hx, hy, Sem.run_bind, run_eqGuard_agg _ _ _ _ _ _ _ hg, Result.andThen_ok, run_neq_struct, ha]
  simp [List.range, List.range.loop]
  by_cases q0 : a0 = b0 <;> by_cases q1 : a1 = b1 <;> by_cases q2 : a2 = b2 <;> by_cases q3 : a3 = b3 <;> simp [q0, q1, q2, q3]
theorem tb_fo56_0 : fieldO Tryz.prog 56 0 = some 0 := by kernel_rfl
theorem tb_sc54 : scalarB Tryz.prog 54 = true := by kernel_rfl
theorem tb_zs51 : (zeroI Tryz.prog 51).map (fun z => z.cells.size) = some 4 := by kernel_rfl

theorem C_spec_meanings_1 (a b c e : Nat) (w : World) :
    Fn Tryz.prog 39 #[setV a, setV b, setV c, setV e] w fun v w' => v = setV (andNot a c) := by
 refine Fn_intro (n := 12) Tryz.func39 rfl rfl (Nat.le_of_ble_eq_true rfl) ?_
 have hB : Below w.heap.size w w := Below.refl _ _
 refine Zr <| Zy (Y_box (c := #[_, _, _, _]) rfl rfl fun b0_0 W3 hb4 hE5 hm0_0 => ?_)
 have lo_b0_0 := ZO hb4 hB
 clear hb4
 replace hB := Ze hB hE5
 refine Zy (Y_box (c := #[_, _, _, _]) rfl rfl fun b0_1 W6 hb7 hE8 hm0_1 => ?_)
 have lo_b0_1 := ZO hb7 hB
 have ne_b0_0_b0_1 := Zn hb7 hm0_0
 clear hb7
 replace hB := Ze hB hE8
 replace hm0_0 := hE8.at hm0_0
 refine Zy (Y_box (c := #[_, _, _, _]) rfl rfl fun b0_2 W9 hb10 hE11 hm0_2 => ?_)
 have lo_b0_2 := ZO hb10 hB
 have ne_b0_0_b0_2 := Zn hb10 hm0_0
 have ne_b0_1_b0_2 := Zn hb10 hm0_1
 clear hb10
 replace hB := Ze hB hE11
 replace hm0_0 := hE11.at hm0_0
 replace hm0_1 := hE11.at hm0_1
 refine Zy (Y_box (c := #[_, _, _, _]) rfl rfl fun b0_3 W12 hb13 hE14 hm0_3 => ?_)
 have lo_b0_3 := ZO hb13 hB
 have ne_b0_0_b0_3 := Zn hb13 hm0_0
 have ne_b0_1_b0_3 := Zn hb13 hm0_1
 have ne_b0_2_b0_3 := Zn hb13 hm0_2
 clear hb13
 replace hB := Ze hB hE14
 replace hm0_0 := hE14.at hm0_0
 replace hm0_1 := hE14.at hm0_1
 replace hm0_2 := hE14.at hm0_2
 refine Zy (Y_alloc tb_z51 rfl fun b0_4 W15 hb16 hE17 hm0_4 => ?_)
 have lo_b0_4 := ZO hb16 hB
 have ne_b0_0_b0_4 := Zn hb16 hm0_0
 have ne_b0_1_b0_4 := Zn hb16 hm0_1
 have ne_b0_2_b0_4 := Zn hb16 hm0_2
 have ne_b0_3_b0_4 := Zn hb16 hm0_3
 clear hb16
 replace hB := Ze hB hE17
 replace hm0_0 := hE17.at hm0_0
 replace hm0_1 := hE17.at hm0_1
 replace hm0_2 := hE17.at hm0_2
 replace hm0_3 := hE17.at hm0_3
 replace hm0_4 : At W15 b0_4 #[wv 0 0, wv 0 1, wv 0 2, wv 0 3] 51 := hm0_4
 refine WL_nil <| Zr <| Zv (r_loadW rfl tb_ag51 rfl hm0_0) <| Zv (r_loadW rfl tb_ag51 rfl hm0_2) <| ZC tb_c40 (C_set_Less _ _ _) rfl fun v1_2 W20 hE21 hP1_2 => ?_
 replace hB := Ze hB hE21
 replace hm0_0 := hE21.at hm0_0
 replace hm0_1 := hE21.at hm0_1
 replace hm0_2 := hE21.at hm0_2
 replace hm0_3 := hE21.at hm0_3
 replace hm0_4 := hE21.at hm0_4
 obtain rfl := hP1_2
 refine Zy (Y_storeW rfl rfl tb_ag51 rfl hm0_4 rfl rfl fun W23 hG24 hm25 => ?_)
 replace hB := Zg hB hG24 lo_b0_4
 replace hm0_0 := At.grownNe hm0_0 ne_b0_0_b0_4 hG24
 replace hm0_1 := At.grownNe hm0_1 ne_b0_1_b0_4 hG24
 replace hm0_2 := At.grownNe hm0_2 ne_b0_2_b0_4 hG24
 replace hm0_3 := At.grownNe hm0_3 ne_b0_3_b0_4 hG24
 replace hm0_4 := hm25
 refine WL_nil <| Zt <| ret_c rfl tb_ag51 hm0_4 rfl ⟨hB, ?_⟩
 rfl

theorem C_spec_meanings_2 (a b c e : Nat) (w : World) :
    Fn Tryz.prog 41 #[setV a, setV b, setV c, setV e] w fun v w' => v = setV b := by
 refine Fn_intro (n := 10) Tryz.func41 rfl rfl (Nat.le_of_ble_eq_true rfl) ?_
 have hB : Below w.heap.size w w := Below.refl _ _
 refine Zr <| Zy (Y_box (c := #[_, _, _, _]) rfl rfl fun b0_0 W3 hb4 hE5 hm0_0 => ?_)
 have lo_b0_0 := ZO hb4 hB
 clear hb4
 replace hB := Ze hB hE5
 refine Zy (Y_box (c := #[_, _, _, _]) rfl rfl fun b0_1 W6 hb7 hE8 hm0_1 => ?_)
 have lo_b0_1 := ZO hb7 hB
 have ne_b0_0_b0_1 := Zn hb7 hm0_0
 clear hb7
 replace hB := Ze hB hE8
 replace hm0_0 := hE8.at hm0_0
 refine Zy (Y_box (c := #[_, _, _, _]) rfl rfl fun b0_2 W9 hb10 hE11 hm0_2 => ?_)
 have lo_b0_2 := ZO hb10 hB
 have ne_b0_0_b0_2 := Zn hb10 hm0_0
 have ne_b0_1_b0_2 := Zn hb10 hm0_1
 clear hb10
 replace hB := Ze hB hE11
 replace hm0_0 := hE11.at hm0_0
 replace hm0_1 := hE11.at hm0_1
 refine Zy (Y_box (c := #[_, _, _, _]) rfl rfl fun b0_3 W12 hb13 hE14 hm0_3 => ?_)
 have lo_b0_3 := ZO hb13 hB
 have ne_b0_0_b0_3 := Zn hb13 hm0_0
 have ne_b0_1_b0_3 := Zn hb13 hm0_1
 have ne_b0_2_b0_3 := Zn hb13 hm0_2
 clear hb13
 replace hB := Ze hB hE14
 replace hm0_0 := hE14.at hm0_0
 replace hm0_1 := hE14.at hm0_1
 replace hm0_2 := hE14.at hm0_2
 refine Zy (Y_alloc tb_z51 rfl fun b0_4 W15 hb16 hE17 hm0_4 => ?_)
 have lo_b0_4 := ZO hb16 hB
 have ne_b0_0_b0_4 := Zn hb16 hm0_0
 have ne_b0_1_b0_4 := Zn hb16 hm0_1
 have ne_b0_2_b0_4 := Zn hb16 hm0_2
 have ne_b0_3_b0_4 := Zn hb16 hm0_3
 clear hb16
 replace hB := Ze hB hE17
 replace hm0_0 := hE17.at hm0_0
 replace hm0_1 := hE17.at hm0_1
 replace hm0_2 := hE17.at hm0_2
 replace hm0_3 := hE17.at hm0_3
 replace hm0_4 : At W15 b0_4 #[wv 0 0, wv 0 1, wv 0 2, wv 0 3] 51 := hm0_4
 refine WL_nil <| Zr <| Zv (r_loadW rfl tb_ag51 rfl hm0_1) <| Zy (Y_storeW rfl rfl tb_ag51 rfl hm0_4 rfl rfl fun W20 hG21 hm22 => ?_)
 replace hB := Zg hB hG21 lo_b0_4
 replace hm0_0 := At.grownNe hm0_0 ne_b0_0_b0_4 hG21
 replace hm0_1 := At.grownNe hm0_1 ne_b0_1_b0_4 hG21
 replace hm0_2 := At.grownNe hm0_2 ne_b0_2_b0_4 hG21
 replace hm0_3 := At.grownNe hm0_3 ne_b0_3_b0_4 hG21
 replace hm0_4 := hm22
 refine WL_nil <| Zt <| ret_c rfl tb_ag51 hm0_4 rfl ⟨hB, ?_⟩
 rfl

theorem C_spec_meanings_3 (a b c e : Nat) (w : World) :
    Fn Tryz.prog 42 #[setV a, setV b, setV c, setV e] w fun v w' => v = setV (b ||| e) := by
 refine Fn_intro (n := 12) Tryz.func42 rfl rfl (Nat.le_of_ble_eq_true rfl) ?_
 have hB : Below w.heap.size w w := Below.refl _ _
 refine Zr <| Zy (Y_box (c := #[_, _, _, _]) rfl rfl fun b0_0 W3 hb4 hE5 hm0_0 => ?_)
 have lo_b0_0 := ZO hb4 hB
 clear hb4
 replace hB := Ze hB hE5
 refine Zy (Y_box (c := #[_, _, _, _]) rfl rfl fun b0_1 W6 hb7 hE8 hm0_1 => ?_)
 have lo_b0_1 := ZO hb7 hB
 have ne_b0_0_b0_1 := Zn hb7 hm0_0
 clear hb7
 replace hB := Ze hB hE8
 replace hm0_0 := hE8.at hm0_0
 refine Zy (Y_box (c := #[_, _, _, _]) rfl rfl fun b0_2 W9 hb10 hE11 hm0_2 => ?_)
 have lo_b0_2 := ZO hb10 hB
 have ne_b0_0_b0_2 := Zn hb10 hm0_0
 have ne_b0_1_b0_2 := Zn hb10 hm0_1
 clear hb10
 replace hB := Ze hB hE11
 replace hm0_0 := hE11.at hm0_0
 replace hm0_1 := hE11.at hm0_1
 refine Zy (Y_box (c := #[_, _, _, _]) rfl rfl fun b0_3 W12 hb13 hE14 hm0_3 => ?_)
 have lo_b0_3 := ZO hb13 hB
 have ne_b0_0_b0_3 := Zn hb13 hm0_0
 have ne_b0_1_b0_3 := Zn hb13 hm0_1
 have ne_b0_2_b0_3 := Zn hb13 hm0_2
 clear hb13
 replace hB := Ze hB hE14
 replace hm0_0 := hE14.at hm0_0
 replace hm0_1 := hE14.at hm0_1
 replace hm0_2 := hE14.at hm0_2
 refine Zy (Y_alloc tb_z51 rfl fun b0_4 W15 hb16 hE17 hm0_4 => ?_)
 have lo_b0_4 := ZO hb16 hB
 have ne_b0_0_b0_4 := Zn hb16 hm0_0
 have ne_b0_1_b0_4 := Zn hb16 hm0_1
 have ne_b0_2_b0_4 := Zn hb16 hm0_2
 have ne_b0_3_b0_4 := Zn hb16 hm0_3
 clear hb16
 replace hB := Ze hB hE17
 replace hm0_0 := hE17.at hm0_0
 replace hm0_1 := hE17.at hm0_1
 replace hm0_2 := hE17.at hm0_2
 replace hm0_3 := hE17.at hm0_3
 replace hm0_4 : At W15 b0_4 #[wv 0 0, wv 0 1, wv 0 2, wv 0 3] 51 := hm0_4
 refine WL_nil <| Zr <| Zv (r_loadW rfl tb_ag51 rfl hm0_1) <| Zv (r_loadW rfl tb_ag51 rfl hm0_3) <| ZC tb_c43 (C_set_Or _ _ _) rfl fun v1_2 W20 hE21 hP1_2 => ?_
 replace hB := Ze hB hE21
 replace hm0_0 := hE21.at hm0_0
 replace hm0_1 := hE21.at hm0_1
 replace hm0_2 := hE21.at hm0_2
 replace hm0_3 := hE21.at hm0_3
 replace hm0_4 := hE21.at hm0_4
 obtain rfl := hP1_2
 refine Zy (Y_storeW rfl rfl tb_ag51 rfl hm0_4 rfl rfl fun W23 hG24 hm25 => ?_)
 replace hB := Zg hB hG24 lo_b0_4
 replace hm0_0 := At.grownNe hm0_0 ne_b0_0_b0_4 hG24
 replace hm0_1 := At.grownNe hm0_1 ne_b0_1_b0_4 hG24
 replace hm0_2 := At.grownNe hm0_2 ne_b0_2_b0_4 hG24
 replace hm0_3 := At.grownNe hm0_3 ne_b0_3_b0_4 hG24
 replace hm0_4 := hm25
 refine WL_nil <| Zt <| ret_c rfl tb_ag51 hm0_4 rfl ⟨hB, ?_⟩
 rfl

theorem C_mn (k : Int) (all ones nz fr : Nat) (w : World) : Fn Tryz.prog (mnA 41 42 39 k) #[setV all, setV ones, setV nz, setV fr] w fun v w' => v = setV (mayF k all ones nz fr) := by
  unfold mnA mayF
  by_cases h0 : k = 0
  · rw [if_pos h0, if_pos h0]; exact C_spec_meanings_2 all ones nz fr w
  · rw [if_neg h0, if_neg h0]
    by_cases h1 : k = 1
    · rw [if_pos h1, if_pos h1]; exact C_spec_meanings_3 all ones nz fr w
    · rw [if_neg h1, if_neg h1]; exact C_spec_meanings_1 all ones nz fr w
theorem callB_mn (k : Int) : callB Tryz.prog (mnA 41 42 39 k) = true := by
  unfold mnA
  by_cases h0 : k = 0
  · rw [if_pos h0]; kernel_rfl
  · rw [if_neg h0]
    by_cases h1 : k = 1
    · rw [if_pos h1]; kernel_rfl
    · rw [if_neg h1]; kernel_rfl

theorem C_spec_meanings  (w : World) :
    Fn Tryz.prog 19 #[] w fun v w' => v = .agg #[.func (.func 41) #[] #[], .bool false, .func (.func 42) #[] #[], .bool false, .func (.func 39) #[] #[], .bool true, .func (.func 39) #[] #[], .bool true] := by
 refine Fn_intro (n := 9) Tryz.func19 rfl rfl (Nat.le_of_ble_eq_true rfl) ?_
 have hB : Below w.heap.size w w := Below.refl _ _
 refine Zr <| Zy (Y_alloc tb_z57 rfl fun b0_0 W3 hb4 hE5 hm0_0 => ?_)
 have lo_b0_0 := ZO hb4 hB
 clear hb4
 replace hB := Ze hB hE5
 refine WL_nil <| Zr <| Zw (.func (.func 39) #[] #[]) rfl <| WL_nil <| Zr <| Zv (tb_build56_0_1 (h0 := rfl) (k0 := rfl) (h1 := rfl) (k1 := rfl) (c0_0 := .func (.func 41) #[] #[]) (c1_0 := .bool false)) <| Zv (tb_build56_0_1 (h0 := rfl) (k0 := rfl) (h1 := rfl) (k1 := rfl) (c0_0 := .func (.func 42) #[] #[]) (c1_0 := .bool false)) <| Zw (.func (.func 39) #[] #[]) rfl <| Zv (tb_build56_0_1 (h0 := rfl) (k0 := rfl) (h1 := rfl) (k1 := rfl) (c0_0 := .func (.func 39) #[] #[]) (c1_0 := .bool true)) <| Zw (.func (.func 39) #[] #[]) rfl <| Zv (tb_build56_0_1 (h0 := rfl) (k0 := rfl) (h1 := rfl) (k1 := rfl) (c0_0 := .func (.func 39) #[] #[]) (c1_0 := .bool true)) <| Zv (tb_build57_0_1_2_3 (h0 := rfl) (h1 := rfl) (h2 := rfl) (h3 := rfl) ) <| Zy (Y_storeW rfl rfl tb_ag57 rfl hm0_0 rfl rfl fun W10 hG11 hm12 => ?_)
 replace hB := Zg hB hG11 lo_b0_0
 replace hm0_0 := hm12
 refine WL_nil <| Zt <| ret_c rfl tb_ag57 hm0_0 rfl ⟨hB, ?_⟩
 rfl

theorem C_spec_marked (T : Tb) (lv : Value) (vs : List LnV) (o : Nat) (m : Int) (w : World) (hlv : SlT encLn 3 w lv vs) (hls : LsAt w vs T.ls) (hmb : ∀ i, i < T.ls.length → (T.ls.getD i ln0).c.m < 256 ∧ (T.ls.getD i ln0).c.v < 256) (hr : rightT T = true) (ho : (o : Int) < T.no) :
    Fn Tryz.prog 20 #[.agg #[.int .i64 T.kind, .int .i64 T.ni, .int .i64 T.no, lv], .int .i64 (o : Int), .int .i64 m] w fun v w' => v = setV (mkS T o m) := by
 refine Fn_intro (n := 39) Tryz.func20 rfl rfl (Nat.le_of_ble_eq_true rfl) ?_
 have hB : Below w.heap.size w w := Below.refl _ _
 have hle := hls.len
 obtain ⟨hk0, hk3, hi0, hi8, hno1, hno4, hl64⟩ := right_hd hr
 refine Zr <| Zy (Y_box (c := #[_, _, _, _]) rfl rfl fun b0_0 W3 hb4 hE5 hm0_0 => ?_)
 have lo_b0_0 := ZO hb4 hB
 clear hb4
 replace hB := Ze hB hE5
 refine Zy (Y_alloc tb_z51 rfl fun b0_1 W6 hb7 hE8 hm0_1 => ?_)
 have lo_b0_1 := ZO hb7 hB
 clear hb7
 replace hB := Ze hB hE8
 replace hm0_0 := hE8.at hm0_0
 replace hm0_1 : At W6 b0_1 #[wv 0 0, wv 0 1, wv 0 2, wv 0 3] 51 := hm0_1
 refine WL_nil <| Zr <| Zy (Y_alloc tb_z51 rfl fun b1_0 W11 hb12 hE13 hm1_0 => ?_)
 have lo_b1_0 := ZO hb12 hB
 have ne_b0_1_b1_0 := Zn hb12 hm0_1
 clear hb12
 replace hB := Ze hB hE13
 replace hm0_0 := hE13.at hm0_0
 replace hm0_1 := hE13.at hm0_1
 replace hm1_0 : At W11 b1_0 #[wv 0 0, wv 0 1, wv 0 2, wv 0 3] 51 := hm1_0
 refine WL_nil <| WC_seq fun K14 hK15 => Zr <| Zf rfl tb_fo24_3 <| ZL lv rfl tb_sc22 hm0_0 rfl <| Zv (r_lenS (v := lv) rfl (Below.slT hB hlv) tb_el22) <| Zi rfl <| WL_nil <| WC_block ?_
 refine WC_loop (σ := (Nat)) [9, 10, 11, 15, 16, 17, 18, 19, 20, 21, 22, 23, 24, 25, 26, 27, 28, 29, 30, 31, 32, 33, 34, 35, 36, 37] (fun k => [(15, .int .i64 (k : Int))]) (fun k W => (Below w.heap.size w W) ∧ (At W b0_0 _ 24) ∧ (At W b0_1 _ 51) ∧ (At W b1_0 #[wv (mkTo T o m k) 0, wv (mkTo T o m k) 1, wv (mkTo T o m k) 2, wv (mkTo T o m k) 3] 51) ∧ (k ≤ T.ls.length) ∧ (True)) (fun k => T.ls.length - k) (0) ⟨rfl, trivial⟩ ⟨hB, hm0_0, hm0_1, hm1_0, (Nat.zero_le _), trivial⟩ ?_
 clear hB hm0_0 hm0_1 hm1_0
 rintro k g19 W18 ⟨hB, hm0_0, hm0_1, hm1_0, hk, _⟩ J20 hJ21
 refine Zr <| Zv (r_lss rfl rfl) <| WL_nil <| WC_seq fun K24 hK25 => ZQ rfl (fun hc0 => ?_) fun hc0 => ?_
 refine WC_skip <| hK25 _ _ <| WC_seq fun K26 hK27 => WC_block ?_
 have hck := hls.c k (by omega)
 have hln := right_ln hr (show k < T.ls.length by omega)
 obtain ⟨hr1, hr2, hr3⟩ := lnOk_iff.1 hln
 have hbk := hmb k (by omega)
 have hb1 : (vs.getD k lv0).c.m < 256 ∧ (vs.getD k lv0).c.v < 256 := by rw [hck]; exact hbk
 have hrb : rightB (vs.getD k lv0).c.m (vs.getD k lv0).c.v T.ni = true := by rw [hck]; exact hr1
 refine Zr <| Zv (r_idxS (v := lv) rfl (Below.slT hB hlv) rfl tb_el22 Om (by first | omega | (simp only [onTo_len, mayTo_len_]; omega))) <| Zv (r_load3 rfl tb_ag44 (SlT.cell (Below.slT hB hlv) encLn_len lv0 Om (by first | omega | (simp only [onTo_len, mayTo_len_]; omega)) 0 rfl) (SlT.cell (Below.slT hB hlv) encLn_len lv0 Om (by first | omega | (simp only [onTo_len, mayTo_len_]; omega)) 1 rfl) (SlT.cell (Below.slT hB hlv) encLn_len lv0 Om (by first | omega | (simp only [onTo_len, mayTo_len_]; omega)) 2 rfl)) ?_
 have hp4_1 : SlT encI 1 w ((vs.getD k lv0).o) ((T.ls.getD k ln0).os) := hls.o k (by omega)
 refine Zy (Y_alloc tb_z44 rfl fun b4_2 W30 hb31 hE32 hm4_2 => ?_)
 have lo_b4_2 := ZO hb31 hB
 clear hb31
 replace hB := Ze hB hE32
 replace hm0_0 := hE32.at hm0_0
 replace hm0_1 := hE32.at hm0_1
 replace hm1_0 := hE32.at hm1_0
 refine Zy (Y_storeW rfl rfl tb_ag44 rfl hm4_2 rfl (by exact one_ln (SlT.one hp4_1)) fun W33 hG34 hm35 => ?_)
 replace hB := Zg hB hG34 lo_b4_2
 replace hm0_0 := At.grownAt hm0_0 hm4_2 hG34 Dc
 replace hm0_1 := At.grownAt hm0_1 hm4_2 hG34 Dc
 replace hm1_0 := At.grownAt hm1_0 hm4_2 hG34 Dc
 replace hm4_2 := hm35
 refine WL_nil <| Zr <| Zf rfl tb_fo44_1 <| ZL ((vs.getD k lv0).o) rfl tb_sc42 hm4_2 rfl <| Zi rfl <| Zv (r_idxS (v := (vs.getD k lv0).o) rfl (Below.slT hB hp4_1) rfl tb_el42 Om (by first | omega | (simp only [onTo_len, mayTo_len_]; omega))) <| Zv (r_load1 (v := .int .i64 _) rfl tb_sc3 (SlT.cell (Below.slT hB hp4_1) encI_len 0 Om (by first | omega | (simp only [onTo_len, mayTo_len_]; omega)) 0 rfl)) <| Zi rfl <| Zv (r_eql rfl rfl) <| WL_nil <| ZQ rfl (fun hc1 => ?_) fun hc1 => ?_
 refine Zr <| Zf rfl tb_fo44_0 <| Zv (r_load2 rfl tb_ag41 (At.cell hm4_2 rfl) (At.cell hm4_2 rfl)) <| Zf rfl tb_fo24_1 <| Zl rfl tb_sc3 hm0_0 rfl <| ZC tb_c44 (C_cube_Points (vs.getD k lv0).c.m (vs.getD k lv0).c.v _ _ hb1.1 hb1.2) rfl fun v6_4 W40 hE41 hP6_4 => ?_
 replace hB := Ze hB hE41
 replace hm0_0 := hE41.at hm0_0
 replace hm0_1 := hE41.at hm0_1
 replace hm1_0 := hE41.at hm1_0
 replace hm4_2 := hE41.at hm4_2
 rw [if_pos hrb] at hP6_4
 obtain rfl := hP6_4
 refine Zw (.tuple #[.agg #[_, _, _, _], .int .i64 0]) rfl <| Zv (r_ext2_0 rfl) <| Zv (r_ext2_1 rfl) <| Zy (Y_alloc tb_z51 rfl fun b6_8 W43 hb44 hE45 hm6_8 => ?_)
 have lo_b6_8 := ZO hb44 hB
 have ne_b0_1_b6_8 := Zn hb44 hm0_1
 have ne_b1_0_b6_8 := Zn hb44 hm1_0
 clear hb44
 replace hB := Ze hB hE45
 replace hm0_0 := hE45.at hm0_0
 replace hm0_1 := hE45.at hm0_1
 replace hm1_0 := hE45.at hm1_0
 replace hm4_2 := hE45.at hm4_2
 replace hm6_8 : At W43 b6_8 #[wv 0 0, wv 0 1, wv 0 2, wv 0 3] 51 := hm6_8
 refine Zy (Y_storeW rfl rfl tb_ag51 rfl hm6_8 rfl rfl fun W46 hG47 hm48 => ?_)
 replace hB := Zg hB hG47 lo_b6_8
 replace hm0_0 := At.grownAt hm0_0 hm6_8 hG47 Dc
 replace hm0_1 := At.grownNe hm0_1 ne_b0_1_b6_8 hG47
 replace hm1_0 := At.grownNe hm1_0 ne_b1_0_b6_8 hG47
 replace hm4_2 := At.grownAt hm4_2 hm6_8 hG47 Dc
 replace hm6_8 := hm48
 refine Zi rfl <| WL_nil <| WC_region <| Zv (r_loadW rfl tb_ag51 rfl hm1_0) <| Zv (r_loadW rfl tb_ag51 rfl hm6_8) <| ZC tb_c43 (C_set_Or _ _ _) rfl fun v7_2 W49 hE50 hP7_2 => ?_
 replace hB := Ze hB hE50
 replace hm0_0 := hE50.at hm0_0
 replace hm0_1 := hE50.at hm0_1
 replace hm1_0 := hE50.at hm1_0
 replace hm4_2 := hE50.at hm4_2
 replace hm6_8 := hE50.at hm6_8
 obtain rfl := hP7_2
 refine Zy (Y_storeW rfl rfl tb_ag51 rfl hm1_0 rfl rfl fun W52 hG53 hm54 => ?_)
 replace hB := Zg hB hG53 lo_b1_0
 replace hm0_0 := At.grownAt hm0_0 hm1_0 hG53 Dc
 replace hm0_1 := At.grownNe hm0_1 ne_b0_1_b1_0 hG53
 replace hm4_2 := At.grownAt hm4_2 hm1_0 hG53 Dc
 replace hm6_8 := At.grownNe hm6_8 (Ne.symm ne_b1_0_b6_8) hG53
 replace hm1_0 := hm54
 refine WL_nil <| hK27 _ _ <| WC_region <| Zv (r_addI rfl rfl Om Om) <| Zi rfl <| WL_nil ?_
 exact hJ21 _ _ (k + 1) Za ⟨rfl, trivial⟩ ⟨hB, hm0_0, hm0_1, (by first | (rw [← mkTo_t (o := o) (k := k) hc1, ← hck]; exact hm1_0) | (rw [← mkTo_f (o := o) (k := k) hc1]; exact hm1_0)), Om, trivial⟩ Zo
 refine WC_skip <| hK27 _ _ <| WC_region <| Zv (r_addI rfl rfl Om Om) <| Zi rfl <| WL_nil ?_
 exact hJ21 _ _ (k + 1) Za ⟨rfl, trivial⟩ ⟨hB, hm0_0, hm0_1, (by first | (rw [← mkTo_t (o := o) (k := k) hc1, ← hck]; exact hm1_0) | (rw [← mkTo_f (o := o) (k := k) hc1]; exact hm1_0)), Om, trivial⟩ Zo
 refine WC_exit <| hK15 _ _ <| Zr <| Zv (r_loadW rfl tb_ag51 rfl hm1_0) <| Zy (Y_storeW rfl rfl tb_ag51 rfl hm0_1 rfl rfl fun W57 hG58 hm59 => ?_)
 replace hB := Zg hB hG58 lo_b0_1
 replace hm0_0 := At.grownAt hm0_0 hm0_1 hG58 Dc
 replace hm1_0 := At.grownNe hm1_0 (Ne.symm ne_b0_1_b1_0) hG58
 replace hm0_1 := hm59
 refine WL_nil <| Zt <| ret_c rfl tb_ag51 hm0_1 rfl ⟨hB, ?_⟩
 obtain rfl : k = T.ls.length := by omega
 rfl

set_option maxHeartbeats 4000000 in
theorem C_spec_Of (T : Tb) (lv : Value) (vs : List LnV) (w : World) (hlv : SlT encLn 3 w lv vs) (hls : LsAt w vs T.ls) (hmb : ∀ i, i < T.ls.length → (T.ls.getD i ln0).c.m < 256 ∧ (T.ls.getD i ln0).c.v < 256) :
    Fn Tryz.prog 7 #[.agg #[.int .i64 T.kind, .int .i64 T.ni, .int .i64 T.no, lv]] w fun v w' => (ofE T = 0 ∧ ∃ onV mayV, v = .tuple #[.agg #[.int .i64 T.ni, onV, mayV], .int .i64 0] ∧ OwT encS 4 51 w' w.heap.size onV (onTo T T.no.toNat) ∧ OwT encS 4 51 w' w.heap.size mayV (mayTo_ T T.no.toNat)) ∨ (ofE T ≠ 0 ∧ v = .tuple #[.agg #[.int .i64 0, .slice none 0 0, .slice none 0 0], .int .i64 (ofE T)]) := by
 refine Fn_intro (n := 73) Tryz.func7 rfl rfl (Nat.le_of_ble_eq_true rfl) ?_
 have hB : Below w.heap.size w w := Below.refl _ _
 have hle := hls.len
 refine Zr <| Zy (Y_box (c := #[_, _, _, _]) rfl rfl fun b0_0 W3 hb4 hE5 hm0_0 => ?_)
 have lo_b0_0 := ZO hb4 hB
 clear hb4
 replace hB := Ze hB hE5
 refine Zy (Y_alloc tb_z29 rfl fun b0_1 W6 hb7 hE8 hm0_1 => ?_)
 have lo_b0_1 := ZO hb7 hB
 clear hb7
 replace hB := Ze hB hE8
 replace hm0_0 := hE8.at hm0_0
 refine Zi rfl <| WL_nil <| WC_seq fun K9 hK10 => Zr <| Zv (r_loadW rfl tb_ag24 rfl hm0_0) <| ZC tb_c17 (C_pla_Right _ _ _ _ (Below.slT hB hlv) (LsAt.below hB hls) (by assumption)) rfl fun v1_1 W13 hE14 hP1_1 => ?_
 replace hB := Ze hB hE14
 replace hm0_0 := hE14.at hm0_0
 replace hm0_1 := hE14.at hm0_1
 obtain rfl := hP1_1
 refine Zv (r_not rfl) <| WL_nil <| ZQ rfl (fun hc0 => ?_) fun hc0 => ?_
 refine Zr <| Zv (tb_build29_ ) <| Zy (Y_storeW rfl rfl tb_ag29 rfl hm0_1 rfl rfl fun W18 hG19 hm20 => ?_)
 replace hB := Zg hB hG19 lo_b0_1
 replace hm0_0 := At.grownAt hm0_0 hm0_1 hG19 Dc
 replace hm0_1 := hm20
 refine Zi rfl <| WL_nil <| Zt <| ret_ct rfl tb_ag29 hm0_1 rfl (v1 := .int .i64 1) rfl ⟨hB, ?_⟩
 first | (rw [ofE_1 (by simpa using hc0)]; exact .inr ⟨by decide, rfl⟩) | (rw [ofE_4 (o := o) hr (by omega) (clash_t hs10_2 hn8 hc2)]; exact .inr ⟨by decide, rfl⟩) | (have ho2 : o = T.no.toNat := (by omega); subst ho2; exact .inl ⟨ofE_0 hr hq, onv, mayv, rfl, hon, hmay⟩)
 refine WC_skip <| hK10 _ _ ?_
 have hr : rightT T = true := by simpa using hc0
 obtain ⟨hk0, hk3, hi0, hi8, hno1, hno4, hl64⟩ := right_hd hr
 have hn8 := right_n hr
 obtain ⟨no, hno⟩ := Int.eq_ofNat_of_zero_le (show 0 ≤ T.no by omega)
 refine Zr <| Zf rfl tb_fo24_1 <| Zl rfl tb_sc3 hm0_0 rfl <| ZC tb_c18 (C_set_All _ _) rfl fun v3_2 W23 hE24 hP3_2 => ?_
 replace hB := Ze hB hE24
 replace hm0_0 := hE24.at hm0_0
 replace hm0_1 := hE24.at hm0_1
 rw [if_pos ⟨hi0, hi8⟩] at hP3_2
 obtain rfl := hP3_2
 refine Zw (.tuple #[.agg #[_, _, _, _], .int .i64 0]) rfl <| Zv (r_ext2_0 rfl) <| Zv (r_ext2_1 rfl) <| Zy (Y_alloc tb_z51 rfl fun b3_6 W26 hb27 hE28 hm3_6 => ?_)
 have lo_b3_6 := ZO hb27 hB
 clear hb27
 replace hB := Ze hB hE28
 replace hm0_0 := hE28.at hm0_0
 replace hm0_1 := hE28.at hm0_1
 replace hm3_6 : At W26 b3_6 #[wv 0 0, wv 0 1, wv 0 2, wv 0 3] 51 := hm3_6
 refine Zy (Y_storeW rfl rfl tb_ag51 rfl hm3_6 rfl rfl fun W29 hG30 hm31 => ?_)
 replace hB := Zg hB hG30 lo_b3_6
 replace hm0_0 := At.grownAt hm0_0 hm3_6 hG30 Dc
 replace hm0_1 := At.grownAt hm0_1 hm3_6 hG30 Dc
 replace hm3_6 := hm31
 refine Zi rfl <| WL_nil <| Zd Ext fun W34 hE35 => ?_
 replace hB := Ze hB hE35
 replace hm0_0 := hE35.at hm0_0
 replace hm0_1 := hE35.at hm0_1
 replace hm3_6 := hE35.at hm3_6
 have hS := Ext.refl W34
 refine Tf 1 rfl rfl tb_fo24_0 hS <| Tk 2 rfl (fun _ hq => r_load1 (v := .int .i64 _) rfl tb_sc3 (At.cell (hq.at hm0_0) rfl)) hS ?_
 refine WT_two 0 4 (by kernel_rfl) rfl rfl rfl rfl rfl rfl rfl rfl (Yd.call (r_call0 tb_c19) (C_spec_meanings _) (fun v4_0 W36 hE37 hP4_0 => ⟨.inl (hS.trans hE37), ?_⟩)) (Y_alloc tb_z56 rfl (fun b4_4 W40 hb41 hE42 hm4_4 => ⟨.inl (hS.trans hE42), ?_⟩))
 replace hB := Ze hB hE37
 replace hm0_0 := hE37.at hm0_0
 replace hm0_1 := hE37.at hm0_1
 replace hm3_6 := hE37.at hm3_6
 replace hS := hS.trans hE37
 obtain rfl := hP4_0
 refine Tk 3 rfl (fun _ _ => r_indexMn rfl rfl Tryz.underlying57 Tryz.underlying56 (by kernel_rfl) hk0 hk3) hS <| To 4 rfl (Y_alloc tb_z56 rfl fun b4_4 W44 hb45 hE46 hm4_4 => ⟨.inl (hS.trans hE46), ?_⟩)
 have lo_b4_4 := ZO hb45 hB
 clear hb45
 replace hB := Ze hB hE46
 replace hm0_0 := hE46.at hm0_0
 replace hm0_1 := hE46.at hm0_1
 replace hm3_6 := hE46.at hm3_6
 replace hS := hS.trans hE46
 refine To 5 rfl (Y_storeW rfl rfl tb_ag56 rfl hm4_4 rfl rfl fun W47 hG48 hm49 => ⟨.inr (by kernel_rfl), ?_⟩)
 replace hB := Zg hB hG48 lo_b4_4
 replace hm0_0 := At.grownAt hm0_0 hm4_4 hG48 Dc
 replace hm0_1 := At.grownAt hm0_1 hm4_4 hG48 Dc
 replace hm3_6 := At.grownAt hm3_6 hm4_4 hG48 Dc
 replace hm4_4 := hm49
 refine Td ?_
 have hz53 := Below.slT hB hlv
 have hz54 := LsAt.below hB hls
 have hBo52 := hB
 replace hB := Below.refl W47.heap.size W47
 refine Zr <| Zf rfl tb_fo24_1 <| Zl rfl tb_sc3 (Below.atI hB hm0_0) rfl <| Zv (tb_build29_0 (h0 := rfl) (k0 := rfl) (c0_0 := .int .i64 _)) <| Zy (Y_alloc tb_z29 rfl fun b5_3 W55 hb56 hE57 hm5_3 => ?_)
 have lo_b5_3 := ZO hb56 hB
 have ne_b0_1_b5_3 : b0_1 ≠ b5_3 := Nat.ne_of_lt (hb56 ▸ (Below.atI hB hm0_1).lt)
 clear hb56
 replace hB := Ze hB hE57
 refine Zy (Y_storeW rfl rfl tb_ag29 rfl hm5_3 rfl rfl fun W58 hG59 hm60 => ?_)
 replace hB := Zg hB hG59 lo_b5_3
 replace hm5_3 := hm60
 refine WL_nil <| WC_seq fun K61 hK62 => Zr <| Zf rfl tb_fo24_2 <| Zl rfl tb_sc3 (Below.atI hB hm0_0) rfl <| Zi rfl <| WL_nil <| WC_block ?_
 refine WC_loop (σ := (Nat) × (Value) × (Value)) [3, 8, 9, 10, 11, 31, 32, 33, 34, 35, 36, 37, 38, 39, 40, 41, 42, 43, 44, 45, 46, 47, 48, 49, 50, 51, 52, 53, 54, 55, 56, 57, 58, 59, 60, 61, 62, 63, 64, 65, 66, 67, 68, 69, 70, 71] (fun (o, onv, mayv) => [(31, .int .i64 (o : Int))]) (fun sg W => match sg with | (o, onv, mayv) => (Below W47.heap.size W47 W) ∧ (At W b5_3 #[.int .i64 T.ni, onv, mayv] 29) ∧ (OwT encS 4 51 W W47.heap.size onv (onTo T o)) ∧ (OwT encS 4 51 W W47.heap.size mayv (mayTo_ T o)) ∧ (Apart onv mayv) ∧ ((o : Int) ≤ T.no) ∧ (∀ q, q < o → clash T q = false) ∧ (True)) (fun (o, onv, mayv) => T.no.toNat - o) ((0, .slice none 0 0, .slice none 0 0)) ⟨rfl, trivial⟩ ⟨hB, hm5_3, OwT.nil, OwT.nil, Apart.nilL, Om, upTo_zero, trivial⟩ ?_
 clear hB hm5_3
 rintro ⟨o, onv, mayv⟩ g66 W65 ⟨hB, hm5_3, hon, hmay, hap, ho, hq, _⟩ J67 hJ68
 refine Zr <| Zv (r_lss rfl rfl) <| WL_nil <| WC_seq fun K71 hK72 => ZQ rfl (fun hc1 => ?_) fun hc1 => ?_
 refine WC_skip <| hK72 _ _ <| WC_seq fun K73 hK74 => WC_block <| Zr <| Zi rfl <| Zi rfl <| WL_nil <| Zd Ext fun W79 hE80 => ?_
 replace hB := Ze hB hE80
 replace hm5_3 := hE80.at hm5_3
 replace hon := hE80.ow hon
 replace hmay := hE80.ow hmay
 have hS := Ext.refl W79
 refine Tk 0 rfl (fun _ hq => r_loadW rfl tb_ag24 rfl (hq.at (Below.atI hB hm0_0))) hS <| Ti 1 rfl rfl hS <| Tk 3 rfl (fun _ hq => r_loadW rfl tb_ag24 rfl (hq.at (Below.atI hB hm0_0))) hS <| Ti 4 rfl rfl hS <| Tk 6 rfl (fun _ hq => r_loadW rfl tb_ag24 rfl (hq.at (Below.atI hB hm0_0))) hS <| Ti 7 rfl rfl hS ?_
 refine WT_par (m := 6) (A := [2, 5, 8, 9, 10, 11]) (L1 := #[true, true, true, true, true, true, true, true, true, true, true, true, false, false, false]) (T := [36, 39, 42, 9, 10, 11]) (fun L g W => ∃ b9_9 b9_10 b9_11 : Nat, (Ext W79 W) ∧ (Below W47.heap.size W47 W) ∧ (At W b5_3 _ 29) ∧ (OwT encS 4 51 W W47.heap.size onv _) ∧ (OwT encS 4 51 W W47.heap.size mayv _) ∧ ((L.getD 2 false = true → g 36 = setV (mkS T o 1))) ∧ ((L.getD 5 false = true → g 39 = setV (mkS T o 0))) ∧ ((L.getD 8 false = true → g 42 = setV (mkS T o 2))) ∧ ((L.getD 9 false = true → g 9 = .pointer (some ⟨b9_9, 0, none⟩) ∧ At W b9_9 #[wv 0 0, wv 0 1, wv 0 2, wv 0 3] 51 ∧ W47.heap.size ≤ b9_9 ∧ Value.ownBlock onv ≠ some b9_9 ∧ Value.ownBlock mayv ≠ some b9_9)) ∧ ((L.getD 10 false = true → g 10 = .pointer (some ⟨b9_10, 0, none⟩) ∧ At W b9_10 #[wv 0 0, wv 0 1, wv 0 2, wv 0 3] 51 ∧ W47.heap.size ≤ b9_10 ∧ Value.ownBlock onv ≠ some b9_10 ∧ Value.ownBlock mayv ≠ some b9_10)) ∧ ((L.getD 11 false = true → g 11 = .pointer (some ⟨b9_11, 0, none⟩) ∧ At W b9_11 #[wv 0 0, wv 0 1, wv 0 2, wv 0 3] 51 ∧ W47.heap.size ≤ b9_11 ∧ Value.ownBlock onv ≠ some b9_11 ∧ Value.ownBlock mayv ≠ some b9_11)) ∧ ((L.getD 9 false = true → L.getD 10 false = true → b9_9 ≠ b9_10)) ∧ ((L.getD 9 false = true → L.getD 11 false = true → b9_9 ≠ b9_11)) ∧ ((L.getD 10 false = true → L.getD 11 false = true → b9_10 ≠ b9_11)) ∧ (True)) (by kernel_rfl) ⟨0, 0, 0, hS, hB, hm5_3, hon, hmay, (fun h => Bool.noConfusion (show false = true from h)), (fun h => Bool.noConfusion (show false = true from h)), (fun h => Bool.noConfusion (show false = true from h)), (fun h => Bool.noConfusion (show false = true from h)), (fun h => Bool.noConfusion (show false = true from h)), (fun h => Bool.noConfusion (show false = true from h)), (fun h => Bool.noConfusion (show false = true from h)), (fun h => Bool.noConfusion (show false = true from h)), (fun h => Bool.noConfusion (show false = true from h)), trivial⟩ ?_ ?_
 clear hS hB hm5_3 hon hmay
 rintro i hi L g W81 hlt ⟨b9_9, b9_10, b9_11, hS, hB, hm5_3, hon, hmay, hp2, hp5, hp8, hp9, hp10, hp11, hn9_10, hn9_11, hn10_11, _⟩
 have hi2 : i = 2 ∨ i = 5 ∨ i = 8 ∨ i = 9 ∨ i = 10 ∨ i = 11 := by simpa using hi
 rcases hi2 with rfl | rfl | rfl | rfl | rfl | rfl
 refine ⟨_, 36, rfl, rfl, rfl, rfl, rfl, ?_⟩
 refine Yd.call (r_call3 tb_c20 (v0 := .agg #[_, _, _, _]) rfl (v1 := .int .i64 _) rfl (v2 := .int .i64 1) rfl) (C_spec_marked T _ vs o 1 _ (Below.slT hB hz53) (LsAt.below hB hz54) hmb hr Om) (fun v W' hE hP => ⟨.inl (hS.trans hE), ?_⟩)
 obtain rfl := hP
 exact ⟨b9_9, b9_10, b9_11, hS.trans hE, below_ext hB hE (Nat.le_refl _), hE.at hm5_3, hE.ow hon, hE.ow hmay, (fun _ => rfl), (fun h => hp5 (put_ne Dc h)), (fun h => hp8 (put_ne Dc h)), (fun h => let q := hp9 (put_ne Dc h); ⟨q.1, hE.at q.2.1, q.2.2⟩), (fun h => let q := hp10 (put_ne Dc h); ⟨q.1, hE.at q.2.1, q.2.2⟩), (fun h => let q := hp11 (put_ne Dc h); ⟨q.1, hE.at q.2.1, q.2.2⟩), (fun h k => hn9_10 (put_ne Dc h) (put_ne Dc k)), (fun h k => hn9_11 (put_ne Dc h) (put_ne Dc k)), (fun h k => hn10_11 (put_ne Dc h) (put_ne Dc k)), trivial⟩
 refine ⟨_, 39, rfl, rfl, rfl, rfl, rfl, ?_⟩
 refine Yd.call (r_call3 tb_c20 (v0 := .agg #[_, _, _, _]) rfl (v1 := .int .i64 _) rfl (v2 := .int .i64 0) rfl) (C_spec_marked T _ vs o 0 _ (Below.slT hB hz53) (LsAt.below hB hz54) hmb hr Om) (fun v W' hE hP => ⟨.inl (hS.trans hE), ?_⟩)
 obtain rfl := hP
 exact ⟨b9_9, b9_10, b9_11, hS.trans hE, below_ext hB hE (Nat.le_refl _), hE.at hm5_3, hE.ow hon, hE.ow hmay, (fun h => hp2 (put_ne Dc h)), (fun _ => rfl), (fun h => hp8 (put_ne Dc h)), (fun h => let q := hp9 (put_ne Dc h); ⟨q.1, hE.at q.2.1, q.2.2⟩), (fun h => let q := hp10 (put_ne Dc h); ⟨q.1, hE.at q.2.1, q.2.2⟩), (fun h => let q := hp11 (put_ne Dc h); ⟨q.1, hE.at q.2.1, q.2.2⟩), (fun h k => hn9_10 (put_ne Dc h) (put_ne Dc k)), (fun h k => hn9_11 (put_ne Dc h) (put_ne Dc k)), (fun h k => hn10_11 (put_ne Dc h) (put_ne Dc k)), trivial⟩
 refine ⟨_, 42, rfl, rfl, rfl, rfl, rfl, ?_⟩
 refine Yd.call (r_call3 tb_c20 (v0 := .agg #[_, _, _, _]) rfl (v1 := .int .i64 _) rfl (v2 := .int .i64 2) rfl) (C_spec_marked T _ vs o 2 _ (Below.slT hB hz53) (LsAt.below hB hz54) hmb hr Om) (fun v W' hE hP => ⟨.inl (hS.trans hE), ?_⟩)
 obtain rfl := hP
 exact ⟨b9_9, b9_10, b9_11, hS.trans hE, below_ext hB hE (Nat.le_refl _), hE.at hm5_3, hE.ow hon, hE.ow hmay, (fun h => hp2 (put_ne Dc h)), (fun h => hp5 (put_ne Dc h)), (fun _ => rfl), (fun h => let q := hp9 (put_ne Dc h); ⟨q.1, hE.at q.2.1, q.2.2⟩), (fun h => let q := hp10 (put_ne Dc h); ⟨q.1, hE.at q.2.1, q.2.2⟩), (fun h => let q := hp11 (put_ne Dc h); ⟨q.1, hE.at q.2.1, q.2.2⟩), (fun h k => hn9_10 (put_ne Dc h) (put_ne Dc k)), (fun h k => hn9_11 (put_ne Dc h) (put_ne Dc k)), (fun h k => hn10_11 (put_ne Dc h) (put_ne Dc k)), trivial⟩
 refine ⟨_, 9, rfl, rfl, rfl, rfl, rfl, ?_⟩
 refine Y_alloc tb_z51 rfl (fun b W' hb hE hm => ⟨.inl (hS.trans hE), ?_⟩)
 exact ⟨b, b9_10, b9_11, hS.trans hE, below_ext hB hE (Nat.le_refl _), hE.at hm5_3, hE.ow hon, hE.ow hmay, (fun h => hp2 (put_ne Dc h)), (fun h => hp5 (put_ne Dc h)), (fun h => hp8 (put_ne Dc h)), (fun _ => ⟨rfl, hm, hb ▸ (Below.size hB), OwT.neB hon (Nat.le_of_eq hb.symm), OwT.neB hmay (Nat.le_of_eq hb.symm)⟩), (fun h => let q := hp10 (put_ne Dc h); ⟨q.1, hE.at q.2.1, q.2.2⟩), (fun h => let q := hp11 (put_ne Dc h); ⟨q.1, hE.at q.2.1, q.2.2⟩), (fun _ k => Nat.ne_of_gt (hb ▸ (hp10 (put_ne Dc k)).2.1.lt)), (fun _ k => Nat.ne_of_gt (hb ▸ (hp11 (put_ne Dc k)).2.1.lt)), (fun h k => hn10_11 (put_ne Dc h) (put_ne Dc k)), trivial⟩
 refine ⟨_, 10, rfl, rfl, rfl, rfl, rfl, ?_⟩
 refine Y_alloc tb_z51 rfl (fun b W' hb hE hm => ⟨.inl (hS.trans hE), ?_⟩)
 exact ⟨b9_9, b, b9_11, hS.trans hE, below_ext hB hE (Nat.le_refl _), hE.at hm5_3, hE.ow hon, hE.ow hmay, (fun h => hp2 (put_ne Dc h)), (fun h => hp5 (put_ne Dc h)), (fun h => hp8 (put_ne Dc h)), (fun h => let q := hp9 (put_ne Dc h); ⟨q.1, hE.at q.2.1, q.2.2⟩), (fun _ => ⟨rfl, hm, hb ▸ (Below.size hB), OwT.neB hon (Nat.le_of_eq hb.symm), OwT.neB hmay (Nat.le_of_eq hb.symm)⟩), (fun h => let q := hp11 (put_ne Dc h); ⟨q.1, hE.at q.2.1, q.2.2⟩), (fun h _ => Nat.ne_of_lt (hb ▸ (hp9 (put_ne Dc h)).2.1.lt)), (fun h k => hn9_11 (put_ne Dc h) (put_ne Dc k)), (fun _ k => Nat.ne_of_gt (hb ▸ (hp11 (put_ne Dc k)).2.1.lt)), trivial⟩
 refine ⟨_, 11, rfl, rfl, rfl, rfl, rfl, ?_⟩
 refine Y_alloc tb_z51 rfl (fun b W' hb hE hm => ⟨.inl (hS.trans hE), ?_⟩)
 exact ⟨b9_9, b9_10, b, hS.trans hE, below_ext hB hE (Nat.le_refl _), hE.at hm5_3, hE.ow hon, hE.ow hmay, (fun h => hp2 (put_ne Dc h)), (fun h => hp5 (put_ne Dc h)), (fun h => hp8 (put_ne Dc h)), (fun h => let q := hp9 (put_ne Dc h); ⟨q.1, hE.at q.2.1, q.2.2⟩), (fun h => let q := hp10 (put_ne Dc h); ⟨q.1, hE.at q.2.1, q.2.2⟩), (fun _ => ⟨rfl, hm, hb ▸ (Below.size hB), OwT.neB hon (Nat.le_of_eq hb.symm), OwT.neB hmay (Nat.le_of_eq hb.symm)⟩), (fun h k => hn9_10 (put_ne Dc h) (put_ne Dc k)), (fun h _ => Nat.ne_of_lt (hb ▸ (hp9 (put_ne Dc h)).2.1.lt)), (fun h _ => Nat.ne_of_lt (hb ▸ (hp10 (put_ne Dc h)).2.1.lt)), trivial⟩
 clear hS hB hm5_3 hon hmay
 rintro g83 W82 ⟨b9_9, b9_10, b9_11, hS, hB, hm5_3, hon, hmay, hp2, hp5, hp8, hp9, hp10, hp11, hn9_10, hn9_11, hn10_11, _⟩
 have q36 := hp2 rfl
 clear hp2
 have q39 := hp5 rfl
 clear hp5
 have q42 := hp8 rfl
 clear hp8
 obtain ⟨q9, hm9_9, lo_b9_9, no_onv_b9_9, no_mayv_b9_9⟩ := hp9 rfl
 obtain ⟨q10, hm9_10, lo_b9_10, no_onv_b9_10, no_mayv_b9_10⟩ := hp10 rfl
 obtain ⟨q11, hm9_11, lo_b9_11, no_onv_b9_11, no_mayv_b9_11⟩ := hp11 rfl
 have ne_b9_9_b9_10 := hn9_10 rfl rfl
 clear hn9_10
 have ne_b9_9_b9_11 := hn9_11 rfl rfl
 clear hn9_11
 have ne_b9_10_b9_11 := hn10_11 rfl rfl
 clear hn10_11
 refine WT_congr (mask_head [(36, setV (mkS T o 1)), (39, setV (mkS T o 0)), (42, setV (mkS T o 2)), (9, .pointer (some ⟨b9_9, 0, none⟩)), (10, .pointer (some ⟨b9_10, 0, none⟩)), (11, .pointer (some ⟨b9_11, 0, none⟩))] ⟨q36, q39, q42, q9, q10, q11, trivial⟩) ?_
 refine To 12 rfl (Y_storeW rfl rfl tb_ag51 rfl hm9_9 rfl rfl fun W84 hG85 hm86 => ⟨.inr (by kernel_rfl), ?_⟩)
 replace hB := Zg hB hG85 lo_b9_9
 replace hm5_3 := At.grownAt hm5_3 hm9_9 hG85 Dc
 replace hon := OwT.grownAtNe hon no_onv_b9_9 hG85
 replace hmay := OwT.grownAtNe hmay no_mayv_b9_9 hG85
 replace hm9_10 := At.grownNe hm9_10 (Ne.symm ne_b9_9_b9_10) hG85
 replace hm9_11 := At.grownNe hm9_11 (Ne.symm ne_b9_9_b9_11) hG85
 replace hm9_9 := hm86
 refine To 13 rfl (Y_storeW rfl rfl tb_ag51 rfl hm9_10 rfl rfl fun W88 hG89 hm90 => ⟨.inr (by kernel_rfl), ?_⟩)
 replace hB := Zg hB hG89 lo_b9_10
 replace hm5_3 := At.grownAt hm5_3 hm9_10 hG89 Dc
 replace hon := OwT.grownAtNe hon no_onv_b9_10 hG89
 replace hmay := OwT.grownAtNe hmay no_mayv_b9_10 hG89
 replace hm9_9 := At.grownNe hm9_9 ne_b9_9_b9_10 hG89
 replace hm9_11 := At.grownNe hm9_11 (Ne.symm ne_b9_10_b9_11) hG89
 replace hm9_10 := hm90
 refine To 14 rfl (Y_storeW rfl rfl tb_ag51 rfl hm9_11 rfl rfl fun W91 hG92 hm93 => ⟨.inr (by kernel_rfl), ?_⟩)
 replace hB := Zg hB hG92 lo_b9_11
 replace hm5_3 := At.grownAt hm5_3 hm9_11 hG92 Dc
 replace hon := OwT.grownAtNe hon no_onv_b9_11 hG92
 replace hmay := OwT.grownAtNe hmay no_mayv_b9_11 hG92
 replace hm9_9 := At.grownNe hm9_9 ne_b9_9_b9_11 hG92
 replace hm9_10 := At.grownNe hm9_10 ne_b9_10_b9_11 hG92
 replace hm9_11 := hm93
 refine Td <| WC_seq fun K94 hK95 => Zr <| Zf rfl tb_fo56_1 <| ZL (.bool _) rfl tb_sc4 (Below.atI hB hm4_4) rfl <| ZX rfl (fun hs10_2 => ?_) fun hs10_2 => ?_
 refine Zv (r_loadW rfl tb_ag51 rfl hm9_9) <| Zv (r_loadW rfl tb_ag51 rfl hm9_10) <| ZC tb_c21 (C_set_And _ _ _) rfl fun v10_5 W98 hE99 hP10_5 => ?_
 replace hB := Ze hB hE99
 replace hm5_3 := hE99.at hm5_3
 replace hon := hE99.ow hon
 replace hmay := hE99.ow hmay
 replace hm9_9 := hE99.at hm9_9
 replace hm9_10 := hE99.at hm9_10
 replace hm9_11 := hE99.at hm9_11
 obtain rfl := hP10_5
 refine Zv (v := setV 0) (tb_build51_ ) <| Zv (tb_neq51 rfl rfl) <| Zb rfl <| WL_nil <| ZQ rfl (fun hc2 => ?_) fun hc2 => ?_
 try clear hz53
 try clear hz54
 replace hm0_0 := Below.atI hB hm0_0
 replace hm0_1 := Below.atI hB hm0_1
 replace hm3_6 := Below.atI hB hm3_6
 replace hm4_4 := Below.atI hB hm4_4
 have hzs := Nat.le_trans (Nat.le_refl _) (Below.size hBo52)
 replace lo_b5_3 := Nat.le_trans hzs lo_b5_3
 replace hon := OwT.mono hon hzs
 replace hmay := OwT.mono hmay hzs
 replace lo_b9_9 := Nat.le_trans hzs lo_b9_9
 replace lo_b9_10 := Nat.le_trans hzs lo_b9_10
 replace lo_b9_11 := Nat.le_trans hzs lo_b9_11
 replace hB := Below.trans hBo52 (Below.mono hB hzs)
 clear hBo52 hzs
 refine Zr <| Zv (tb_build29_ ) <| Zy (Y_storeW rfl rfl tb_ag29 rfl hm0_1 rfl rfl fun W103 hG104 hm105 => ?_)
 replace hm0_0 := At.grownAt hm0_0 hm0_1 hG104 Dc
 replace hm3_6 := At.grownAt hm3_6 hm0_1 hG104 Dc
 replace hm4_4 := At.grownAt hm4_4 hm0_1 hG104 Dc
 replace hB := Zg hB hG104 lo_b0_1
 replace hm5_3 := At.grownNe hm5_3 (Ne.symm ne_b0_1_b5_3) hG104
 replace hon := OwT.grownAt hon hm0_1 hG104 Dc
 replace hmay := OwT.grownAt hmay hm0_1 hG104 Dc
 replace hm9_9 := At.grownAt hm9_9 hm0_1 hG104 Dc
 replace hm9_10 := At.grownAt hm9_10 hm0_1 hG104 Dc
 replace hm9_11 := At.grownAt hm9_11 hm0_1 hG104 Dc
 replace hm0_1 := hm105
 refine Zi rfl <| WL_nil <| Zt <| ret_ct rfl tb_ag29 hm0_1 rfl (v1 := .int .i64 4) rfl ⟨hB, ?_⟩
 first | (rw [ofE_1 (by simpa using hc0)]; exact .inr ⟨by decide, rfl⟩) | (rw [ofE_4 (o := o) hr (by omega) (clash_t hs10_2 hn8 hc2)]; exact .inr ⟨by decide, rfl⟩) | (have ho2 : o = T.no.toNat := (by omega); subst ho2; exact .inl ⟨ofE_0 hr hq, onv, mayv, rfl, hon, hmay⟩)
 refine WC_skip <| hK95 _ _ ?_
 refine WC_draw (fun a b => Gr2 onv.ownBlock mayv.ownBlock a b) tb_mix (fun W106 hE107 => ?_)
 replace hB := Ze hB hE107
 replace hm5_3 := hE107.at hm5_3
 replace hon := hE107.ow hon
 replace hmay := hE107.ow hmay
 replace hm9_9 := hE107.at hm9_9
 replace hm9_10 := hE107.at hm9_10
 replace hm9_11 := hE107.at hm9_11
 have hrow108 := hon
 have hrow109 := hmay
 have hS : Gr2 onv.ownBlock mayv.ownBlock W106 W106 := Gr2.refl
 refine Tf 0 rfl rfl tb_fo29_1 hS <| Tk 1 rfl (fun _ hq => r_load1 (v := onv) rfl tb_sc27 (At.cell (At.gr2 hm5_3 hq (own_neT hrow108 hm5_3 Dc) (own_neT hrow109 hm5_3 Dc)) rfl)) hS <| Tk 2 rfl (fun _ hq => r_loadW rfl tb_ag51 rfl (At.gr2 hm9_9 hq (Ne.symm no_onv_b9_9) (Ne.symm no_mayv_b9_9))) hS <| Tf 5 rfl rfl tb_fo29_2 hS <| Tk 6 rfl (fun _ hq => r_load1 (v := mayv) rfl tb_sc27 (At.cell (At.gr2 hm5_3 hq (own_neT hrow108 hm5_3 Dc) (own_neT hrow109 hm5_3 Dc)) rfl)) hS <| Tf 7 rfl rfl tb_fo56_0 hS <| Tk 8 rfl (fun _ hq => r_load1 (v := .func (.func (mnA 41 42 39 T.kind)) #[] #[]) rfl tb_sc54 (At.cell (Below.atI (below_gr2 hB hq (Nat.le_refl _) (OwT.lt hrow108) (OwT.lt hrow109)) hm4_4) rfl)) hS <| Tk 9 rfl (fun _ hq => r_loadW rfl tb_ag51 rfl (Below.atI (below_gr2 hB hq (Nat.le_refl _) (OwT.lt hrow108) (OwT.lt hrow109)) hm3_6)) hS <| Tk 10 rfl (fun _ hq => r_loadW rfl tb_ag51 rfl (At.gr2 hm9_9 hq (Ne.symm no_onv_b9_9) (Ne.symm no_mayv_b9_9))) hS <| Tk 11 rfl (fun _ hq => r_loadW rfl tb_ag51 rfl (At.gr2 hm9_10 hq (Ne.symm no_onv_b9_10) (Ne.symm no_mayv_b9_10))) hS <| Tk 12 rfl (fun _ hq => r_loadW rfl tb_ag51 rfl (At.gr2 hm9_11 hq (Ne.symm no_onv_b9_11) (Ne.symm no_mayv_b9_11))) hS <| To 3 rfl (Y_lit1 (u := .agg #[_, _, _, _]) rfl tb_el27 tb_zs51 rfl Dc Dc fun b12_3 W110 hb111 hE112 hm12_3 => ⟨.inl (Gr2.ext hS hE112), ?_⟩)
 have lo_b12_3 := ZO hb111 hB
 have ne_b3_6_b12_3 : b3_6 ≠ b12_3 := Nat.ne_of_lt (hb111 ▸ (Below.atI hB hm3_6).lt)
 have no_onv_b12_3 := OwT.neB (b := b12_3) hon (Nat.le_of_eq hb111.symm)
 have no_mayv_b12_3 := OwT.neB (b := b12_3) hmay (Nat.le_of_eq hb111.symm)
 have ne_b9_9_b12_3 := Zn hb111 hm9_9
 have ne_b9_10_b12_3 := Zn hb111 hm9_10
 have ne_b9_11_b12_3 := Zn hb111 hm9_11
 clear hb111
 replace hB := Ze hB hE112
 replace hm5_3 := hE112.at hm5_3
 replace hon := hE112.ow hon
 replace hmay := hE112.ow hmay
 replace hm9_9 := hE112.at hm9_9
 replace hm9_10 := hE112.at hm9_10
 replace hm9_11 := hE112.at hm9_11
 replace hS := Gr2.ext hS hE112
 refine To 4 rfl (Y_appendA (v := onv) (v2 := .slice (some ⟨b12_3, 0, none⟩) 1 1) rfl rfl tb_el27 tb_zs51 Dc hon (sl_lit1 hm12_3 rfl) rfl (by have := Below.size hB; omega) (by first | omega | (simp; omega) | (simp only [onTo_len, mayTo_len_]; omega)) (by first | omega | (simp; omega) | (simp only [onTo_len, mayTo_len_]; omega)) fun v12_4 W114 hG115 ho12_4 hob116 => ⟨.inl (Gr2.one hS hG115), ?_⟩)
 replace hS := Gr2.one hS hG115
 have hap117 := Apart.app hap hob116 hmay
 replace ho12_4 := OwT.snoc (enc := encS) (x := (mkS T o 1)) rfl rfl rfl rfl ho12_4
 replace hB := ZG hB hG115 hon
 replace hm5_3 := At.grownOw hm5_3 hon hG115 Dc
 replace hmay := OwT.grownAp hmay hap hG115
 replace hm9_9 := At.grownOwNe hm9_9 no_onv_b9_9 hG115
 replace hm9_10 := At.grownOwNe hm9_10 no_onv_b9_10 hG115
 replace hm9_11 := At.grownOwNe hm9_11 no_onv_b9_11 hG115
 clear hon
 refine Tf 16 rfl rfl tb_fo29_1 hS <| To 13 rfl (Yd.call (r_call (q := (mnA 41 42 39 T.kind)) (first := #[]) (cap := #[]) (vs := #[.agg #[_, _, _, _], .agg #[_, _, _, _], .agg #[_, _, _, _], .agg #[_, _, _, _]]) rfl (callB_mn T.kind) (by simp only [List.map_toArray, List.map_cons, List.map_nil, List.append_toArray, List.nil_append, List.cons_append]; rfl)) (C_mn T.kind _ _ _ _ _) fun v12_13 W118 hE119 hP12_13 => ⟨.inl (Gr2.ext hS hE119), ?_⟩)
 replace hB := Ze hB hE119
 replace hm5_3 := hE119.at hm5_3
 replace hmay := hE119.ow hmay
 replace hm9_9 := hE119.at hm9_9
 replace hm9_10 := hE119.at hm9_10
 replace hm9_11 := hE119.at hm9_11
 replace ho12_4 := hE119.ow ho12_4
 replace hS := Gr2.ext hS hE119
 obtain rfl := hP12_13
 refine To 14 rfl (Y_lit1 (u := .agg #[_, _, _, _]) rfl tb_el27 tb_zs51 rfl Dc Dc fun b12_14 W121 hb122 hE123 hm12_14 => ⟨.inl (Gr2.ext hS hE123), ?_⟩)
 have lo_b12_14 := ZO hb122 hB
 have ne_b3_6_b12_14 : b3_6 ≠ b12_14 := Nat.ne_of_lt (hb122 ▸ (Below.atI hB hm3_6).lt)
 have no_mayv_b12_14 := OwT.neB (b := b12_14) hmay (Nat.le_of_eq hb122.symm)
 have ne_b9_9_b12_14 := Zn hb122 hm9_9
 have ne_b9_10_b12_14 := Zn hb122 hm9_10
 have ne_b9_11_b12_14 := Zn hb122 hm9_11
 have no_v12_4_b12_14 := OwT.neB (b := b12_14) ho12_4 (Nat.le_of_eq hb122.symm)
 clear hb122
 replace hB := Ze hB hE123
 replace hm5_3 := hE123.at hm5_3
 replace hmay := hE123.ow hmay
 replace hm9_9 := hE123.at hm9_9
 replace hm9_10 := hE123.at hm9_10
 replace hm9_11 := hE123.at hm9_11
 replace ho12_4 := hE123.ow ho12_4
 replace hS := Gr2.ext hS hE123
 refine To 15 rfl (Y_appendA (v := mayv) (v2 := .slice (some ⟨b12_14, 0, none⟩) 1 1) rfl rfl tb_el27 tb_zs51 Dc hmay (sl_lit1 hm12_14 rfl) rfl (by have := Below.size hB; omega) (by first | omega | (simp; omega) | (simp only [onTo_len, mayTo_len_]; omega)) (by first | omega | (simp; omega) | (simp only [onTo_len, mayTo_len_]; omega)) fun v12_15 W124 hG125 ho12_15 hob126 => ⟨.inl (Gr2.two hS hG125), ?_⟩)
 replace hS := Gr2.two hS hG125
 have hap127 := Apart.app (Apart.symm hap117) hob126 ho12_4
 replace ho12_15 := OwT.snoc (enc := encS) (x := (mayT T o)) rfl rfl rfl rfl ho12_15
 replace hB := ZG hB hG125 hmay
 replace hm5_3 := At.grownOw hm5_3 hmay hG125 Dc
 replace hm9_9 := At.grownOwNe hm9_9 no_mayv_b9_9 hG125
 replace hm9_10 := At.grownOwNe hm9_10 no_mayv_b9_10 hG125
 replace hm9_11 := At.grownOwNe hm9_11 no_mayv_b9_11 hG125
 replace ho12_4 := OwT.grownAp ho12_4 (Apart.symm hap117) hG125
 clear hmay
 refine To 17 rfl (Y_store1 (v := v12_4) rfl rfl tb_sc27 (SlT.one ho12_4.sl) hm5_3 (by simp) fun W128 hG129 hm130 => ⟨.inr (by kernel_rfl), ?_⟩)
 replace hB := Zg hB hG129 lo_b5_3
 replace hm9_9 := At.grownAt hm9_9 hm5_3 hG129 Dc
 replace hm9_10 := At.grownAt hm9_10 hm5_3 hG129 Dc
 replace hm9_11 := At.grownAt hm9_11 hm5_3 hG129 Dc
 replace ho12_4 := OwT.grownAt ho12_4 hm5_3 hG129 Dc
 replace ho12_15 := OwT.grownAt ho12_15 hm5_3 hG129 Dc
 replace hm5_3 := hm130
 replace hm5_3 : At _ _ #[_, _, _] _ := hm5_3
 refine WT_one (dd := some 70) 18 (by kernel_rfl) rfl rfl rfl rfl (Yd.val (r_fieldAddr rfl tb_fo29_2) ⟨.inr (by kernel_rfl), ?_⟩)
 refine To 19 rfl (Y_store1 (v := v12_15) rfl rfl tb_sc27 (SlT.one ho12_15.sl) hm5_3 (by simp) fun W131 hG132 hm133 => ⟨.inr (by kernel_rfl), ?_⟩)
 replace hB := Zg hB hG132 lo_b5_3
 replace hm9_9 := At.grownAt hm9_9 hm5_3 hG132 Dc
 replace hm9_10 := At.grownAt hm9_10 hm5_3 hG132 Dc
 replace hm9_11 := At.grownAt hm9_11 hm5_3 hG132 Dc
 replace ho12_4 := OwT.grownAt ho12_4 hm5_3 hG132 Dc
 replace ho12_15 := OwT.grownAt ho12_15 hm5_3 hG132 Dc
 replace hm5_3 := hm133
 replace hm5_3 : At _ _ #[_, _, _] _ := hm5_3
 refine Td <| hK74 _ _ <| WC_region <| Zv (r_addI rfl rfl Om Om) <| Zi rfl <| WL_nil ?_
 exact hJ68 _ _ ((o + 1, v12_4, v12_15)) Za ⟨rfl, trivial⟩ ⟨hB, (by exact hm5_3), (by rw [onTo_succ]; exact ho12_4), (by rw [mayTo_succ]; exact ho12_15), (Apart.symm hap127), Om, (upTo_succ hq (by first | exact clash_k hs10_2 | exact clash_f hn8 hc2)), trivial⟩ (by show T.no.toNat - (o + 1) < T.no.toNat - o; omega)
 refine Zs <| Zs <| Zs <| Zs <| Zs <| Zb rfl <| WL_nil <| WC_cond_false rfl <| WC_skip <| hK95 _ _ ?_
 refine WC_draw (fun a b => Gr2 onv.ownBlock mayv.ownBlock a b) tb_mix (fun W134 hE135 => ?_)
 replace hB := Ze hB hE135
 replace hm5_3 := hE135.at hm5_3
 replace hon := hE135.ow hon
 replace hmay := hE135.ow hmay
 replace hm9_9 := hE135.at hm9_9
 replace hm9_10 := hE135.at hm9_10
 replace hm9_11 := hE135.at hm9_11
 have hrow136 := hon
 have hrow137 := hmay
 have hS : Gr2 onv.ownBlock mayv.ownBlock W134 W134 := Gr2.refl
 refine Tf 0 rfl rfl tb_fo29_1 hS <| Tk 1 rfl (fun _ hq => r_load1 (v := onv) rfl tb_sc27 (At.cell (At.gr2 hm5_3 hq (own_neT hrow136 hm5_3 Dc) (own_neT hrow137 hm5_3 Dc)) rfl)) hS <| Tk 2 rfl (fun _ hq => r_loadW rfl tb_ag51 rfl (At.gr2 hm9_9 hq (Ne.symm no_onv_b9_9) (Ne.symm no_mayv_b9_9))) hS <| Tf 5 rfl rfl tb_fo29_2 hS <| Tk 6 rfl (fun _ hq => r_load1 (v := mayv) rfl tb_sc27 (At.cell (At.gr2 hm5_3 hq (own_neT hrow136 hm5_3 Dc) (own_neT hrow137 hm5_3 Dc)) rfl)) hS <| Tf 7 rfl rfl tb_fo56_0 hS <| Tk 8 rfl (fun _ hq => r_load1 (v := .func (.func (mnA 41 42 39 T.kind)) #[] #[]) rfl tb_sc54 (At.cell (Below.atI (below_gr2 hB hq (Nat.le_refl _) (OwT.lt hrow136) (OwT.lt hrow137)) hm4_4) rfl)) hS <| Tk 9 rfl (fun _ hq => r_loadW rfl tb_ag51 rfl (Below.atI (below_gr2 hB hq (Nat.le_refl _) (OwT.lt hrow136) (OwT.lt hrow137)) hm3_6)) hS <| Tk 10 rfl (fun _ hq => r_loadW rfl tb_ag51 rfl (At.gr2 hm9_9 hq (Ne.symm no_onv_b9_9) (Ne.symm no_mayv_b9_9))) hS <| Tk 11 rfl (fun _ hq => r_loadW rfl tb_ag51 rfl (At.gr2 hm9_10 hq (Ne.symm no_onv_b9_10) (Ne.symm no_mayv_b9_10))) hS <| Tk 12 rfl (fun _ hq => r_loadW rfl tb_ag51 rfl (At.gr2 hm9_11 hq (Ne.symm no_onv_b9_11) (Ne.symm no_mayv_b9_11))) hS <| To 3 rfl (Y_lit1 (u := .agg #[_, _, _, _]) rfl tb_el27 tb_zs51 rfl Dc Dc fun b12_3 W138 hb139 hE140 hm12_3 => ⟨.inl (Gr2.ext hS hE140), ?_⟩)
 have lo_b12_3 := ZO hb139 hB
 have ne_b3_6_b12_3 : b3_6 ≠ b12_3 := Nat.ne_of_lt (hb139 ▸ (Below.atI hB hm3_6).lt)
 have no_onv_b12_3 := OwT.neB (b := b12_3) hon (Nat.le_of_eq hb139.symm)
 have no_mayv_b12_3 := OwT.neB (b := b12_3) hmay (Nat.le_of_eq hb139.symm)
 have ne_b9_9_b12_3 := Zn hb139 hm9_9
 have ne_b9_10_b12_3 := Zn hb139 hm9_10
 have ne_b9_11_b12_3 := Zn hb139 hm9_11
 clear hb139
 replace hB := Ze hB hE140
 replace hm5_3 := hE140.at hm5_3
 replace hon := hE140.ow hon
 replace hmay := hE140.ow hmay
 replace hm9_9 := hE140.at hm9_9
 replace hm9_10 := hE140.at hm9_10
 replace hm9_11 := hE140.at hm9_11
 replace hS := Gr2.ext hS hE140
 refine To 4 rfl (Y_appendA (v := onv) (v2 := .slice (some ⟨b12_3, 0, none⟩) 1 1) rfl rfl tb_el27 tb_zs51 Dc hon (sl_lit1 hm12_3 rfl) rfl (by have := Below.size hB; omega) (by first | omega | (simp; omega) | (simp only [onTo_len, mayTo_len_]; omega)) (by first | omega | (simp; omega) | (simp only [onTo_len, mayTo_len_]; omega)) fun v12_4 W142 hG143 ho12_4 hob144 => ⟨.inl (Gr2.one hS hG143), ?_⟩)
 replace hS := Gr2.one hS hG143
 have hap145 := Apart.app hap hob144 hmay
 replace ho12_4 := OwT.snoc (enc := encS) (x := (mkS T o 1)) rfl rfl rfl rfl ho12_4
 replace hB := ZG hB hG143 hon
 replace hm5_3 := At.grownOw hm5_3 hon hG143 Dc
 replace hmay := OwT.grownAp hmay hap hG143
 replace hm9_9 := At.grownOwNe hm9_9 no_onv_b9_9 hG143
 replace hm9_10 := At.grownOwNe hm9_10 no_onv_b9_10 hG143
 replace hm9_11 := At.grownOwNe hm9_11 no_onv_b9_11 hG143
 clear hon
 refine Tf 16 rfl rfl tb_fo29_1 hS <| To 13 rfl (Yd.call (r_call (q := (mnA 41 42 39 T.kind)) (first := #[]) (cap := #[]) (vs := #[.agg #[_, _, _, _], .agg #[_, _, _, _], .agg #[_, _, _, _], .agg #[_, _, _, _]]) rfl (callB_mn T.kind) (by simp only [List.map_toArray, List.map_cons, List.map_nil, List.append_toArray, List.nil_append, List.cons_append]; rfl)) (C_mn T.kind _ _ _ _ _) fun v12_13 W146 hE147 hP12_13 => ⟨.inl (Gr2.ext hS hE147), ?_⟩)
 replace hB := Ze hB hE147
 replace hm5_3 := hE147.at hm5_3
 replace hmay := hE147.ow hmay
 replace hm9_9 := hE147.at hm9_9
 replace hm9_10 := hE147.at hm9_10
 replace hm9_11 := hE147.at hm9_11
 replace ho12_4 := hE147.ow ho12_4
 replace hS := Gr2.ext hS hE147
 obtain rfl := hP12_13
 refine To 14 rfl (Y_lit1 (u := .agg #[_, _, _, _]) rfl tb_el27 tb_zs51 rfl Dc Dc fun b12_14 W149 hb150 hE151 hm12_14 => ⟨.inl (Gr2.ext hS hE151), ?_⟩)
 have lo_b12_14 := ZO hb150 hB
 have ne_b3_6_b12_14 : b3_6 ≠ b12_14 := Nat.ne_of_lt (hb150 ▸ (Below.atI hB hm3_6).lt)
 have no_mayv_b12_14 := OwT.neB (b := b12_14) hmay (Nat.le_of_eq hb150.symm)
 have ne_b9_9_b12_14 := Zn hb150 hm9_9
 have ne_b9_10_b12_14 := Zn hb150 hm9_10
 have ne_b9_11_b12_14 := Zn hb150 hm9_11
 have no_v12_4_b12_14 := OwT.neB (b := b12_14) ho12_4 (Nat.le_of_eq hb150.symm)
 clear hb150
 replace hB := Ze hB hE151
 replace hm5_3 := hE151.at hm5_3
 replace hmay := hE151.ow hmay
 replace hm9_9 := hE151.at hm9_9
 replace hm9_10 := hE151.at hm9_10
 replace hm9_11 := hE151.at hm9_11
 replace ho12_4 := hE151.ow ho12_4
 replace hS := Gr2.ext hS hE151
 refine To 15 rfl (Y_appendA (v := mayv) (v2 := .slice (some ⟨b12_14, 0, none⟩) 1 1) rfl rfl tb_el27 tb_zs51 Dc hmay (sl_lit1 hm12_14 rfl) rfl (by have := Below.size hB; omega) (by first | omega | (simp; omega) | (simp only [onTo_len, mayTo_len_]; omega)) (by first | omega | (simp; omega) | (simp only [onTo_len, mayTo_len_]; omega)) fun v12_15 W152 hG153 ho12_15 hob154 => ⟨.inl (Gr2.two hS hG153), ?_⟩)
 replace hS := Gr2.two hS hG153
 have hap155 := Apart.app (Apart.symm hap145) hob154 ho12_4
 replace ho12_15 := OwT.snoc (enc := encS) (x := (mayT T o)) rfl rfl rfl rfl ho12_15
 replace hB := ZG hB hG153 hmay
 replace hm5_3 := At.grownOw hm5_3 hmay hG153 Dc
 replace hm9_9 := At.grownOwNe hm9_9 no_mayv_b9_9 hG153
 replace hm9_10 := At.grownOwNe hm9_10 no_mayv_b9_10 hG153
 replace hm9_11 := At.grownOwNe hm9_11 no_mayv_b9_11 hG153
 replace ho12_4 := OwT.grownAp ho12_4 (Apart.symm hap145) hG153
 clear hmay
 refine To 17 rfl (Y_store1 (v := v12_4) rfl rfl tb_sc27 (SlT.one ho12_4.sl) hm5_3 (by simp) fun W156 hG157 hm158 => ⟨.inr (by kernel_rfl), ?_⟩)
 replace hB := Zg hB hG157 lo_b5_3
 replace hm9_9 := At.grownAt hm9_9 hm5_3 hG157 Dc
 replace hm9_10 := At.grownAt hm9_10 hm5_3 hG157 Dc
 replace hm9_11 := At.grownAt hm9_11 hm5_3 hG157 Dc
 replace ho12_4 := OwT.grownAt ho12_4 hm5_3 hG157 Dc
 replace ho12_15 := OwT.grownAt ho12_15 hm5_3 hG157 Dc
 replace hm5_3 := hm158
 replace hm5_3 : At _ _ #[_, _, _] _ := hm5_3
 refine WT_one (dd := some 70) 18 (by kernel_rfl) rfl rfl rfl rfl (Yd.val (r_fieldAddr rfl tb_fo29_2) ⟨.inr (by kernel_rfl), ?_⟩)
 refine To 19 rfl (Y_store1 (v := v12_15) rfl rfl tb_sc27 (SlT.one ho12_15.sl) hm5_3 (by simp) fun W159 hG160 hm161 => ⟨.inr (by kernel_rfl), ?_⟩)
 replace hB := Zg hB hG160 lo_b5_3
 replace hm9_9 := At.grownAt hm9_9 hm5_3 hG160 Dc
 replace hm9_10 := At.grownAt hm9_10 hm5_3 hG160 Dc
 replace hm9_11 := At.grownAt hm9_11 hm5_3 hG160 Dc
 replace ho12_4 := OwT.grownAt ho12_4 hm5_3 hG160 Dc
 replace ho12_15 := OwT.grownAt ho12_15 hm5_3 hG160 Dc
 replace hm5_3 := hm161
 replace hm5_3 : At _ _ #[_, _, _] _ := hm5_3
 refine Td <| hK74 _ _ <| WC_region <| Zv (r_addI rfl rfl Om Om) <| Zi rfl <| WL_nil ?_
 exact hJ68 _ _ ((o + 1, v12_4, v12_15)) Za ⟨rfl, trivial⟩ ⟨hB, (by exact hm5_3), (by rw [onTo_succ]; exact ho12_4), (by rw [mayTo_succ]; exact ho12_15), (Apart.symm hap155), Om, (upTo_succ hq (by first | exact clash_k hs10_2 | exact clash_f hn8 hc2)), trivial⟩ (by show T.no.toNat - (o + 1) < T.no.toNat - o; omega)
 refine WC_exit <| hK62 _ _ ?_
 try clear hz53
 try clear hz54
 replace hm0_0 := Below.atI hB hm0_0
 replace hm0_1 := Below.atI hB hm0_1
 replace hm3_6 := Below.atI hB hm3_6
 replace hm4_4 := Below.atI hB hm4_4
 have hzs := Nat.le_trans (Nat.le_refl _) (Below.size hBo52)
 replace lo_b5_3 := Nat.le_trans hzs lo_b5_3
 replace hon := OwT.mono hon hzs
 replace hmay := OwT.mono hmay hzs
 replace hB := Below.trans hBo52 (Below.mono hB hzs)
 clear hBo52 hzs
 refine Zr <| Zv (r_loadW rfl tb_ag29 rfl hm5_3) <| Zy (Y_storeW rfl rfl tb_ag29 rfl hm0_1 rfl (by exact one_sp (SlT.one (OwT.sl hon)) (SlT.one (OwT.sl hmay))) fun W164 hG165 hm166 => ?_)
 replace hm0_0 := At.grownAt hm0_0 hm0_1 hG165 Dc
 replace hm3_6 := At.grownAt hm3_6 hm0_1 hG165 Dc
 replace hm4_4 := At.grownAt hm4_4 hm0_1 hG165 Dc
 replace hB := Zg hB hG165 lo_b0_1
 replace hm5_3 := At.grownNe hm5_3 (Ne.symm ne_b0_1_b5_3) hG165
 replace hon := OwT.grownAt hon hm0_1 hG165 Dc
 replace hmay := OwT.grownAt hmay hm0_1 hG165 Dc
 replace hm0_1 := hm166
 refine Zi rfl <| WL_nil <| Zt <| ret_ct rfl tb_ag29 hm0_1 rfl (v1 := .int .i64 0) rfl ⟨hB, ?_⟩
 first | (rw [ofE_1 (by simpa using hc0)]; exact .inr ⟨by decide, rfl⟩) | (rw [ofE_4 (o := o) hr (by omega) (clash_t hs10_2 hn8 hc2)]; exact .inr ⟨by decide, rfl⟩) | (have ho2 : o = T.no.toNat := (by omega); subst ho2; exact .inl ⟨ofE_0 hr hq, onv, mayv, rfl, hon, hmay⟩)
 have lo_b4_4 := ZO hb41 hB
 clear hb41
 replace hB := Ze hB hE42
 replace hm0_0 := hE42.at hm0_0
 replace hm0_1 := hE42.at hm0_1
 replace hm3_6 := hE42.at hm3_6
 replace hS := hS.trans hE42
 refine To 0 rfl (TC tb_c19 (C_spec_meanings _) rfl fun v4_0 W167 hE168 hP4_0 => ⟨.inl (hS.trans hE168), ?_⟩)
 replace hB := Ze hB hE168
 replace hm0_0 := hE168.at hm0_0
 replace hm0_1 := hE168.at hm0_1
 replace hm3_6 := hE168.at hm3_6
 replace hm4_4 := hE168.at hm4_4
 replace hS := hS.trans hE168
 obtain rfl := hP4_0
 refine Tk 3 rfl (fun _ _ => r_indexMn rfl rfl Tryz.underlying57 Tryz.underlying56 (by kernel_rfl) hk0 hk3) hS <| To 5 rfl (Y_storeW rfl rfl tb_ag56 rfl hm4_4 rfl rfl fun W170 hG171 hm172 => ⟨.inr (by kernel_rfl), ?_⟩)
 replace hB := Zg hB hG171 lo_b4_4
 replace hm0_0 := At.grownAt hm0_0 hm4_4 hG171 Dc
 replace hm0_1 := At.grownAt hm0_1 hm4_4 hG171 Dc
 replace hm3_6 := At.grownAt hm3_6 hm4_4 hG171 Dc
 replace hm4_4 := hm172
 refine Td ?_
 have hz176 := Below.slT hB hlv
 have hz177 := LsAt.below hB hls
 have hBo175 := hB
 replace hB := Below.refl W170.heap.size W170
 refine Zr <| Zf rfl tb_fo24_1 <| Zl rfl tb_sc3 (Below.atI hB hm0_0) rfl <| Zv (tb_build29_0 (h0 := rfl) (k0 := rfl) (c0_0 := .int .i64 _)) <| Zy (Y_alloc tb_z29 rfl fun b5_3 W178 hb179 hE180 hm5_3 => ?_)
 have lo_b5_3 := ZO hb179 hB
 have ne_b0_1_b5_3 : b0_1 ≠ b5_3 := Nat.ne_of_lt (hb179 ▸ (Below.atI hB hm0_1).lt)
 clear hb179
 replace hB := Ze hB hE180
 refine Zy (Y_storeW rfl rfl tb_ag29 rfl hm5_3 rfl rfl fun W181 hG182 hm183 => ?_)
 replace hB := Zg hB hG182 lo_b5_3
 replace hm5_3 := hm183
 refine WL_nil <| WC_seq fun K184 hK185 => Zr <| Zf rfl tb_fo24_2 <| Zl rfl tb_sc3 (Below.atI hB hm0_0) rfl <| Zi rfl <| WL_nil <| WC_block ?_
 refine WC_loop (σ := (Nat) × (Value) × (Value)) [3, 8, 9, 10, 11, 31, 32, 33, 34, 35, 36, 37, 38, 39, 40, 41, 42, 43, 44, 45, 46, 47, 48, 49, 50, 51, 52, 53, 54, 55, 56, 57, 58, 59, 60, 61, 62, 63, 64, 65, 66, 67, 68, 69, 70, 71] (fun (o, onv, mayv) => [(31, .int .i64 (o : Int))]) (fun sg W => match sg with | (o, onv, mayv) => (Below W170.heap.size W170 W) ∧ (At W b5_3 #[.int .i64 T.ni, onv, mayv] 29) ∧ (OwT encS 4 51 W W170.heap.size onv (onTo T o)) ∧ (OwT encS 4 51 W W170.heap.size mayv (mayTo_ T o)) ∧ (Apart onv mayv) ∧ ((o : Int) ≤ T.no) ∧ (∀ q, q < o → clash T q = false) ∧ (True)) (fun (o, onv, mayv) => T.no.toNat - o) ((0, .slice none 0 0, .slice none 0 0)) ⟨rfl, trivial⟩ ⟨hB, hm5_3, OwT.nil, OwT.nil, Apart.nilL, Om, upTo_zero, trivial⟩ ?_
 clear hB hm5_3
 rintro ⟨o, onv, mayv⟩ g189 W188 ⟨hB, hm5_3, hon, hmay, hap, ho, hq, _⟩ J190 hJ191
 refine Zr <| Zv (r_lss rfl rfl) <| WL_nil <| WC_seq fun K194 hK195 => ZQ rfl (fun hc1 => ?_) fun hc1 => ?_
 refine WC_skip <| hK195 _ _ <| WC_seq fun K196 hK197 => WC_block <| Zr <| Zi rfl <| Zi rfl <| WL_nil <| Zd Ext fun W202 hE203 => ?_
 replace hB := Ze hB hE203
 replace hm5_3 := hE203.at hm5_3
 replace hon := hE203.ow hon
 replace hmay := hE203.ow hmay
 have hS := Ext.refl W202
 refine Tk 0 rfl (fun _ hq => r_loadW rfl tb_ag24 rfl (hq.at (Below.atI hB hm0_0))) hS <| Ti 1 rfl rfl hS <| Tk 3 rfl (fun _ hq => r_loadW rfl tb_ag24 rfl (hq.at (Below.atI hB hm0_0))) hS <| Ti 4 rfl rfl hS <| Tk 6 rfl (fun _ hq => r_loadW rfl tb_ag24 rfl (hq.at (Below.atI hB hm0_0))) hS <| Ti 7 rfl rfl hS ?_
 refine WT_par (m := 6) (A := [2, 5, 8, 9, 10, 11]) (L1 := #[true, true, true, true, true, true, true, true, true, true, true, true, false, false, false]) (T := [36, 39, 42, 9, 10, 11]) (fun L g W => ∃ b9_9 b9_10 b9_11 : Nat, (Ext W202 W) ∧ (Below W170.heap.size W170 W) ∧ (At W b5_3 _ 29) ∧ (OwT encS 4 51 W W170.heap.size onv _) ∧ (OwT encS 4 51 W W170.heap.size mayv _) ∧ ((L.getD 2 false = true → g 36 = setV (mkS T o 1))) ∧ ((L.getD 5 false = true → g 39 = setV (mkS T o 0))) ∧ ((L.getD 8 false = true → g 42 = setV (mkS T o 2))) ∧ ((L.getD 9 false = true → g 9 = .pointer (some ⟨b9_9, 0, none⟩) ∧ At W b9_9 #[wv 0 0, wv 0 1, wv 0 2, wv 0 3] 51 ∧ W170.heap.size ≤ b9_9 ∧ Value.ownBlock onv ≠ some b9_9 ∧ Value.ownBlock mayv ≠ some b9_9)) ∧ ((L.getD 10 false = true → g 10 = .pointer (some ⟨b9_10, 0, none⟩) ∧ At W b9_10 #[wv 0 0, wv 0 1, wv 0 2, wv 0 3] 51 ∧ W170.heap.size ≤ b9_10 ∧ Value.ownBlock onv ≠ some b9_10 ∧ Value.ownBlock mayv ≠ some b9_10)) ∧ ((L.getD 11 false = true → g 11 = .pointer (some ⟨b9_11, 0, none⟩) ∧ At W b9_11 #[wv 0 0, wv 0 1, wv 0 2, wv 0 3] 51 ∧ W170.heap.size ≤ b9_11 ∧ Value.ownBlock onv ≠ some b9_11 ∧ Value.ownBlock mayv ≠ some b9_11)) ∧ ((L.getD 9 false = true → L.getD 10 false = true → b9_9 ≠ b9_10)) ∧ ((L.getD 9 false = true → L.getD 11 false = true → b9_9 ≠ b9_11)) ∧ ((L.getD 10 false = true → L.getD 11 false = true → b9_10 ≠ b9_11)) ∧ (True)) (by kernel_rfl) ⟨0, 0, 0, hS, hB, hm5_3, hon, hmay, (fun h => Bool.noConfusion (show false = true from h)), (fun h => Bool.noConfusion (show false = true from h)), (fun h => Bool.noConfusion (show false = true from h)), (fun h => Bool.noConfusion (show false = true from h)), (fun h => Bool.noConfusion (show false = true from h)), (fun h => Bool.noConfusion (show false = true from h)), (fun h => Bool.noConfusion (show false = true from h)), (fun h => Bool.noConfusion (show false = true from h)), (fun h => Bool.noConfusion (show false = true from h)), trivial⟩ ?_ ?_
 clear hS hB hm5_3 hon hmay
 rintro i hi L g W204 hlt ⟨b9_9, b9_10, b9_11, hS, hB, hm5_3, hon, hmay, hp2, hp5, hp8, hp9, hp10, hp11, hn9_10, hn9_11, hn10_11, _⟩
 have hi2 : i = 2 ∨ i = 5 ∨ i = 8 ∨ i = 9 ∨ i = 10 ∨ i = 11 := by simpa using hi
 rcases hi2 with rfl | rfl | rfl | rfl | rfl | rfl
 refine ⟨_, 36, rfl, rfl, rfl, rfl, rfl, ?_⟩
 refine Yd.call (r_call3 tb_c20 (v0 := .agg #[_, _, _, _]) rfl (v1 := .int .i64 _) rfl (v2 := .int .i64 1) rfl) (C_spec_marked T _ vs o 1 _ (Below.slT hB hz176) (LsAt.below hB hz177) hmb hr Om) (fun v W' hE hP => ⟨.inl (hS.trans hE), ?_⟩)
 obtain rfl := hP
 exact ⟨b9_9, b9_10, b9_11, hS.trans hE, below_ext hB hE (Nat.le_refl _), hE.at hm5_3, hE.ow hon, hE.ow hmay, (fun _ => rfl), (fun h => hp5 (put_ne Dc h)), (fun h => hp8 (put_ne Dc h)), (fun h => let q := hp9 (put_ne Dc h); ⟨q.1, hE.at q.2.1, q.2.2⟩), (fun h => let q := hp10 (put_ne Dc h); ⟨q.1, hE.at q.2.1, q.2.2⟩), (fun h => let q := hp11 (put_ne Dc h); ⟨q.1, hE.at q.2.1, q.2.2⟩), (fun h k => hn9_10 (put_ne Dc h) (put_ne Dc k)), (fun h k => hn9_11 (put_ne Dc h) (put_ne Dc k)), (fun h k => hn10_11 (put_ne Dc h) (put_ne Dc k)), trivial⟩
 refine ⟨_, 39, rfl, rfl, rfl, rfl, rfl, ?_⟩
 refine Yd.call (r_call3 tb_c20 (v0 := .agg #[_, _, _, _]) rfl (v1 := .int .i64 _) rfl (v2 := .int .i64 0) rfl) (C_spec_marked T _ vs o 0 _ (Below.slT hB hz176) (LsAt.below hB hz177) hmb hr Om) (fun v W' hE hP => ⟨.inl (hS.trans hE), ?_⟩)
 obtain rfl := hP
 exact ⟨b9_9, b9_10, b9_11, hS.trans hE, below_ext hB hE (Nat.le_refl _), hE.at hm5_3, hE.ow hon, hE.ow hmay, (fun h => hp2 (put_ne Dc h)), (fun _ => rfl), (fun h => hp8 (put_ne Dc h)), (fun h => let q := hp9 (put_ne Dc h); ⟨q.1, hE.at q.2.1, q.2.2⟩), (fun h => let q := hp10 (put_ne Dc h); ⟨q.1, hE.at q.2.1, q.2.2⟩), (fun h => let q := hp11 (put_ne Dc h); ⟨q.1, hE.at q.2.1, q.2.2⟩), (fun h k => hn9_10 (put_ne Dc h) (put_ne Dc k)), (fun h k => hn9_11 (put_ne Dc h) (put_ne Dc k)), (fun h k => hn10_11 (put_ne Dc h) (put_ne Dc k)), trivial⟩
 refine ⟨_, 42, rfl, rfl, rfl, rfl, rfl, ?_⟩
 refine Yd.call (r_call3 tb_c20 (v0 := .agg #[_, _, _, _]) rfl (v1 := .int .i64 _) rfl (v2 := .int .i64 2) rfl) (C_spec_marked T _ vs o 2 _ (Below.slT hB hz176) (LsAt.below hB hz177) hmb hr Om) (fun v W' hE hP => ⟨.inl (hS.trans hE), ?_⟩)
 obtain rfl := hP
 exact ⟨b9_9, b9_10, b9_11, hS.trans hE, below_ext hB hE (Nat.le_refl _), hE.at hm5_3, hE.ow hon, hE.ow hmay, (fun h => hp2 (put_ne Dc h)), (fun h => hp5 (put_ne Dc h)), (fun _ => rfl), (fun h => let q := hp9 (put_ne Dc h); ⟨q.1, hE.at q.2.1, q.2.2⟩), (fun h => let q := hp10 (put_ne Dc h); ⟨q.1, hE.at q.2.1, q.2.2⟩), (fun h => let q := hp11 (put_ne Dc h); ⟨q.1, hE.at q.2.1, q.2.2⟩), (fun h k => hn9_10 (put_ne Dc h) (put_ne Dc k)), (fun h k => hn9_11 (put_ne Dc h) (put_ne Dc k)), (fun h k => hn10_11 (put_ne Dc h) (put_ne Dc k)), trivial⟩
 refine ⟨_, 9, rfl, rfl, rfl, rfl, rfl, ?_⟩
 refine Y_alloc tb_z51 rfl (fun b W' hb hE hm => ⟨.inl (hS.trans hE), ?_⟩)
 exact ⟨b, b9_10, b9_11, hS.trans hE, below_ext hB hE (Nat.le_refl _), hE.at hm5_3, hE.ow hon, hE.ow hmay, (fun h => hp2 (put_ne Dc h)), (fun h => hp5 (put_ne Dc h)), (fun h => hp8 (put_ne Dc h)), (fun _ => ⟨rfl, hm, hb ▸ (Below.size hB), OwT.neB hon (Nat.le_of_eq hb.symm), OwT.neB hmay (Nat.le_of_eq hb.symm)⟩), (fun h => let q := hp10 (put_ne Dc h); ⟨q.1, hE.at q.2.1, q.2.2⟩), (fun h => let q := hp11 (put_ne Dc h); ⟨q.1, hE.at q.2.1, q.2.2⟩), (fun _ k => Nat.ne_of_gt (hb ▸ (hp10 (put_ne Dc k)).2.1.lt)), (fun _ k => Nat.ne_of_gt (hb ▸ (hp11 (put_ne Dc k)).2.1.lt)), (fun h k => hn10_11 (put_ne Dc h) (put_ne Dc k)), trivial⟩
 refine ⟨_, 10, rfl, rfl, rfl, rfl, rfl, ?_⟩
 refine Y_alloc tb_z51 rfl (fun b W' hb hE hm => ⟨.inl (hS.trans hE), ?_⟩)
 exact ⟨b9_9, b, b9_11, hS.trans hE, below_ext hB hE (Nat.le_refl _), hE.at hm5_3, hE.ow hon, hE.ow hmay, (fun h => hp2 (put_ne Dc h)), (fun h => hp5 (put_ne Dc h)), (fun h => hp8 (put_ne Dc h)), (fun h => let q := hp9 (put_ne Dc h); ⟨q.1, hE.at q.2.1, q.2.2⟩), (fun _ => ⟨rfl, hm, hb ▸ (Below.size hB), OwT.neB hon (Nat.le_of_eq hb.symm), OwT.neB hmay (Nat.le_of_eq hb.symm)⟩), (fun h => let q := hp11 (put_ne Dc h); ⟨q.1, hE.at q.2.1, q.2.2⟩), (fun h _ => Nat.ne_of_lt (hb ▸ (hp9 (put_ne Dc h)).2.1.lt)), (fun h k => hn9_11 (put_ne Dc h) (put_ne Dc k)), (fun _ k => Nat.ne_of_gt (hb ▸ (hp11 (put_ne Dc k)).2.1.lt)), trivial⟩
 refine ⟨_, 11, rfl, rfl, rfl, rfl, rfl, ?_⟩
 refine Y_alloc tb_z51 rfl (fun b W' hb hE hm => ⟨.inl (hS.trans hE), ?_⟩)
 exact ⟨b9_9, b9_10, b, hS.trans hE, below_ext hB hE (Nat.le_refl _), hE.at hm5_3, hE.ow hon, hE.ow hmay, (fun h => hp2 (put_ne Dc h)), (fun h => hp5 (put_ne Dc h)), (fun h => hp8 (put_ne Dc h)), (fun h => let q := hp9 (put_ne Dc h); ⟨q.1, hE.at q.2.1, q.2.2⟩), (fun h => let q := hp10 (put_ne Dc h); ⟨q.1, hE.at q.2.1, q.2.2⟩), (fun _ => ⟨rfl, hm, hb ▸ (Below.size hB), OwT.neB hon (Nat.le_of_eq hb.symm), OwT.neB hmay (Nat.le_of_eq hb.symm)⟩), (fun h k => hn9_10 (put_ne Dc h) (put_ne Dc k)), (fun h _ => Nat.ne_of_lt (hb ▸ (hp9 (put_ne Dc h)).2.1.lt)), (fun h _ => Nat.ne_of_lt (hb ▸ (hp10 (put_ne Dc h)).2.1.lt)), trivial⟩
 clear hS hB hm5_3 hon hmay
 rintro g206 W205 ⟨b9_9, b9_10, b9_11, hS, hB, hm5_3, hon, hmay, hp2, hp5, hp8, hp9, hp10, hp11, hn9_10, hn9_11, hn10_11, _⟩
 have q36 := hp2 rfl
 clear hp2
 have q39 := hp5 rfl
 clear hp5
 have q42 := hp8 rfl
 clear hp8
 obtain ⟨q9, hm9_9, lo_b9_9, no_onv_b9_9, no_mayv_b9_9⟩ := hp9 rfl
 obtain ⟨q10, hm9_10, lo_b9_10, no_onv_b9_10, no_mayv_b9_10⟩ := hp10 rfl
 obtain ⟨q11, hm9_11, lo_b9_11, no_onv_b9_11, no_mayv_b9_11⟩ := hp11 rfl
 have ne_b9_9_b9_10 := hn9_10 rfl rfl
 clear hn9_10
 have ne_b9_9_b9_11 := hn9_11 rfl rfl
 clear hn9_11
 have ne_b9_10_b9_11 := hn10_11 rfl rfl
 clear hn10_11
 refine WT_congr (mask_head [(36, setV (mkS T o 1)), (39, setV (mkS T o 0)), (42, setV (mkS T o 2)), (9, .pointer (some ⟨b9_9, 0, none⟩)), (10, .pointer (some ⟨b9_10, 0, none⟩)), (11, .pointer (some ⟨b9_11, 0, none⟩))] ⟨q36, q39, q42, q9, q10, q11, trivial⟩) ?_
 refine To 12 rfl (Y_storeW rfl rfl tb_ag51 rfl hm9_9 rfl rfl fun W207 hG208 hm209 => ⟨.inr (by kernel_rfl), ?_⟩)
 replace hB := Zg hB hG208 lo_b9_9
 replace hm5_3 := At.grownAt hm5_3 hm9_9 hG208 Dc
 replace hon := OwT.grownAtNe hon no_onv_b9_9 hG208
 replace hmay := OwT.grownAtNe hmay no_mayv_b9_9 hG208
 replace hm9_10 := At.grownNe hm9_10 (Ne.symm ne_b9_9_b9_10) hG208
 replace hm9_11 := At.grownNe hm9_11 (Ne.symm ne_b9_9_b9_11) hG208
 replace hm9_9 := hm209
 refine To 13 rfl (Y_storeW rfl rfl tb_ag51 rfl hm9_10 rfl rfl fun W211 hG212 hm213 => ⟨.inr (by kernel_rfl), ?_⟩)
 replace hB := Zg hB hG212 lo_b9_10
 replace hm5_3 := At.grownAt hm5_3 hm9_10 hG212 Dc
 replace hon := OwT.grownAtNe hon no_onv_b9_10 hG212
 replace hmay := OwT.grownAtNe hmay no_mayv_b9_10 hG212
 replace hm9_9 := At.grownNe hm9_9 ne_b9_9_b9_10 hG212
 replace hm9_11 := At.grownNe hm9_11 (Ne.symm ne_b9_10_b9_11) hG212
 replace hm9_10 := hm213
 refine To 14 rfl (Y_storeW rfl rfl tb_ag51 rfl hm9_11 rfl rfl fun W214 hG215 hm216 => ⟨.inr (by kernel_rfl), ?_⟩)
 replace hB := Zg hB hG215 lo_b9_11
 replace hm5_3 := At.grownAt hm5_3 hm9_11 hG215 Dc
 replace hon := OwT.grownAtNe hon no_onv_b9_11 hG215
 replace hmay := OwT.grownAtNe hmay no_mayv_b9_11 hG215
 replace hm9_9 := At.grownNe hm9_9 ne_b9_9_b9_11 hG215
 replace hm9_10 := At.grownNe hm9_10 ne_b9_10_b9_11 hG215
 replace hm9_11 := hm216
 refine Td <| WC_seq fun K217 hK218 => Zr <| Zf rfl tb_fo56_1 <| ZL (.bool _) rfl tb_sc4 (Below.atI hB hm4_4) rfl <| ZX rfl (fun hs10_2 => ?_) fun hs10_2 => ?_
 refine Zv (r_loadW rfl tb_ag51 rfl hm9_9) <| Zv (r_loadW rfl tb_ag51 rfl hm9_10) <| ZC tb_c21 (C_set_And _ _ _) rfl fun v10_5 W221 hE222 hP10_5 => ?_
 replace hB := Ze hB hE222
 replace hm5_3 := hE222.at hm5_3
 replace hon := hE222.ow hon
 replace hmay := hE222.ow hmay
 replace hm9_9 := hE222.at hm9_9
 replace hm9_10 := hE222.at hm9_10
 replace hm9_11 := hE222.at hm9_11
 obtain rfl := hP10_5
 refine Zv (v := setV 0) (tb_build51_ ) <| Zv (tb_neq51 rfl rfl) <| Zb rfl <| WL_nil <| ZQ rfl (fun hc2 => ?_) fun hc2 => ?_
 try clear hz176
 try clear hz177
 replace hm0_0 := Below.atI hB hm0_0
 replace hm0_1 := Below.atI hB hm0_1
 replace hm3_6 := Below.atI hB hm3_6
 replace hm4_4 := Below.atI hB hm4_4
 have hzs := Nat.le_trans (Nat.le_refl _) (Below.size hBo175)
 replace lo_b5_3 := Nat.le_trans hzs lo_b5_3
 replace hon := OwT.mono hon hzs
 replace hmay := OwT.mono hmay hzs
 replace lo_b9_9 := Nat.le_trans hzs lo_b9_9
 replace lo_b9_10 := Nat.le_trans hzs lo_b9_10
 replace lo_b9_11 := Nat.le_trans hzs lo_b9_11
 replace hB := Below.trans hBo175 (Below.mono hB hzs)
 clear hBo175 hzs
 refine Zr <| Zv (tb_build29_ ) <| Zy (Y_storeW rfl rfl tb_ag29 rfl hm0_1 rfl rfl fun W226 hG227 hm228 => ?_)
 replace hm0_0 := At.grownAt hm0_0 hm0_1 hG227 Dc
 replace hm3_6 := At.grownAt hm3_6 hm0_1 hG227 Dc
 replace hm4_4 := At.grownAt hm4_4 hm0_1 hG227 Dc
 replace hB := Zg hB hG227 lo_b0_1
 replace hm5_3 := At.grownNe hm5_3 (Ne.symm ne_b0_1_b5_3) hG227
 replace hon := OwT.grownAt hon hm0_1 hG227 Dc
 replace hmay := OwT.grownAt hmay hm0_1 hG227 Dc
 replace hm9_9 := At.grownAt hm9_9 hm0_1 hG227 Dc
 replace hm9_10 := At.grownAt hm9_10 hm0_1 hG227 Dc
 replace hm9_11 := At.grownAt hm9_11 hm0_1 hG227 Dc
 replace hm0_1 := hm228
 refine Zi rfl <| WL_nil <| Zt <| ret_ct rfl tb_ag29 hm0_1 rfl (v1 := .int .i64 4) rfl ⟨hB, ?_⟩
 first | (rw [ofE_1 (by simpa using hc0)]; exact .inr ⟨by decide, rfl⟩) | (rw [ofE_4 (o := o) hr (by omega) (clash_t hs10_2 hn8 hc2)]; exact .inr ⟨by decide, rfl⟩) | (have ho2 : o = T.no.toNat := (by omega); subst ho2; exact .inl ⟨ofE_0 hr hq, onv, mayv, rfl, hon, hmay⟩)
 refine WC_skip <| hK218 _ _ ?_
 refine WC_draw (fun a b => Gr2 onv.ownBlock mayv.ownBlock a b) tb_mix (fun W229 hE230 => ?_)
 replace hB := Ze hB hE230
 replace hm5_3 := hE230.at hm5_3
 replace hon := hE230.ow hon
 replace hmay := hE230.ow hmay
 replace hm9_9 := hE230.at hm9_9
 replace hm9_10 := hE230.at hm9_10
 replace hm9_11 := hE230.at hm9_11
 have hrow231 := hon
 have hrow232 := hmay
 have hS : Gr2 onv.ownBlock mayv.ownBlock W229 W229 := Gr2.refl
 refine Tf 0 rfl rfl tb_fo29_1 hS <| Tk 1 rfl (fun _ hq => r_load1 (v := onv) rfl tb_sc27 (At.cell (At.gr2 hm5_3 hq (own_neT hrow231 hm5_3 Dc) (own_neT hrow232 hm5_3 Dc)) rfl)) hS <| Tk 2 rfl (fun _ hq => r_loadW rfl tb_ag51 rfl (At.gr2 hm9_9 hq (Ne.symm no_onv_b9_9) (Ne.symm no_mayv_b9_9))) hS <| Tf 5 rfl rfl tb_fo29_2 hS <| Tk 6 rfl (fun _ hq => r_load1 (v := mayv) rfl tb_sc27 (At.cell (At.gr2 hm5_3 hq (own_neT hrow231 hm5_3 Dc) (own_neT hrow232 hm5_3 Dc)) rfl)) hS <| Tf 7 rfl rfl tb_fo56_0 hS <| Tk 8 rfl (fun _ hq => r_load1 (v := .func (.func (mnA 41 42 39 T.kind)) #[] #[]) rfl tb_sc54 (At.cell (Below.atI (below_gr2 hB hq (Nat.le_refl _) (OwT.lt hrow231) (OwT.lt hrow232)) hm4_4) rfl)) hS <| Tk 9 rfl (fun _ hq => r_loadW rfl tb_ag51 rfl (Below.atI (below_gr2 hB hq (Nat.le_refl _) (OwT.lt hrow231) (OwT.lt hrow232)) hm3_6)) hS <| Tk 10 rfl (fun _ hq => r_loadW rfl tb_ag51 rfl (At.gr2 hm9_9 hq (Ne.symm no_onv_b9_9) (Ne.symm no_mayv_b9_9))) hS <| Tk 11 rfl (fun _ hq => r_loadW rfl tb_ag51 rfl (At.gr2 hm9_10 hq (Ne.symm no_onv_b9_10) (Ne.symm no_mayv_b9_10))) hS <| Tk 12 rfl (fun _ hq => r_loadW rfl tb_ag51 rfl (At.gr2 hm9_11 hq (Ne.symm no_onv_b9_11) (Ne.symm no_mayv_b9_11))) hS <| To 3 rfl (Y_lit1 (u := .agg #[_, _, _, _]) rfl tb_el27 tb_zs51 rfl Dc Dc fun b12_3 W233 hb234 hE235 hm12_3 => ⟨.inl (Gr2.ext hS hE235), ?_⟩)
 have lo_b12_3 := ZO hb234 hB
 have ne_b3_6_b12_3 : b3_6 ≠ b12_3 := Nat.ne_of_lt (hb234 ▸ (Below.atI hB hm3_6).lt)
 have no_onv_b12_3 := OwT.neB (b := b12_3) hon (Nat.le_of_eq hb234.symm)
 have no_mayv_b12_3 := OwT.neB (b := b12_3) hmay (Nat.le_of_eq hb234.symm)
 have ne_b9_9_b12_3 := Zn hb234 hm9_9
 have ne_b9_10_b12_3 := Zn hb234 hm9_10
 have ne_b9_11_b12_3 := Zn hb234 hm9_11
 clear hb234
 replace hB := Ze hB hE235
 replace hm5_3 := hE235.at hm5_3
 replace hon := hE235.ow hon
 replace hmay := hE235.ow hmay
 replace hm9_9 := hE235.at hm9_9
 replace hm9_10 := hE235.at hm9_10
 replace hm9_11 := hE235.at hm9_11
 replace hS := Gr2.ext hS hE235
 refine To 4 rfl (Y_appendA (v := onv) (v2 := .slice (some ⟨b12_3, 0, none⟩) 1 1) rfl rfl tb_el27 tb_zs51 Dc hon (sl_lit1 hm12_3 rfl) rfl (by have := Below.size hB; omega) (by first | omega | (simp; omega) | (simp only [onTo_len, mayTo_len_]; omega)) (by first | omega | (simp; omega) | (simp only [onTo_len, mayTo_len_]; omega)) fun v12_4 W237 hG238 ho12_4 hob239 => ⟨.inl (Gr2.one hS hG238), ?_⟩)
 replace hS := Gr2.one hS hG238
 have hap240 := Apart.app hap hob239 hmay
 replace ho12_4 := OwT.snoc (enc := encS) (x := (mkS T o 1)) rfl rfl rfl rfl ho12_4
 replace hB := ZG hB hG238 hon
 replace hm5_3 := At.grownOw hm5_3 hon hG238 Dc
 replace hmay := OwT.grownAp hmay hap hG238
 replace hm9_9 := At.grownOwNe hm9_9 no_onv_b9_9 hG238
 replace hm9_10 := At.grownOwNe hm9_10 no_onv_b9_10 hG238
 replace hm9_11 := At.grownOwNe hm9_11 no_onv_b9_11 hG238
 clear hon
 refine Tf 16 rfl rfl tb_fo29_1 hS <| To 13 rfl (Yd.call (r_call (q := (mnA 41 42 39 T.kind)) (first := #[]) (cap := #[]) (vs := #[.agg #[_, _, _, _], .agg #[_, _, _, _], .agg #[_, _, _, _], .agg #[_, _, _, _]]) rfl (callB_mn T.kind) (by simp only [List.map_toArray, List.map_cons, List.map_nil, List.append_toArray, List.nil_append, List.cons_append]; rfl)) (C_mn T.kind _ _ _ _ _) fun v12_13 W241 hE242 hP12_13 => ⟨.inl (Gr2.ext hS hE242), ?_⟩)
 replace hB := Ze hB hE242
 replace hm5_3 := hE242.at hm5_3
 replace hmay := hE242.ow hmay
 replace hm9_9 := hE242.at hm9_9
 replace hm9_10 := hE242.at hm9_10
 replace hm9_11 := hE242.at hm9_11
 replace ho12_4 := hE242.ow ho12_4
 replace hS := Gr2.ext hS hE242
 obtain rfl := hP12_13
 refine To 14 rfl (Y_lit1 (u := .agg #[_, _, _, _]) rfl tb_el27 tb_zs51 rfl Dc Dc fun b12_14 W244 hb245 hE246 hm12_14 => ⟨.inl (Gr2.ext hS hE246), ?_⟩)
 have lo_b12_14 := ZO hb245 hB
 have ne_b3_6_b12_14 : b3_6 ≠ b12_14 := Nat.ne_of_lt (hb245 ▸ (Below.atI hB hm3_6).lt)
 have no_mayv_b12_14 := OwT.neB (b := b12_14) hmay (Nat.le_of_eq hb245.symm)
 have ne_b9_9_b12_14 := Zn hb245 hm9_9
 have ne_b9_10_b12_14 := Zn hb245 hm9_10
 have ne_b9_11_b12_14 := Zn hb245 hm9_11
 have no_v12_4_b12_14 := OwT.neB (b := b12_14) ho12_4 (Nat.le_of_eq hb245.symm)
 clear hb245
 replace hB := Ze hB hE246
 replace hm5_3 := hE246.at hm5_3
 replace hmay := hE246.ow hmay
 replace hm9_9 := hE246.at hm9_9
 replace hm9_10 := hE246.at hm9_10
 replace hm9_11 := hE246.at hm9_11
 replace ho12_4 := hE246.ow ho12_4
 replace hS := Gr2.ext hS hE246
 refine To 15 rfl (Y_appendA (v := mayv) (v2 := .slice (some ⟨b12_14, 0, none⟩) 1 1) rfl rfl tb_el27 tb_zs51 Dc hmay (sl_lit1 hm12_14 rfl) rfl (by have := Below.size hB; omega) (by first | omega | (simp; omega) | (simp only [onTo_len, mayTo_len_]; omega)) (by first | omega | (simp; omega) | (simp only [onTo_len, mayTo_len_]; omega)) fun v12_15 W247 hG248 ho12_15 hob249 => ⟨.inl (Gr2.two hS hG248), ?_⟩)
 replace hS := Gr2.two hS hG248
 have hap250 := Apart.app (Apart.symm hap240) hob249 ho12_4
 replace ho12_15 := OwT.snoc (enc := encS) (x := (mayT T o)) rfl rfl rfl rfl ho12_15
 replace hB := ZG hB hG248 hmay
 replace hm5_3 := At.grownOw hm5_3 hmay hG248 Dc
 replace hm9_9 := At.grownOwNe hm9_9 no_mayv_b9_9 hG248
 replace hm9_10 := At.grownOwNe hm9_10 no_mayv_b9_10 hG248
 replace hm9_11 := At.grownOwNe hm9_11 no_mayv_b9_11 hG248
 replace ho12_4 := OwT.grownAp ho12_4 (Apart.symm hap240) hG248
 clear hmay
 refine To 17 rfl (Y_store1 (v := v12_4) rfl rfl tb_sc27 (SlT.one ho12_4.sl) hm5_3 (by simp) fun W251 hG252 hm253 => ⟨.inr (by kernel_rfl), ?_⟩)
 replace hB := Zg hB hG252 lo_b5_3
 replace hm9_9 := At.grownAt hm9_9 hm5_3 hG252 Dc
 replace hm9_10 := At.grownAt hm9_10 hm5_3 hG252 Dc
 replace hm9_11 := At.grownAt hm9_11 hm5_3 hG252 Dc
 replace ho12_4 := OwT.grownAt ho12_4 hm5_3 hG252 Dc
 replace ho12_15 := OwT.grownAt ho12_15 hm5_3 hG252 Dc
 replace hm5_3 := hm253
 replace hm5_3 : At _ _ #[_, _, _] _ := hm5_3
 refine WT_one (dd := some 70) 18 (by kernel_rfl) rfl rfl rfl rfl (Yd.val (r_fieldAddr rfl tb_fo29_2) ⟨.inr (by kernel_rfl), ?_⟩)
 refine To 19 rfl (Y_store1 (v := v12_15) rfl rfl tb_sc27 (SlT.one ho12_15.sl) hm5_3 (by simp) fun W254 hG255 hm256 => ⟨.inr (by kernel_rfl), ?_⟩)
 replace hB := Zg hB hG255 lo_b5_3
 replace hm9_9 := At.grownAt hm9_9 hm5_3 hG255 Dc
 replace hm9_10 := At.grownAt hm9_10 hm5_3 hG255 Dc
 replace hm9_11 := At.grownAt hm9_11 hm5_3 hG255 Dc
 replace ho12_4 := OwT.grownAt ho12_4 hm5_3 hG255 Dc
 replace ho12_15 := OwT.grownAt ho12_15 hm5_3 hG255 Dc
 replace hm5_3 := hm256
 replace hm5_3 : At _ _ #[_, _, _] _ := hm5_3
 refine Td <| hK197 _ _ <| WC_region <| Zv (r_addI rfl rfl Om Om) <| Zi rfl <| WL_nil ?_
 exact hJ191 _ _ ((o + 1, v12_4, v12_15)) Za ⟨rfl, trivial⟩ ⟨hB, (by exact hm5_3), (by rw [onTo_succ]; exact ho12_4), (by rw [mayTo_succ]; exact ho12_15), (Apart.symm hap250), Om, (upTo_succ hq (by first | exact clash_k hs10_2 | exact clash_f hn8 hc2)), trivial⟩ (by show T.no.toNat - (o + 1) < T.no.toNat - o; omega)
 refine Zs <| Zs <| Zs <| Zs <| Zs <| Zb rfl <| WL_nil <| WC_cond_false rfl <| WC_skip <| hK218 _ _ ?_
 refine WC_draw (fun a b => Gr2 onv.ownBlock mayv.ownBlock a b) tb_mix (fun W257 hE258 => ?_)
 replace hB := Ze hB hE258
 replace hm5_3 := hE258.at hm5_3
 replace hon := hE258.ow hon
 replace hmay := hE258.ow hmay
 replace hm9_9 := hE258.at hm9_9
 replace hm9_10 := hE258.at hm9_10
 replace hm9_11 := hE258.at hm9_11
 have hrow259 := hon
 have hrow260 := hmay
 have hS : Gr2 onv.ownBlock mayv.ownBlock W257 W257 := Gr2.refl
 refine Tf 0 rfl rfl tb_fo29_1 hS <| Tk 1 rfl (fun _ hq => r_load1 (v := onv) rfl tb_sc27 (At.cell (At.gr2 hm5_3 hq (own_neT hrow259 hm5_3 Dc) (own_neT hrow260 hm5_3 Dc)) rfl)) hS <| Tk 2 rfl (fun _ hq => r_loadW rfl tb_ag51 rfl (At.gr2 hm9_9 hq (Ne.symm no_onv_b9_9) (Ne.symm no_mayv_b9_9))) hS <| Tf 5 rfl rfl tb_fo29_2 hS <| Tk 6 rfl (fun _ hq => r_load1 (v := mayv) rfl tb_sc27 (At.cell (At.gr2 hm5_3 hq (own_neT hrow259 hm5_3 Dc) (own_neT hrow260 hm5_3 Dc)) rfl)) hS <| Tf 7 rfl rfl tb_fo56_0 hS <| Tk 8 rfl (fun _ hq => r_load1 (v := .func (.func (mnA 41 42 39 T.kind)) #[] #[]) rfl tb_sc54 (At.cell (Below.atI (below_gr2 hB hq (Nat.le_refl _) (OwT.lt hrow259) (OwT.lt hrow260)) hm4_4) rfl)) hS <| Tk 9 rfl (fun _ hq => r_loadW rfl tb_ag51 rfl (Below.atI (below_gr2 hB hq (Nat.le_refl _) (OwT.lt hrow259) (OwT.lt hrow260)) hm3_6)) hS <| Tk 10 rfl (fun _ hq => r_loadW rfl tb_ag51 rfl (At.gr2 hm9_9 hq (Ne.symm no_onv_b9_9) (Ne.symm no_mayv_b9_9))) hS <| Tk 11 rfl (fun _ hq => r_loadW rfl tb_ag51 rfl (At.gr2 hm9_10 hq (Ne.symm no_onv_b9_10) (Ne.symm no_mayv_b9_10))) hS <| Tk 12 rfl (fun _ hq => r_loadW rfl tb_ag51 rfl (At.gr2 hm9_11 hq (Ne.symm no_onv_b9_11) (Ne.symm no_mayv_b9_11))) hS <| To 3 rfl (Y_lit1 (u := .agg #[_, _, _, _]) rfl tb_el27 tb_zs51 rfl Dc Dc fun b12_3 W261 hb262 hE263 hm12_3 => ⟨.inl (Gr2.ext hS hE263), ?_⟩)
 have lo_b12_3 := ZO hb262 hB
 have ne_b3_6_b12_3 : b3_6 ≠ b12_3 := Nat.ne_of_lt (hb262 ▸ (Below.atI hB hm3_6).lt)
 have no_onv_b12_3 := OwT.neB (b := b12_3) hon (Nat.le_of_eq hb262.symm)
 have no_mayv_b12_3 := OwT.neB (b := b12_3) hmay (Nat.le_of_eq hb262.symm)
 have ne_b9_9_b12_3 := Zn hb262 hm9_9
 have ne_b9_10_b12_3 := Zn hb262 hm9_10
 have ne_b9_11_b12_3 := Zn hb262 hm9_11
 clear hb262
 replace hB := Ze hB hE263
 replace hm5_3 := hE263.at hm5_3
 replace hon := hE263.ow hon
 replace hmay := hE263.ow hmay
 replace hm9_9 := hE263.at hm9_9
 replace hm9_10 := hE263.at hm9_10
 replace hm9_11 := hE263.at hm9_11
 replace hS := Gr2.ext hS hE263
 refine To 4 rfl (Y_appendA (v := onv) (v2 := .slice (some ⟨b12_3, 0, none⟩) 1 1) rfl rfl tb_el27 tb_zs51 Dc hon (sl_lit1 hm12_3 rfl) rfl (by have := Below.size hB; omega) (by first | omega | (simp; omega) | (simp only [onTo_len, mayTo_len_]; omega)) (by first | omega | (simp; omega) | (simp only [onTo_len, mayTo_len_]; omega)) fun v12_4 W265 hG266 ho12_4 hob267 => ⟨.inl (Gr2.one hS hG266), ?_⟩)
 replace hS := Gr2.one hS hG266
 have hap268 := Apart.app hap hob267 hmay
 replace ho12_4 := OwT.snoc (enc := encS) (x := (mkS T o 1)) rfl rfl rfl rfl ho12_4
 replace hB := ZG hB hG266 hon
 replace hm5_3 := At.grownOw hm5_3 hon hG266 Dc
 replace hmay := OwT.grownAp hmay hap hG266
 replace hm9_9 := At.grownOwNe hm9_9 no_onv_b9_9 hG266
 replace hm9_10 := At.grownOwNe hm9_10 no_onv_b9_10 hG266
 replace hm9_11 := At.grownOwNe hm9_11 no_onv_b9_11 hG266
 clear hon
 refine Tf 16 rfl rfl tb_fo29_1 hS <| To 13 rfl (Yd.call (r_call (q := (mnA 41 42 39 T.kind)) (first := #[]) (cap := #[]) (vs := #[.agg #[_, _, _, _], .agg #[_, _, _, _], .agg #[_, _, _, _], .agg #[_, _, _, _]]) rfl (callB_mn T.kind) (by simp only [List.map_toArray, List.map_cons, List.map_nil, List.append_toArray, List.nil_append, List.cons_append]; rfl)) (C_mn T.kind _ _ _ _ _) fun v12_13 W269 hE270 hP12_13 => ⟨.inl (Gr2.ext hS hE270), ?_⟩)
 replace hB := Ze hB hE270
 replace hm5_3 := hE270.at hm5_3
 replace hmay := hE270.ow hmay
 replace hm9_9 := hE270.at hm9_9
 replace hm9_10 := hE270.at hm9_10
 replace hm9_11 := hE270.at hm9_11
 replace ho12_4 := hE270.ow ho12_4
 replace hS := Gr2.ext hS hE270
 obtain rfl := hP12_13
 refine To 14 rfl (Y_lit1 (u := .agg #[_, _, _, _]) rfl tb_el27 tb_zs51 rfl Dc Dc fun b12_14 W272 hb273 hE274 hm12_14 => ⟨.inl (Gr2.ext hS hE274), ?_⟩)
 have lo_b12_14 := ZO hb273 hB
 have ne_b3_6_b12_14 : b3_6 ≠ b12_14 := Nat.ne_of_lt (hb273 ▸ (Below.atI hB hm3_6).lt)
 have no_mayv_b12_14 := OwT.neB (b := b12_14) hmay (Nat.le_of_eq hb273.symm)
 have ne_b9_9_b12_14 := Zn hb273 hm9_9
 have ne_b9_10_b12_14 := Zn hb273 hm9_10
 have ne_b9_11_b12_14 := Zn hb273 hm9_11
 have no_v12_4_b12_14 := OwT.neB (b := b12_14) ho12_4 (Nat.le_of_eq hb273.symm)
 clear hb273
 replace hB := Ze hB hE274
 replace hm5_3 := hE274.at hm5_3
 replace hmay := hE274.ow hmay
 replace hm9_9 := hE274.at hm9_9
 replace hm9_10 := hE274.at hm9_10
 replace hm9_11 := hE274.at hm9_11
 replace ho12_4 := hE274.ow ho12_4
 replace hS := Gr2.ext hS hE274
 refine To 15 rfl (Y_appendA (v := mayv) (v2 := .slice (some ⟨b12_14, 0, none⟩) 1 1) rfl rfl tb_el27 tb_zs51 Dc hmay (sl_lit1 hm12_14 rfl) rfl (by have := Below.size hB; omega) (by first | omega | (simp; omega) | (simp only [onTo_len, mayTo_len_]; omega)) (by first | omega | (simp; omega) | (simp only [onTo_len, mayTo_len_]; omega)) fun v12_15 W275 hG276 ho12_15 hob277 => ⟨.inl (Gr2.two hS hG276), ?_⟩)
 replace hS := Gr2.two hS hG276
 have hap278 := Apart.app (Apart.symm hap268) hob277 ho12_4
 replace ho12_15 := OwT.snoc (enc := encS) (x := (mayT T o)) rfl rfl rfl rfl ho12_15
 replace hB := ZG hB hG276 hmay
 replace hm5_3 := At.grownOw hm5_3 hmay hG276 Dc
 replace hm9_9 := At.grownOwNe hm9_9 no_mayv_b9_9 hG276
 replace hm9_10 := At.grownOwNe hm9_10 no_mayv_b9_10 hG276
 replace hm9_11 := At.grownOwNe hm9_11 no_mayv_b9_11 hG276
 replace ho12_4 := OwT.grownAp ho12_4 (Apart.symm hap268) hG276
 clear hmay
 refine To 17 rfl (Y_store1 (v := v12_4) rfl rfl tb_sc27 (SlT.one ho12_4.sl) hm5_3 (by simp) fun W279 hG280 hm281 => ⟨.inr (by kernel_rfl), ?_⟩)
 replace hB := Zg hB hG280 lo_b5_3
 replace hm9_9 := At.grownAt hm9_9 hm5_3 hG280 Dc
 replace hm9_10 := At.grownAt hm9_10 hm5_3 hG280 Dc
 replace hm9_11 := At.grownAt hm9_11 hm5_3 hG280 Dc
 replace ho12_4 := OwT.grownAt ho12_4 hm5_3 hG280 Dc
 replace ho12_15 := OwT.grownAt ho12_15 hm5_3 hG280 Dc
 replace hm5_3 := hm281
 replace hm5_3 : At _ _ #[_, _, _] _ := hm5_3
 refine WT_one (dd := some 70) 18 (by kernel_rfl) rfl rfl rfl rfl (Yd.val (r_fieldAddr rfl tb_fo29_2) ⟨.inr (by kernel_rfl), ?_⟩)
 refine To 19 rfl (Y_store1 (v := v12_15) rfl rfl tb_sc27 (SlT.one ho12_15.sl) hm5_3 (by simp) fun W282 hG283 hm284 => ⟨.inr (by kernel_rfl), ?_⟩)
 replace hB := Zg hB hG283 lo_b5_3
 replace hm9_9 := At.grownAt hm9_9 hm5_3 hG283 Dc
 replace hm9_10 := At.grownAt hm9_10 hm5_3 hG283 Dc
 replace hm9_11 := At.grownAt hm9_11 hm5_3 hG283 Dc
 replace ho12_4 := OwT.grownAt ho12_4 hm5_3 hG283 Dc
 replace ho12_15 := OwT.grownAt ho12_15 hm5_3 hG283 Dc
 replace hm5_3 := hm284
 replace hm5_3 : At _ _ #[_, _, _] _ := hm5_3
 refine Td <| hK197 _ _ <| WC_region <| Zv (r_addI rfl rfl Om Om) <| Zi rfl <| WL_nil ?_
 exact hJ191 _ _ ((o + 1, v12_4, v12_15)) Za ⟨rfl, trivial⟩ ⟨hB, (by exact hm5_3), (by rw [onTo_succ]; exact ho12_4), (by rw [mayTo_succ]; exact ho12_15), (Apart.symm hap278), Om, (upTo_succ hq (by first | exact clash_k hs10_2 | exact clash_f hn8 hc2)), trivial⟩ (by show T.no.toNat - (o + 1) < T.no.toNat - o; omega)
 refine WC_exit <| hK185 _ _ ?_
 try clear hz176
 try clear hz177
 replace hm0_0 := Below.atI hB hm0_0
 replace hm0_1 := Below.atI hB hm0_1
 replace hm3_6 := Below.atI hB hm3_6
 replace hm4_4 := Below.atI hB hm4_4
 have hzs := Nat.le_trans (Nat.le_refl _) (Below.size hBo175)
 replace lo_b5_3 := Nat.le_trans hzs lo_b5_3
 replace hon := OwT.mono hon hzs
 replace hmay := OwT.mono hmay hzs
 replace hB := Below.trans hBo175 (Below.mono hB hzs)
 clear hBo175 hzs
 refine Zr <| Zv (r_loadW rfl tb_ag29 rfl hm5_3) <| Zy (Y_storeW rfl rfl tb_ag29 rfl hm0_1 rfl (by exact one_sp (SlT.one (OwT.sl hon)) (SlT.one (OwT.sl hmay))) fun W287 hG288 hm289 => ?_)
 replace hm0_0 := At.grownAt hm0_0 hm0_1 hG288 Dc
 replace hm3_6 := At.grownAt hm3_6 hm0_1 hG288 Dc
 replace hm4_4 := At.grownAt hm4_4 hm0_1 hG288 Dc
 replace hB := Zg hB hG288 lo_b0_1
 replace hm5_3 := At.grownNe hm5_3 (Ne.symm ne_b0_1_b5_3) hG288
 replace hon := OwT.grownAt hon hm0_1 hG288 Dc
 replace hmay := OwT.grownAt hmay hm0_1 hG288 Dc
 replace hm0_1 := hm289
 refine Zi rfl <| WL_nil <| Zt <| ret_ct rfl tb_ag29 hm0_1 rfl (v1 := .int .i64 0) rfl ⟨hB, ?_⟩
 first | (rw [ofE_1 (by simpa using hc0)]; exact .inr ⟨by decide, rfl⟩) | (rw [ofE_4 (o := o) hr (by omega) (clash_t hs10_2 hn8 hc2)]; exact .inr ⟨by decide, rfl⟩) | (have ho2 : o = T.no.toNat := (by omega); subst ho2; exact .inl ⟨ofE_0 hr hq, onv, mayv, rfl, hon, hmay⟩)

end Go.Proofs.YtnkaebjaeaecmaaGreatDoor
