/-
  The walks of the statements about rows and primes as members.
-/
import Derived.Test.YtpamgfbecgjjeaaProg
import Derived.Test.YtpamgfbecgjjeaaWTag2
import Derived.Test.YtpamgfbecgjjeaaT6
namespace Go.Proofs.Ytpamgfbecgjjeaa
set_option linter.unusedVariables false
set_option linter.unusedSimpArgs false
open Go Go.RowKit

theorem tb_c31 : callB Try.prog 31 = true := by kernel_rfl
theorem tb_build69_0 {f : Nat → Value} {w : World} {d : Option Nat} {ty : TypeId} {ps : String} {af : Array Edge} {g : Option (Nat × Bool)} {x0 : Operand} {c0_0 : Value} (h0 : evF f x0 = c0_0) (k0 : c0_0.cells = #[c0_0]) :
    (execOp (evF f) ⟨d, .build 69 #[(0, x0)], ty, ps, af, g⟩).run Try.prog w = .ok (.value (.agg #[c0_0, .int .u64 0, .int .u64 0, .int .u64 0])) w := by
  obtain ⟨i0, hi0, hz0⟩ := Option.bind_eq_some_iff.1 (show (Try.prog.info? 69).bind (·.zero) = _ from tb_z69)
  obtain ⟨j67, hj67, hs67⟩ := Option.map_eq_some_iff.1 tb_size67
  simp [execOp, h0, k0, Instr.build, zeroValue, typeInfo, sizeOf, hi0, hz0, run_underlying Try.underlying69, Instr.fill, cells_agg, hj67, hs67]
theorem tb_c61 : callB Try.prog 61 = true := by kernel_rfl
theorem tb_c37 : callB Try.prog 37 = true := by kernel_rfl
theorem tb_c49 : callB Try.prog 49 = true := by kernel_rfl
theorem tb_c24 : callB Try.prog 24 = true := by kernel_rfl
theorem tb_build57_0_1 {f : Nat → Value} {w : World} {d : Option Nat} {ty : TypeId} {ps : String} {af : Array Edge} {g : Option (Nat × Bool)} {x0 x1 : Operand} {c0_0 c0_1 c1_0 : Value} (h0 : evF f x0 = .agg #[c0_0, c0_1]) (h1 : evF f x1 = c1_0) (k1 : c1_0.cells = #[c1_0]) :
    (execOp (evF f) ⟨d, .build 57 #[(0, x0), (1, x1)], ty, ps, af, g⟩).run Try.prog w = .ok (.value (.agg #[c0_0, c0_1, c1_0])) w := by
  obtain ⟨i0, hi0, hz0⟩ := Option.bind_eq_some_iff.1 (show (Try.prog.info? 57).bind (·.zero) = _ from tb_z57)
  obtain ⟨j5, hj5, hs5⟩ := Option.map_eq_some_iff.1 tb_size5
  obtain ⟨j55, hj55, hs55⟩ := Option.map_eq_some_iff.1 tb_size55
  simp [execOp, h0, h1, k1, Instr.build, zeroValue, typeInfo, sizeOf, hi0, hz0, run_underlying Try.underlying57, Instr.fill, cells_agg, hj5, hs5, hj55, hs55]
theorem tb_eq57 {f : Nat → Value} {w : World} {d : Option Nat} {ty t2 : TypeId} {ps : String} {af : Array Edge} {g : Option (Nat × Bool)} {x y : Operand} {a0 a1 a2 b0 b1 b2 : Int} (hx : evF f x = .agg #[.int .u8 a0, .int .u8 a1, .int .u8 a2]) (hy : evF f y = .agg #[.int .u8 b0, .int .u8 b1, .int .u8 b2]) :
    (execOp (evF f) ⟨d, .binOp .eql 57 x y t2, ty, ps, af, g⟩).run Try.prog w = .ok (.value (.bool (decide ((a0 = b0 ∧ a1 = b1 ∧ a2 = b2))))) w := by
  have hg : Try.prog.eqGuardType Try.prog.depth 57 = false := by kernel_rfl
  have hp57 : Try.prog.stoodInHeld 57 = false := by kernel_rfl
  have hu57 : Try.prog.underlying 57 = some (.struct (Try.prog.fieldsOf 57)) := by kernel_rfl
  have hp55 : Try.prog.stoodInHeld 55 = false := by kernel_rfl
  have hu55 : Try.prog.underlying 55 = some (.struct (Try.prog.fieldsOf 55)) := by kernel_rfl
  obtain ⟨j55, hj55, hs55⟩ := Option.map_eq_some_iff.1 (show (Try.prog.info? 55).map (·.size) = some 2 by kernel_rfl)
  simp only [execOp, hx, hy, Sem.run_bind, run_eqGuard_agg _ _ _ _ _ _ _ hg, Result.andThen_ok, run_eql_struct, run_equalIn_agg _ 9999 57 _ _ hu57 hp57]
  simp only [Program.fieldsOf, Try.underlying57]
  simp [Op.eqFields, part, isAgg, run_equalIn_int _ 9998 5 _ _ _ _ Try.underlying5, run_underlying Try.underlying5, run_equalIn_agg _ 9998 55 _ _ hu55 hp55, Program.fieldsOf, Try.underlying55, run_equalIn_int _ 9997 5 _ _ _ _ Try.underlying5, sizeOf, typeInfo, hj55, hs55, run_underlying Try.underlying55]
  by_cases q0 : a0 = b0 <;> by_cases q1 : a1 = b1 <;> by_cases q2 : a2 = b2 <;> simp [q0, q1, q2]
theorem tb_c51 : callB Try.prog 51 = true := by kernel_rfl
theorem tb_c50 : callB Try.prog 50 = true := by kernel_rfl
theorem tb_neq57 {f : Nat → Value} {w : World} {d : Option Nat} {ty t2 : TypeId} {ps : String} {af : Array Edge} {g : Option (Nat × Bool)} {x y : Operand} {a0 a1 a2 b0 b1 b2 : Int} (hx : evF f x = .agg #[.int .u8 a0, .int .u8 a1, .int .u8 a2]) (hy : evF f y = .agg #[.int .u8 b0, .int .u8 b1, .int .u8 b2]) :
    (execOp (evF f) ⟨d, .binOp .neq 57 x y t2, ty, ps, af, g⟩).run Try.prog w = .ok (.value (.bool (decide (¬ (a0 = b0 ∧ a1 = b1 ∧ a2 = b2))))) w := by
  have hg : Try.prog.eqGuardType Try.prog.depth 57 = false := by kernel_rfl
  have hp57 : Try.prog.stoodInHeld 57 = false := by kernel_rfl
  have hu57 : Try.prog.underlying 57 = some (.struct (Try.prog.fieldsOf 57)) := by kernel_rfl
  have hp55 : Try.prog.stoodInHeld 55 = false := by kernel_rfl
  have hu55 : Try.prog.underlying 55 = some (.struct (Try.prog.fieldsOf 55)) := by kernel_rfl
  obtain ⟨j55, hj55, hs55⟩ := Option.map_eq_some_iff.1 (show (Try.prog.info? 55).map (·.size) = some 2 by kernel_rfl)
  simp only [execOp, hx, hy, Sem.run_bind, run_eqGuard_agg _ _ _ _ _ _ _ hg, Result.andThen_ok, run_neq_struct, run_equalIn_agg _ 9999 57 _ _ hu57 hp57]
  simp only [Program.fieldsOf, Try.underlying57]
  simp [Op.eqFields, part, isAgg, run_equalIn_int _ 9998 5 _ _ _ _ Try.underlying5, run_underlying Try.underlying5, run_equalIn_agg _ 9998 55 _ _ hu55 hp55, Program.fieldsOf, Try.underlying55, run_equalIn_int _ 9997 5 _ _ _ _ Try.underlying5, sizeOf, typeInfo, hj55, hs55, run_underlying Try.underlying55]
  by_cases q0 : a0 = b0 <;> by_cases q1 : a1 = b1 <;> by_cases q2 : a2 = b2 <;> simp [q0, q1, q2]
theorem tb_c53 : callB Try.prog 53 = true := by kernel_rfl
theorem tb_c60 : callB Try.prog 60 = true := by kernel_rfl
theorem tb_c62 : callB Try.prog 62 = true := by kernel_rfl
theorem tb_build57_0 {f : Nat → Value} {w : World} {d : Option Nat} {ty : TypeId} {ps : String} {af : Array Edge} {g : Option (Nat × Bool)} {x0 : Operand} {c0_0 c0_1 : Value} (h0 : evF f x0 = .agg #[c0_0, c0_1]) :
    (execOp (evF f) ⟨d, .build 57 #[(0, x0)], ty, ps, af, g⟩).run Try.prog w = .ok (.value (.agg #[c0_0, c0_1, .int .u8 0])) w := by
  obtain ⟨i0, hi0, hz0⟩ := Option.bind_eq_some_iff.1 (show (Try.prog.info? 57).bind (·.zero) = _ from tb_z57)
  obtain ⟨j5, hj5, hs5⟩ := Option.map_eq_some_iff.1 tb_size5
  obtain ⟨j55, hj55, hs55⟩ := Option.map_eq_some_iff.1 tb_size55
  simp [execOp, h0, Instr.build, zeroValue, typeInfo, sizeOf, hi0, hz0, run_underlying Try.underlying57, Instr.fill, cells_agg, hj5, hs5, hj55, hs55]
theorem tb_zs57 : (zeroI Try.prog 57).map (fun z => z.cells.size) = some 3 := by kernel_rfl
theorem tb_c63 : callB Try.prog 63 = true := by kernel_rfl

set_option maxRecDepth 10000 in
theorem C_drawknifelaw11_knows  (w : World) :
    Fn Try.prog 53 #[] w fun v w' => v = .bool true := by
 refine Fn_intro (n := 61) Try.func53 rfl rfl (Nat.le_of_ble_eq_true rfl) ?_
 have hB : Below w.heap.size w w := Below.refl _ _
 refine WC_seq (fun K1 hK2 => ?_)
 refine WC_region ?_
 refine WL_val (dd := some 0) rfl rfl rfl (r_assign (v := .bool false) rfl) ?_
 refine WL_nil ?_
 refine hK2 _ _ ?_
 clear hK2 K1
 refine WC_seq (fun K3 hK4 => ?_)
 refine WC_region ?_
 refine WL_call (dd := some 10) rfl rfl rfl (r_call1 tb_c31 (v0 := .int .i64 20000) rfl) (C_zdd_New 20000 _ (by omega)) (fun v1_0 W5 hE6 hP1_0 => ?_)
 have hsz7 := (Below.size hB)
 replace hB := below_ext hB hE6 (Nat.le_refl _)
 clear hE6
 obtain ⟨bz, ba, bm, rfl, hz, hD⟩ := hP1_0
 replace hD := Dia.mono hD hsz7
 clear hsz7
 refine WL_val (dd := some 9) rfl rfl rfl (r_move (v := .tuple #[.pointer (some ⟨bz, 0, none⟩), .int .i64 0]) rfl) ?_
 refine WL_val (dd := some 11) rfl rfl rfl (r_ext2_0 (h := rfl)) ?_
 refine WL_val (dd := some 12) rfl rfl rfl (r_ext2_1 (h := rfl)) ?_
 refine WL_val (dd := some 1) rfl rfl rfl (r_assign (v := .pointer (some ⟨bz, 0, none⟩)) rfl) ?_
 refine WL_val (dd := some 2) rfl rfl rfl (r_assign (v := .int .i64 0) rfl) ?_
 refine WL_nil ?_
 refine hK4 _ _ ?_
 clear hK4 K3
 refine WC_seq (fun K8 hK9 => ?_)
 refine WC_seq (fun K10 hK11 => ?_)
 refine WC_region ?_
 refine WL_val (dd := some 13) rfl rfl rfl (r_move (v := .pointer (some ⟨bz, 0, none⟩)) rfl) ?_
 refine WL_val (dd := some 14) rfl rfl rfl (r_ptrNil rfl rfl Try.underlying24) ?_
 refine WL_nil ?_
 refine hK11 _ _ ?_
 clear hK11 K10
 refine WC_cond_false rfl ?_
 refine WC_skip ?_
 refine hK9 _ _ ?_
 clear hK9 K8
 refine WC_seq (fun K12 hK13 => ?_)
 refine WC_region ?_
 refine WL_val (dd := some 16) rfl rfl rfl (r_move (v := .pointer (some ⟨bz, 0, none⟩)) rfl) ?_
 refine WL_val (dd := some 17) (v := setV 14) rfl rfl rfl (tb_build69_0 (h0 := rfl) (k0 := rfl) (c0_0 := .int .u64 14)) ?_
 refine WL_callG (dd := some 18) rfl rfl rfl (r_call3 tb_c61 (v0 := .pointer (some ⟨bz, 0, none⟩)) rfl (v1 := .agg #[_, _, _, _]) rfl (v2 := .int .i64 2) rfl) (C_tagged_Primes _ _ _ _ _ _ 14 2 _ (Below.size hB) hz hD (by decide +kernel)) (fun v4_2 W14 hP4_2 => ?_)
 obtain ⟨ns4_2, id4_2, er4_2, rfl, hx4_2, hDn4_2, hg4_2⟩ := hP4_2
 replace hB := Below.dx hB (Nat.le_refl _) (Nat.le_refl _) hx4_2
 replace hz := At.dx hD hx4_2 hz (by decide) (by decide)
 replace hD := hDn4_2
 refine WL_val (dd := some 15) rfl rfl rfl (r_move (v := .tuple #[.int .i64 (id4_2 : Int), .int .i64 er4_2]) rfl) ?_
 refine WL_val (dd := some 19) rfl rfl rfl (r_ext2_0 (h := rfl)) ?_
 refine WL_val (dd := some 20) rfl rfl rfl (r_ext2_1 (h := rfl)) ?_
 refine WL_val (dd := some 3) rfl rfl rfl (r_assign (v := .int .i64 _) rfl) ?_
 refine WL_val (dd := some 4) rfl rfl rfl (r_assign (v := .int .i64 _) rfl) ?_
 refine WL_nil ?_
 refine hK13 _ _ ?_
 clear hK13 K12
 refine WC_seq (fun K16 hK17 => ?_)
 obtain ⟨he4, hm4, hl4⟩ := pr_ok hg4_2 (by have := tC_6 (show 2 ≤ 6 by decide); simp only [List.length_nil]; omega)
 subst he4
 have hI := pr_is hg4_2.1.v hm4
 rw [memsP_knows] at hI
 have hw5 := hD.wf
 have hro5 := hD.room
 have hto5 := hD.top
 have hv5 := hI.v
 refine WC_region ?_
 refine WL_val (dd := some 22) rfl rfl rfl (r_move (v := .pointer (some ⟨bz, 0, none⟩)) rfl) ?_
 refine WL_val (dd := some 23) rfl rfl rfl (r_move (v := .int .i64 _) rfl) ?_
 refine WL_call (dd := some 24) rfl rfl rfl (r_call2 tb_c37 (v0 := .pointer (some ⟨bz, 0, none⟩)) rfl (v1 := .int .i64 _) rfl) (C___zdd_Zdd__List _ _ _ _ _ _ _ _ hz hD (by omega)) (fun v5_2 W18 hE19 hP5_2 => ?_)
 have hsz20 := (Below.size hB)
 replace hB := below_ext hB hE19 (Nat.le_refl _)
 replace hD := Dia.ext hE19 hD
 replace hz := hE19.at hz
 clear hE19
 obtain ⟨x5_2, rfl, hsl5_2, hty5_2⟩ := list_is hI hw5 (by decide) hP5_2
 clear hsz20
 refine WL_val (dd := some 21) rfl rfl rfl (r_move (v := .tuple #[x5_2, .int .i64 0]) rfl) ?_
 refine WL_val (dd := some 25) rfl rfl rfl (r_ext2_0 (h := rfl)) ?_
 refine WL_val (dd := some 26) rfl rfl rfl (r_ext2_1 (h := rfl)) ?_
 refine WL_val (dd := some 5) rfl rfl rfl (r_assign (v := x5_2) rfl) ?_
 refine WL_val (dd := some 6) rfl rfl rfl (r_assign (v := .int .i64 0) rfl) ?_
 refine WL_nil ?_
 refine hK17 _ _ ?_
 clear hK17 K16
 refine WC_seq (fun K21 hK22 => ?_)
 have hBo23 := hB
 replace hB := Below.refl W18.heap.size W18
 refine WC_region ?_
 refine WL_call (dd := some 28) rfl rfl rfl (r_call1 tb_c49 (v0 := .int .i64 65538) rfl) (C_tagged_Row 65538 _) (fun v6_0 W24 hE25 hP6_0 => ?_)
 have hsz26 := (Below.size hB)
 replace hB := below_ext hB hE25 (Nat.le_refl _)
 clear hE25
 obtain rfl := hP6_0
 clear hsz26
 rw [row_knows, if_pos ok_knows]
 refine WL_val (dd := some 27) rfl rfl rfl (r_move (v := .tuple #[.agg #[_, _, _], .int .i64 _]) rfl) ?_
 refine WL_val (dd := some 29) rfl rfl rfl (r_ext2_0 (h := rfl)) ?_
 refine WL_val (dd := some 30) rfl rfl rfl (r_ext2_1 (h := rfl)) ?_
 refine WL_step (dd := some 7) rfl rfl rfl (Y_alloc tb_z57 rfl (fun b6_4 W27 hb28 hE29 hm6_4 => ?_))
 have lo_b6_4 : W18.heap.size ≤ b6_4 := hb28 ▸ (Below.size hB)
 clear hb28
 replace hB := below_ext hB hE29 (Nat.le_refl _)
 clear hE29
 refine WL_step (dd := none) rfl rfl rfl (Y_storeW rfl rfl tb_ag57 rfl hm6_4 rfl (by rfl) (fun W30 hG31 hm32 => ?_))
 replace hB := below_grown hB hG31 (Nat.le_refl _) (fun j hj => by cases hj; exact lo_b6_4)
 clear hG31 hm6_4
 have hm6_4 := hm32
 clear hm32
 refine WL_val (dd := some 8) rfl rfl rfl (r_assign (v := .int .i64 _) rfl) ?_
 refine WL_nil ?_
 refine hK22 _ _ ?_
 clear hK22 K21
 refine WC_seq (fun K33 hK34 => ?_)
 refine WC_region ?_
 refine WL_val (dd := some 31) rfl rfl rfl (r_move (v := .int .i64 0) rfl) ?_
 refine WL_val (dd := some 32) rfl rfl rfl (r_eql rfl rfl) ?_
 refine WL_split (dd := some 33) rfl rfl rfl (r_move (v := .bool _) rfl) (fun hs7_2 => ?_) (fun hs7_2 => ?_)
 ·
  try with_reducible replace hs7_2 := of_decide_eq_true hs7_2
  refine WL_val (dd := some 34) rfl rfl rfl (r_move (v := .int .i64 _) rfl) ?_
  refine WL_val (dd := some 35) rfl rfl rfl (r_eql rfl rfl) ?_
  refine WL_val (dd := some 36) rfl rfl rfl (r_pick_t rfl (v := .bool _) rfl) ?_
  refine WL_split (dd := some 37) rfl rfl rfl (r_move (v := .bool _) rfl) (fun hs7_6 => ?_) (fun hs7_6 => ?_)
  ·
   try with_reducible replace hs7_6 := of_decide_eq_true hs7_6
   refine WL_val (dd := some 38) rfl rfl rfl (r_move (v := .int .i64 0) rfl) ?_
   refine WL_val (dd := some 39) rfl rfl rfl (r_eql rfl rfl) ?_
   refine WL_val (dd := some 40) rfl rfl rfl (r_pick_t rfl (v := .bool _) rfl) ?_
   refine WL_split (dd := some 41) rfl rfl rfl (r_move (v := .bool _) rfl) (fun hs7_10 => ?_) (fun hs7_10 => ?_)
   ·
    try with_reducible replace hs7_10 := of_decide_eq_true hs7_10
    refine WL_val (dd := some 42) rfl rfl rfl (r_move (v := x5_2) rfl) ?_
    refine WL_step (dd := some 43) rfl rfl rfl (Y_lit2 (u0 := .int .i64 2) (u1 := .int .i64 8) rfl rfl tb_el22 tb_zs3 rfl rfl (by decide) (by decide) (fun b7_12 W35 hb36 hE37 hm7_12 => ?_))
    have lo_b7_12 : W18.heap.size ≤ b7_12 := hb36 ▸ (Below.size hB)
    clear hb36
    replace hB := below_ext hB hE37 (Nat.le_refl _)
    replace hm6_4 := hE37.at hm6_4
    clear hE37
    have ho7_12 := own_lit2 (enc := encI) (sz := 1) (a0 := 2) (a1 := 8) hm7_12 rfl rfl rfl rfl lo_b7_12
    clear hm7_12
    refine WL_call (dd := some 44) rfl rfl rfl (r_call2 tb_c24 (v0 := x5_2) rfl (v1 := .slice (some ⟨b7_12, 0, none⟩) 2 2) rfl) (C_drawkniferef08_Same _ _ _ [2, 8] _ (Below.slT hB hsl5_2) ho7_12.sl (by decide) (by decide)) (fun v7_13 W38 hE39 hP7_13 => ?_)
    have hsz40 := (Below.size hB)
    replace hB := below_ext hB hE39 (Nat.le_refl _)
    replace hm6_4 := hE39.at hm6_4
    replace ho7_12 := hE39.ow ho7_12
    clear hE39
    clear hsz40
    obtain rfl := hP7_13
    refine WL_val (dd := some 45) rfl rfl rfl (r_pick_t rfl (v := .bool _) rfl) ?_
    refine WL_split (dd := some 46) rfl rfl rfl (r_move (v := .bool _) rfl) (fun hs7_15 => ?_) (fun hs7_15 => ?_)
    ·
     try with_reducible replace hs7_15 := of_decide_eq_true hs7_15
     refine WL_val (dd := some 47) rfl rfl rfl (r_loadW rfl tb_ag57 rfl hm6_4) ?_
     refine WL_val (dd := some 48) rfl rfl rfl (tb_build55_0_1 (h0 := rfl) (k0 := rfl) (h1 := rfl) (k1 := rfl) (c0_0 := .int .u8 1) (c1_0 := .int .u8 1)) ?_
     refine WL_val (dd := some 49) rfl rfl rfl (tb_build57_0_1 (h0 := rfl) (h1 := rfl) (k1 := rfl) (c1_0 := .int .u8 1)) ?_
     refine WL_val (dd := some 50) rfl rfl rfl (tb_eq57 rfl rfl) ?_
     refine WL_val (dd := some 51) rfl rfl rfl (r_pick_t rfl (v := .bool _) rfl) ?_
     refine WL_split (dd := some 52) rfl rfl rfl (r_move (v := .bool _) rfl) (fun hs7_21 => ?_) (fun hs7_21 => ?_)
     ·
      try with_reducible replace hs7_21 := of_decide_eq_true hs7_21
      refine WL_val (dd := some 53) rfl rfl rfl (r_move (v := .int .i64 _) rfl) ?_
      refine WL_val (dd := some 54) rfl rfl rfl (r_eql rfl rfl) ?_
      refine WL_val (dd := some 55) rfl rfl rfl (r_pick_t rfl (v := .bool _) rfl) ?_
      refine WL_split (dd := some 56) rfl rfl rfl (r_move (v := .bool _) rfl) (fun hs7_25 => ?_) (fun hs7_25 => ?_)
      ·
       try with_reducible replace hs7_25 := of_decide_eq_true hs7_25
       refine WL_val (dd := some 57) rfl rfl rfl (r_loadW rfl tb_ag57 rfl hm6_4) ?_
       refine WL_call (dd := some 58) rfl rfl rfl (r_call1 tb_c51 (v0 := .agg #[_, _, _]) rfl) (C_tagged_Member ⟨⟨1, 1⟩, 1⟩ _ (by decide)) (fun v7_27 W41 hE42 hP7_27 => ?_)
       have hsz43 := (Below.size hB)
       replace hB := below_ext hB hE42 (Nat.le_refl _)
       replace hm6_4 := hE42.at hm6_4
       replace ho7_12 := hE42.ow ho7_12
       clear hE42
       clear hsz43
       obtain rfl := hP7_27
       refine WL_val (dd := some 59) rfl rfl rfl (r_eql rfl rfl) ?_
       refine WL_val (dd := some 60) rfl rfl rfl (r_pick_t rfl (v := .bool _) rfl) ?_
       refine WL_val (dd := some 0) rfl rfl rfl (r_assign (v := .bool _) rfl) ?_
       refine WL_nil ?_
       refine hK34 _ _ ?_
       clear hK34 K33
       refine WC_ret ?_
       replace hD := Dia.below hB hD
       replace hz := Below.atI hB hz
       replace hsl5_2 := Below.slT hB hsl5_2
       replace hty5_2 := TyS.ext hB hty5_2
       have hzs := Nat.le_trans (Nat.le_refl _) (Below.size hBo23)
       replace lo_b6_4 := Nat.le_trans hzs lo_b6_4
       replace ho7_12 := OwT.mono ho7_12 hzs
       replace hB := Below.trans hBo23 (Below.mono hB hzs)
       clear hBo23 hzs
       repeat (first | refine thenQ_ret ?_ | refine blockQ_ret ?_)
       refine ret_t (v := .bool _) rfl ?_
       refine ⟨hB, ?_⟩
       exact congrArg Value.bool (decide_eq_true (by rw [mem_knows]; rfl))
      ·
       try with_reducible replace hs7_25 := of_decide_eq_false hs7_25
       exact absurd rfl hs7_25
     ·
      try with_reducible replace hs7_21 := of_decide_eq_false hs7_21
      exact absurd ⟨rfl, rfl, rfl⟩ hs7_21
    ·
     try with_reducible replace hs7_15 := of_decide_eq_false hs7_15
     exact absurd (by decide) hs7_15
   ·
    try with_reducible replace hs7_10 := of_decide_eq_false hs7_10
    exact absurd rfl hs7_10
  ·
   try with_reducible replace hs7_6 := of_decide_eq_false hs7_6
   exact absurd rfl hs7_6
 ·
  try with_reducible replace hs7_2 := of_decide_eq_false hs7_2
  exact absurd rfl hs7_2

set_option maxRecDepth 20000 in
theorem C_drawknifelaw11_TaggedRows (x : Rw) (m : Int) (w : World) (hbx : x.c.m < 256 ∧ x.c.v < 256 ∧ x.o < 256) :
    Fn Try.prog 12 #[.agg #[.int .u8 (x.c.m : Int), .int .u8 (x.c.v : Int), .int .u8 (x.o : Int)], .int .i64 m] w fun v w' => v = .bool true := by
 refine Fn_intro (n := 116) Try.func12 rfl rfl (Nat.le_of_ble_eq_true rfl) ?_
 have hB : Below w.heap.size w w := Below.refl _ _
 have hyl := rowR_lt m
 have hbl := rowR_lt (memRw x : Int)
 refine WC_seq (fun K1 hK2 => ?_)
 refine WC_region ?_
 refine WL_step (dd := some 2) rfl rfl rfl (Y_box (c := #[_, _, _]) rfl rfl (fun b0_0 W3 hb4 hE5 hm0_0 => ?_))
 have lo_b0_0 : w.heap.size ≤ b0_0 := hb4 ▸ (Below.size hB)
 clear hb4
 replace hB := below_ext hB hE5 (Nat.le_refl _)
 clear hE5
 refine WL_val (dd := some 4) rfl rfl rfl (r_assign (v := .bool false) rfl) ?_
 refine WL_nil ?_
 refine hK2 _ _ ?_
 clear hK2 K1
 refine WC_seq (fun K6 hK7 => ?_)
 refine WC_region ?_
 refine WL_val (dd := some 15) rfl rfl rfl (r_move (v := .int .i64 _) rfl) ?_
 refine WL_call (dd := some 16) rfl rfl rfl (r_call1 tb_c49 (v0 := .int .i64 _) rfl) (C_tagged_Row _ _) (fun v1_1 W8 hE9 hP1_1 => ?_)
 have hsz10 := (Below.size hB)
 replace hB := below_ext hB hE9 (Nat.le_refl _)
 replace hm0_0 := hE9.at hm0_0
 clear hE9
 obtain rfl := hP1_1
 clear hsz10
 refine WL_val (dd := some 14) rfl rfl rfl (r_move (v := .tuple #[.agg #[_, _, _], .int .i64 _]) rfl) ?_
 refine WL_val (dd := some 17) rfl rfl rfl (r_ext2_0 (h := rfl)) ?_
 refine WL_val (dd := some 18) rfl rfl rfl (r_ext2_1 (h := rfl)) ?_
 refine WL_step (dd := some 5) rfl rfl rfl (Y_alloc tb_z57 rfl (fun b1_5 W11 hb12 hE13 hm1_5 => ?_))
 have lo_b1_5 : w.heap.size ≤ b1_5 := hb12 ▸ (Below.size hB)
 have ne_b0_0_b1_5 : b0_0 ≠ b1_5 := Nat.ne_of_lt (hb12 ▸ hm0_0.lt)
 clear hb12
 replace hB := below_ext hB hE13 (Nat.le_refl _)
 replace hm0_0 := hE13.at hm0_0
 clear hE13
 refine WL_step (dd := none) rfl rfl rfl (Y_storeW rfl rfl tb_ag57 rfl hm1_5 rfl (by rfl) (fun W14 hG15 hm16 => ?_))
 replace hB := below_grown hB hG15 (Nat.le_refl _) (fun j hj => by cases hj; exact lo_b1_5)
 replace hm0_0 := At.grownNe hm0_0 ne_b0_0_b1_5 hG15
 clear hG15 hm1_5
 have hm1_5 := hm16
 clear hm16
 refine WL_val (dd := some 6) rfl rfl rfl (r_assign (v := .int .i64 _) rfl) ?_
 refine WL_nil ?_
 refine hK7 _ _ ?_
 clear hK7 K6
 refine WC_seq (fun K17 hK18 => ?_)
 refine WC_region ?_
 refine WL_val (dd := some 20) rfl rfl rfl (r_move (v := .int .i64 _) rfl) ?_
 refine WL_call (dd := some 21) rfl rfl rfl (r_call1 tb_c50 (v0 := .int .i64 _) rfl) (C_drawkniferef11_Row _ _) (fun v2_1 W19 hE20 hP2_1 => ?_)
 have hsz21 := (Below.size hB)
 replace hB := below_ext hB hE20 (Nat.le_refl _)
 replace hm0_0 := hE20.at hm0_0
 replace hm1_5 := hE20.at hm1_5
 clear hE20
 obtain rfl := hP2_1
 clear hsz21
 refine WL_val (dd := some 19) rfl rfl rfl (r_move (v := .tuple #[.agg #[_, _, _], .bool _]) rfl) ?_
 refine WL_val (dd := some 22) rfl rfl rfl (r_ext2_0 (h := rfl)) ?_
 refine WL_val (dd := some 23) rfl rfl rfl (r_ext2_1 (h := rfl)) ?_
 refine WL_step (dd := some 7) rfl rfl rfl (Y_alloc tb_z57 rfl (fun b2_5 W22 hb23 hE24 hm2_5 => ?_))
 have lo_b2_5 : w.heap.size ≤ b2_5 := hb23 ▸ (Below.size hB)
 have ne_b0_0_b2_5 : b0_0 ≠ b2_5 := Nat.ne_of_lt (hb23 ▸ hm0_0.lt)
 have ne_b1_5_b2_5 : b1_5 ≠ b2_5 := Nat.ne_of_lt (hb23 ▸ hm1_5.lt)
 clear hb23
 replace hB := below_ext hB hE24 (Nat.le_refl _)
 replace hm0_0 := hE24.at hm0_0
 replace hm1_5 := hE24.at hm1_5
 clear hE24
 refine WL_step (dd := none) rfl rfl rfl (Y_storeW rfl rfl tb_ag57 rfl hm2_5 rfl (by rfl) (fun W25 hG26 hm27 => ?_))
 replace hB := below_grown hB hG26 (Nat.le_refl _) (fun j hj => by cases hj; exact lo_b2_5)
 replace hm0_0 := At.grownNe hm0_0 ne_b0_0_b2_5 hG26
 replace hm1_5 := At.grownNe hm1_5 ne_b1_5_b2_5 hG26
 clear hG26 hm2_5
 have hm2_5 := hm27
 clear hm27
 refine WL_val (dd := some 8) rfl rfl rfl (r_assign (v := .bool _) rfl) ?_
 refine WL_nil ?_
 refine hK18 _ _ ?_
 clear hK18 K17
 refine WC_seq (fun K28 hK29 => ?_)
 refine WC_seq (fun K30 hK31 => ?_)
 refine WC_draw Ext tb_mix (fun W32 hE33 => ?_)
 replace hB := below_ext hB hE33 (Nat.le_refl _)
 replace hm0_0 := hE33.at hm0_0
 replace hm1_5 := hE33.at hm1_5
 replace hm2_5 := hE33.at hm2_5
 have hS := Ext.refl W32
 refine WT_take (dd := some 24) 0 rfl (by kernel_rfl) (by kernel_rfl) (by kernel_rfl) rfl rfl rfl (fun _wq hq => r_loadW rfl tb_ag57 rfl (hq.at hm0_0)) hS ?_
 refine WT_take (dd := some 26) 2 rfl (by kernel_rfl) (by kernel_rfl) (by kernel_rfl) rfl rfl rfl (fun _wq hq => r_loadW rfl tb_ag57 rfl (hq.at hm0_0)) hS ?_
 refine WT_one (dd := some 25) 1 (by kernel_rfl) rfl rfl rfl rfl (Yd.call (r_call1 tb_c51 (v0 := .agg #[_, _, _]) rfl) (C_tagged_Member x _ hbx) (fun v3_1 W34 hE35 hP3_1 => ⟨.inl (hS.trans hE35), ?_⟩))
 have hsz36 := (Below.size hB)
 have sv37_hB := hB
 have sv37_hm0_0 := hm0_0
 have sv37_hm1_5 := hm1_5
 have sv37_hm2_5 := hm2_5
 replace hB := below_ext hB hE35 (Nat.le_refl _)
 replace hm0_0 := hE35.at hm0_0
 replace hm1_5 := hE35.at hm1_5
 replace hm2_5 := hE35.at hm2_5
 replace hS := hS.trans hE35
 clear hE35
 clear hsz36
 obtain rfl := hP3_1
 refine WT_one (dd := some 27) 3 (by kernel_rfl) rfl rfl rfl rfl (Yd.call (r_call1 tb_c52 (v0 := .agg #[_, _, _]) rfl) (C_drawkniferef11_Member x _ hbx) (fun v3_3 W38 hE39 hP3_3 => ⟨.inl (hS.trans hE39), ?_⟩))
 have hsz40 := (Below.size hB)
 replace hB := below_ext hB hE39 (Nat.le_refl _)
 replace hm0_0 := hE39.at hm0_0
 replace hm1_5 := hE39.at hm1_5
 replace hm2_5 := hE39.at hm2_5
 replace hS := hS.trans hE39
 clear hE39
 clear hsz40
 obtain rfl := hP3_3
 refine WT_take (dd := some 28) 4 rfl (by kernel_rfl) (by kernel_rfl) (by kernel_rfl) rfl rfl rfl (fun _wq _hq => r_neq rfl rfl) hS ?_
 refine WT_split (dd := some 29) 5 rfl (by kernel_rfl) (by kernel_rfl) (by kernel_rfl) rfl rfl rfl (fun wq hq => r_move (v := .bool _) rfl) hS (fun hs3_5 => ?_) (fun hs3_5 => ?_)
 ·
  try with_reducible replace hs3_5 := of_decide_eq_true hs3_5
  exact absurd rfl hs3_5
 ·
  try with_reducible replace hs3_5 := of_decide_eq_false hs3_5
  refine WT_take (dd := some 30) 6 rfl (by kernel_rfl) (by kernel_rfl) (by kernel_rfl) rfl rfl rfl (fun _wq hq => r_loadW rfl tb_ag57 rfl (hq.at sv37_hm1_5)) hS ?_
  refine WT_take (dd := some 31) 7 rfl (by kernel_rfl) (by kernel_rfl) (by kernel_rfl) rfl rfl rfl (fun _wq hq => r_loadW rfl tb_ag57 rfl (hq.at sv37_hm2_5)) hS ?_
  refine WT_take (dd := some 32) 8 rfl (by kernel_rfl) (by kernel_rfl) (by kernel_rfl) rfl rfl rfl (fun _wq _hq => tb_neq57 rfl rfl) hS ?_
  refine WT_take (dd := some 33) 9 rfl (by kernel_rfl) (by kernel_rfl) (by kernel_rfl) rfl rfl rfl (fun _wq _hq => r_pick_f rfl (v := .bool _) rfl) hS ?_
  refine WT_split (dd := some 34) 10 rfl (by kernel_rfl) (by kernel_rfl) (by kernel_rfl) rfl rfl rfl (fun wq hq => r_move (v := .bool _) rfl) hS (fun hs3_10 => ?_) (fun hs3_10 => ?_)
  ·
   try with_reducible replace hs3_10 := of_decide_eq_true hs3_10
   exact absurd ⟨rfl, rfl, rfl⟩ hs3_10
  ·
   try with_reducible replace hs3_10 := of_decide_eq_false hs3_10
   refine WT_take (dd := some 35) 11 rfl (by kernel_rfl) (by kernel_rfl) (by kernel_rfl) rfl rfl rfl (fun _wq _hq => r_move (v := .int .i64 _) rfl) hS ?_
   refine WT_take (dd := some 36) 12 rfl (by kernel_rfl) (by kernel_rfl) (by kernel_rfl) rfl rfl rfl (fun _wq _hq => r_eql rfl rfl) hS ?_
   refine WT_take (dd := some 37) 13 rfl (by kernel_rfl) (by kernel_rfl) (by kernel_rfl) rfl rfl rfl (fun _wq _hq => r_move (v := .bool _) rfl) hS ?_
   refine WT_take (dd := some 38) 14 rfl (by kernel_rfl) (by kernel_rfl) (by kernel_rfl) rfl rfl rfl (fun _wq _hq => r_neqB rfl rfl Try.underlying4) hS ?_
   refine WT_take (dd := some 39) 15 rfl (by kernel_rfl) (by kernel_rfl) (by kernel_rfl) rfl rfl rfl (fun _wq _hq => r_pick_f rfl (v := .bool _) rfl) hS ?_
   refine WT_split (dd := some 40) 16 rfl (by kernel_rfl) (by kernel_rfl) (by kernel_rfl) rfl rfl rfl (fun wq hq => r_move (v := .bool _) rfl) hS (fun hs3_16 => ?_) (fun hs3_16 => ?_)
   ·
    try with_reducible replace hs3_16 := of_decide_eq_true hs3_16
    exfalso
    revert hs3_16
    cases rwOk m <;> decide
   ·
    try with_reducible replace hs3_16 := of_decide_eq_false hs3_16
    refine WT_take (dd := some 41) 17 rfl (by kernel_rfl) (by kernel_rfl) (by kernel_rfl) rfl rfl rfl (fun _wq _hq => r_move (v := .bool _) rfl) hS ?_
    refine WT_take (dd := some 42) 18 rfl (by kernel_rfl) (by kernel_rfl) (by kernel_rfl) rfl rfl rfl (fun _wq _hq => r_not rfl) hS ?_
    refine WT_split (dd := some 43) 19 rfl (by kernel_rfl) (by kernel_rfl) (by kernel_rfl) rfl rfl rfl (fun wq hq => r_move (v := .bool _) rfl) hS (fun hs3_19 => ?_) (fun hs3_19 => ?_)
    ·
     try with_reducible replace hs3_19 := of_decide_eq_true hs3_19
     refine WT_take (dd := some 44) 20 rfl (by kernel_rfl) (by kernel_rfl) (by kernel_rfl) rfl rfl rfl (fun _wq _hq => r_move (v := .int .i64 _) rfl) hS ?_
     refine WT_take (dd := some 45) 21 rfl (by kernel_rfl) (by kernel_rfl) (by kernel_rfl) rfl rfl rfl (fun _wq _hq => r_neq rfl rfl) hS ?_
     refine WT_take (dd := some 46) 22 rfl (by kernel_rfl) (by kernel_rfl) (by kernel_rfl) rfl rfl rfl (fun _wq _hq => r_pick_t rfl (v := .bool _) rfl) hS ?_
     refine WT_take (dd := some 47) 23 rfl (by kernel_rfl) (by kernel_rfl) (by kernel_rfl) rfl rfl rfl (fun _wq _hq => r_pick_f rfl (v := .bool _) rfl) hS ?_
     refine WT_split (dd := some 48) 24 rfl (by kernel_rfl) (by kernel_rfl) (by kernel_rfl) rfl rfl rfl (fun wq hq => r_move (v := .bool _) rfl) hS (fun hs3_24 => ?_) (fun hs3_24 => ?_)
     ·
      try with_reducible replace hs3_24 := of_decide_eq_true hs3_24
      exfalso
      revert hs3_24 hs3_19
      cases rwOk m <;> decide
     ·
      try with_reducible replace hs3_24 := of_decide_eq_false hs3_24
      refine WT_take (dd := some 49) 25 rfl (by kernel_rfl) (by kernel_rfl) (by kernel_rfl) rfl rfl rfl (fun _wq _hq => r_move (v := .bool _) rfl) hS ?_
      refine WT_split (dd := some 50) 26 rfl (by kernel_rfl) (by kernel_rfl) (by kernel_rfl) rfl rfl rfl (fun wq hq => r_move (v := .bool _) rfl) hS (fun hs3_26 => ?_) (fun hs3_26 => ?_)
      ·
       try with_reducible replace hs3_26 := of_decide_eq_true hs3_26
       refine WT_take (dd := some 51) 27 rfl (by kernel_rfl) (by kernel_rfl) (by kernel_rfl) rfl rfl rfl (fun _wq hq => r_loadW rfl tb_ag57 rfl (hq.at sv37_hm1_5)) hS ?_
       refine WT_take (dd := some 53) 29 rfl (by kernel_rfl) (by kernel_rfl) (by kernel_rfl) rfl rfl rfl (fun _wq _hq => r_move (v := .int .i64 _) rfl) hS ?_
       refine WT_one (dd := some 52) 28 (by kernel_rfl) rfl rfl rfl rfl (Yd.call (r_call1 tb_c51 (v0 := .agg #[_, _, _]) rfl) (C_tagged_Member (rowR m) _ hyl) (fun v3_28 W41 hE42 hP3_28 => ⟨.inl (hS.trans hE42), ?_⟩))
       have hsz43 := (Below.size hB)
       replace hB := below_ext hB hE42 (Nat.le_refl _)
       replace hm0_0 := hE42.at hm0_0
       replace hm1_5 := hE42.at hm1_5
       replace hm2_5 := hE42.at hm2_5
       replace hS := hS.trans hE42
       clear hE42
       clear hsz43
       obtain rfl := hP3_28
       refine WT_take (dd := some 54) 30 rfl (by kernel_rfl) (by kernel_rfl) (by kernel_rfl) rfl rfl rfl (fun _wq _hq => r_neq rfl rfl) hS ?_
       refine WT_take (dd := some 55) 31 rfl (by kernel_rfl) (by kernel_rfl) (by kernel_rfl) rfl rfl rfl (fun _wq _hq => r_pick_t rfl (v := .bool _) rfl) hS ?_
       refine WT_take (dd := some 56) 32 rfl (by kernel_rfl) (by kernel_rfl) (by kernel_rfl) rfl rfl rfl (fun _wq _hq => r_pick_f rfl (v := .bool _) rfl) hS ?_
       refine WT_done (by kernel_rfl) ?_
       try clear sv37_hB sv37_hm0_0 sv37_hm1_5 sv37_hm2_5
       refine hK31 _ _ ?_
       clear hK31 K30
       refine WC_cond (b := _) rfl (fun hc0 => ?_) (fun hc0 => ?_)
       ·
        try with_reducible replace hc0 := of_decide_eq_true hc0
        exact absurd (mem_row hs3_26) hc0
       ·
        try with_reducible replace hc0 := of_decide_eq_false hc0
        refine WC_skip ?_
        refine hK29 _ _ ?_
        clear hK29 K28
        refine WC_seq (fun K44 hK45 => ?_)
        refine WC_region ?_
        refine WL_val (dd := some 58) rfl rfl rfl (r_loadW rfl tb_ag57 rfl hm0_0) ?_
        refine WL_call (dd := some 59) rfl rfl rfl (r_call1 tb_c51 (v0 := .agg #[_, _, _]) rfl) (C_tagged_Member x _ hbx) (fun v5_1 W46 hE47 hP5_1 => ?_)
        have hsz48 := (Below.size hB)
        replace hB := below_ext hB hE47 (Nat.le_refl _)
        replace hm0_0 := hE47.at hm0_0
        replace hm1_5 := hE47.at hm1_5
        replace hm2_5 := hE47.at hm2_5
        clear hE47
        clear hsz48
        obtain rfl := hP5_1
        refine WL_call (dd := some 60) rfl rfl rfl (r_call1 tb_c49 (v0 := .int .i64 _) rfl) (C_tagged_Row (memRw x : Int) _) (fun v5_2 W49 hE50 hP5_2 => ?_)
        have hsz51 := (Below.size hB)
        replace hB := below_ext hB hE50 (Nat.le_refl _)
        replace hm0_0 := hE50.at hm0_0
        replace hm1_5 := hE50.at hm1_5
        replace hm2_5 := hE50.at hm2_5
        clear hE50
        obtain rfl := hP5_2
        clear hsz51
        refine WL_val (dd := some 57) rfl rfl rfl (r_move (v := .tuple #[.agg #[_, _, _], .int .i64 _]) rfl) ?_
        refine WL_val (dd := some 61) rfl rfl rfl (r_ext2_0 (h := rfl)) ?_
        refine WL_val (dd := some 62) rfl rfl rfl (r_ext2_1 (h := rfl)) ?_
        refine WL_step (dd := some 9) rfl rfl rfl (Y_alloc tb_z57 rfl (fun b5_6 W52 hb53 hE54 hm5_6 => ?_))
        have lo_b5_6 : w.heap.size ≤ b5_6 := hb53 ▸ (Below.size hB)
        have ne_b0_0_b5_6 : b0_0 ≠ b5_6 := Nat.ne_of_lt (hb53 ▸ hm0_0.lt)
        have ne_b1_5_b5_6 : b1_5 ≠ b5_6 := Nat.ne_of_lt (hb53 ▸ hm1_5.lt)
        have ne_b2_5_b5_6 : b2_5 ≠ b5_6 := Nat.ne_of_lt (hb53 ▸ hm2_5.lt)
        clear hb53
        replace hB := below_ext hB hE54 (Nat.le_refl _)
        replace hm0_0 := hE54.at hm0_0
        replace hm1_5 := hE54.at hm1_5
        replace hm2_5 := hE54.at hm2_5
        clear hE54
        refine WL_step (dd := none) rfl rfl rfl (Y_storeW rfl rfl tb_ag57 rfl hm5_6 rfl (by rfl) (fun W55 hG56 hm57 => ?_))
        replace hB := below_grown hB hG56 (Nat.le_refl _) (fun j hj => by cases hj; exact lo_b5_6)
        replace hm0_0 := At.grownNe hm0_0 ne_b0_0_b5_6 hG56
        replace hm1_5 := At.grownNe hm1_5 ne_b1_5_b5_6 hG56
        replace hm2_5 := At.grownNe hm2_5 ne_b2_5_b5_6 hG56
        clear hG56 hm5_6
        have hm5_6 := hm57
        clear hm57
        refine WL_val (dd := some 10) rfl rfl rfl (r_assign (v := .int .i64 _) rfl) ?_
        refine WL_nil ?_
        refine hK45 _ _ ?_
        clear hK45 K44
        refine WC_seq (fun K58 hK59 => ?_)
        refine WC_seq (fun K60 hK61 => ?_)
        refine WC_region ?_
        refine WL_val (dd := some 63) rfl rfl rfl (r_fieldAddr (b := _) (o := _) rfl tb_fo57_1) ?_
        refine WL_val (dd := some 64) rfl rfl rfl (r_load1 (v := .int .u8 _) rfl tb_sc5 (At.cell hm0_0 rfl)) ?_
        refine WL_val (dd := some 65) rfl rfl rfl (r_remN (n := 16) rfl rfl rfl (by omega)) ?_
        refine WL_val (dd := some 66) rfl rfl rfl (r_eql rfl rfl) ?_
        refine WL_nil ?_
        refine hK61 _ _ ?_
        clear hK61 K60
        refine WC_cond (b := _) rfl (fun hc1 => ?_) (fun hc1 => ?_)
        ·
         try with_reducible replace hc1 := of_decide_eq_true hc1
         refine WC_seq (fun K62 hK63 => ?_)
         have ho : x.o % 16 = 0 := by omega
         have hno := mem_no ho
         have hrn := row_none hno
         refine WC_region ?_
         refine WL_val (dd := some 67) rfl rfl rfl (r_loadW rfl tb_ag57 rfl hm5_6) ?_
         refine WL_val (dd := some 68) rfl rfl rfl (tb_build57_ ) ?_
         refine WL_val (dd := some 69) rfl rfl rfl (tb_eq57 rfl rfl) ?_
         refine WL_split (dd := some 70) rfl rfl rfl (r_move (v := .bool _) rfl) (fun hs7_3 => ?_) (fun hs7_3 => ?_)
         ·
          try with_reducible replace hs7_3 := of_decide_eq_true hs7_3
          refine WL_val (dd := some 71) rfl rfl rfl (r_move (v := .int .i64 _) rfl) ?_
          refine WL_val (dd := some 72) rfl rfl rfl (r_eql rfl rfl) ?_
          refine WL_val (dd := some 73) rfl rfl rfl (r_pick_t rfl (v := .bool _) rfl) ?_
          refine WL_split (dd := some 74) rfl rfl rfl (r_move (v := .bool _) rfl) (fun hs7_7 => ?_) (fun hs7_7 => ?_)
          ·
           try with_reducible replace hs7_7 := of_decide_eq_true hs7_7
           refine WL_call (dd := some 75) rfl rfl rfl (r_call0 tb_c53) (C_drawknifelaw11_knows _) (fun v7_8 W64 hE65 hP7_8 => ?_)
           have hsz66 := (Below.size hB)
           replace hB := below_ext hB hE65 (Nat.le_refl _)
           replace hm0_0 := hE65.at hm0_0
           replace hm1_5 := hE65.at hm1_5
           replace hm2_5 := hE65.at hm2_5
           replace hm5_6 := hE65.at hm5_6
           clear hE65
           obtain rfl := hP7_8
           clear hsz66
           refine WL_val (dd := some 76) rfl rfl rfl (r_pick_t rfl (v := .bool true) rfl) ?_
           refine WL_val (dd := some 4) rfl rfl rfl (r_assign (v := .bool true) rfl) ?_
           refine WL_nil ?_
           refine hK63 _ _ ?_
           clear hK63 K62
           refine WC_ret ?_
           repeat (first | refine thenQ_ret ?_ | refine blockQ_ret ?_)
           try clear hK59 K58
           refine ret_t (v := .bool true) rfl ?_
           refine ⟨hB, ?_⟩
           rfl
          ·
           try with_reducible replace hs7_7 := of_decide_eq_false hs7_7
           exact absurd (by rw [if_neg (by rw [hno]; decide)]) hs7_7
         ·
          try with_reducible replace hs7_3 := of_decide_eq_false hs7_3
          exact absurd (by rw [hrn]; exact ⟨rfl, rfl, rfl⟩) hs7_3
        ·
         try with_reducible replace hc1 := of_decide_eq_false hc1
         refine WC_skip ?_
         refine hK59 _ _ ?_
         clear hK59 K58
         refine WC_seq (fun K67 hK68 => ?_)
         have ho : ¬ x.o % 16 = 0 := fun h => hc1 (by rw [h]; rfl)
         have hyes := mem_ok ho
         have hrm := row_mem (x := x) hbx.1 ho
         refine WC_region ?_
         refine WL_val (dd := some 11) rfl rfl rfl (r_assign (v := .int .u8 0) rfl) ?_
         refine WL_nil ?_
         refine hK68 _ _ ?_
         clear hK68 K67
         refine WC_seq (fun K69 hK70 => ?_)
         refine WC_region ?_
         refine WL_val (dd := some 12) rfl rfl rfl (r_assign (v := .int .u8 1) rfl) ?_
         refine WL_nil ?_
         refine hK70 _ _ ?_
         clear hK70 K69
         refine WC_seq (fun K71 hK72 => ?_)
         refine WC_seq (fun K73 hK74 => ?_)
         refine WC_region ?_
         refine WL_val (dd := some 13) rfl rfl rfl (r_assign (v := .int .i64 0) rfl) ?_
         refine WL_nil ?_
         refine hK74 _ _ ?_
         clear hK74 K73
         refine WC_block ?_
         refine WC_loop (σ := (Nat)) [11, 12, 13, 77, 78, 79, 80, 81, 82, 83, 84, 85, 86, 87, 88, 89, 90, 91, 92, 93, 94, 95, 96, 97] (fun i => [(13, .int .i64 (i : Int)), (12, .int .u8 ((2 ^ i % 256 : Nat) : Int)), (11, .int .u8 ((vmT x.c.m x.c.v i : Nat) : Int))]) (fun i W => (Below w.heap.size w W) ∧ (At W b0_0 _ 57) ∧ (At W b1_5 _ 57) ∧ (At W b2_5 _ 57) ∧ (At W b5_6 _ 57) ∧ (i ≤ 8) ∧ (True)) (fun i => 8 - i) (0) ⟨rfl, rfl, congrArg (fun z : Nat => Value.int .u8 (z : Int)) (by unfold vmT; rw [Nat.pow_zero, Nat.mod_one]), trivial⟩ ⟨hB, hm0_0, hm1_5, hm2_5, hm5_6, (Nat.zero_le _), trivial⟩ ?_
         clear hB hm0_0 hm1_5 hm2_5 hm5_6
         rintro i g76 W75 ⟨hB, hm0_0, hm1_5, hm2_5, hm5_6, hi, _⟩ J77 hJ78
         refine WC_seq (fun K79 hK80 => ?_)
         refine WC_seq (fun K81 hK82 => ?_)
         refine WC_region ?_
         refine WL_val (dd := some 77) rfl rfl rfl (r_move (v := .int .i64 _) rfl) ?_
         refine WL_val (dd := some 78) rfl rfl rfl (r_lss rfl rfl) ?_
         refine WL_nil ?_
         refine hK82 _ _ ?_
         clear hK82 K81
         refine WC_cond (b := _) rfl (fun hc2 => ?_) (fun hc2 => ?_)
         ·
          try with_reducible replace hc2 := of_decide_eq_true hc2
          refine WC_skip ?_
          refine hK80 _ _ ?_
          clear hK80 K79
          refine WC_seq (fun K83 hK84 => ?_)
          refine WC_block ?_
          refine WC_seq (fun K85 hK86 => ?_)
          refine WC_seq (fun K87 hK88 => ?_)
          have h7 := pow7 (show i < 8 by omega)
          rw [Nat.mod_eq_of_lt (show 2 ^ i < 256 by omega)]
          have hvl : vmT x.c.m x.c.v i < 2 ^ i := Nat.mod_lt _ (Nat.two_pow_pos i)
          refine WC_region ?_
          refine WL_val (dd := some 81) rfl rfl rfl (r_fieldAddr (b := _) (o := _) rfl tb_fo57_0) ?_
          refine WL_val (dd := some 82) rfl rfl rfl (r_fieldAddr (b := _) (o := _) rfl tb_fo55_0) ?_
          refine WL_val (dd := some 83) rfl rfl rfl (r_load1 (v := .int .u8 _) rfl tb_sc5 (At.cell hm0_0 rfl)) ?_
          refine WL_val (dd := some 84) rfl rfl rfl (r_move (v := .int .i64 _) rfl) ?_
          refine WL_call (dd := some 85) rfl rfl rfl (r_call2 tb_c54 (v0 := .int .u8 _) rfl (v1 := .int .i64 _) rfl) (C_bit11 _ _ _ (by first | assumption | omega) (by first | assumption | omega)) (fun v13_4 W89 hE90 hP13_4 => ?_)
          have hsz91 := (Below.size hB)
          replace hB := below_ext hB hE90 (Nat.le_refl _)
          replace hm0_0 := hE90.at hm0_0
          replace hm1_5 := hE90.at hm1_5
          replace hm2_5 := hE90.at hm2_5
          replace hm5_6 := hE90.at hm5_6
          clear hE90
          clear hsz91
          obtain rfl := hP13_4
          refine WL_split (dd := some 86) rfl rfl rfl (r_move (v := .bool _) rfl) (fun hs13_5 => ?_) (fun hs13_5 => ?_)
          ·
           try with_reducible replace hs13_5 := of_decide_eq_true hs13_5
           refine WL_val (dd := some 87) rfl rfl rfl (r_fieldAddr (b := _) (o := _) rfl tb_fo57_0) ?_
           refine WL_val (dd := some 88) rfl rfl rfl (r_fieldAddr (b := _) (o := _) rfl tb_fo55_1) ?_
           refine WL_val (dd := some 89) rfl rfl rfl (r_load1 (v := .int .u8 _) rfl tb_sc5 (At.cell hm0_0 rfl)) ?_
           refine WL_val (dd := some 90) rfl rfl rfl (r_move (v := .int .i64 _) rfl) ?_
           refine WL_call (dd := some 91) rfl rfl rfl (r_call2 tb_c54 (v0 := .int .u8 _) rfl (v1 := .int .i64 _) rfl) (C_bit11 _ _ _ (by first | assumption | omega) (by first | assumption | omega)) (fun v13_10 W92 hE93 hP13_10 => ?_)
           have hsz94 := (Below.size hB)
           replace hB := below_ext hB hE93 (Nat.le_refl _)
           replace hm0_0 := hE93.at hm0_0
           replace hm1_5 := hE93.at hm1_5
           replace hm2_5 := hE93.at hm2_5
           replace hm5_6 := hE93.at hm5_6
           clear hE93
           clear hsz94
           obtain rfl := hP13_10
           refine WL_val (dd := some 92) rfl rfl rfl (r_pick_t rfl (v := .bool _) rfl) ?_
           refine WL_nil ?_
           refine hK88 _ _ ?_
           clear hK88 K87
           refine WC_cond (b := _) rfl (fun hc3 => ?_) (fun hc3 => ?_)
           ·
            try with_reducible replace hc3 := of_decide_eq_true hc3
            refine WC_region ?_
            refine WL_val (dd := some 93) rfl rfl rfl (r_move (v := .int .u8 _) rfl) ?_
            refine WL_val (dd := some 94) rfl rfl rfl (r_move (v := .int .u8 _) rfl) ?_
            refine WL_val (dd := some 95) rfl rfl rfl (r_addN rfl (n := (2 ^ i)) rfl rfl (by simp only [topN]; omega)) ?_
            refine WL_val (dd := some 11) rfl rfl rfl (r_assign (v := .int .u8 _) rfl) ?_
            refine WL_nil ?_
            refine hK86 _ _ ?_
            clear hK86 K85
            refine WC_region ?_
            refine WL_val (dd := some 96) rfl rfl rfl (r_move (v := .int .u8 _) rfl) ?_
            refine WL_val (dd := some 97) rfl rfl rfl (r_mulW8 (n := 2) rfl rfl rfl) ?_
            refine WL_val (dd := some 12) rfl rfl rfl (r_assign (v := .int .u8 _) rfl) ?_
            refine WL_nil ?_
            refine hK84 _ _ ?_
            clear hK84 K83
            refine WC_region ?_
            refine WL_val (dd := some 79) rfl rfl rfl (r_move (v := .int .i64 _) rfl) ?_
            refine WL_val (dd := some 80) rfl rfl rfl (r_addI rfl rfl (by omega) (by omega)) ?_
            refine WL_val (dd := some 13) rfl rfl rfl (r_assign (v := .int .i64 _) rfl) ?_
            refine WL_nil ?_
            refine hJ78 _ _ (i + 1) ?_ ?_ ?_ ?_
            · repeat (first | exact agree.mask _ _ _ | refine agree.updo ?_ rfl _ | refine agree.updL ?_ _ rfl | refine agree.maskS rfl ?_)
            · exact ⟨rfl, rfl, (congrArg (fun z : Nat => Value.int .u8 (z : Int)) (vm_t hs13_5 hc3)), trivial⟩
            · exact ⟨hB, hm0_0, hm1_5, hm2_5, hm5_6, (by omega), trivial⟩
            · first | omega | (dsimp only; omega)
           ·
            try with_reducible replace hc3 := of_decide_eq_false hc3
            refine WC_skip ?_
            refine hK86 _ _ ?_
            clear hK86 K85
            refine WC_region ?_
            refine WL_val (dd := some 96) rfl rfl rfl (r_move (v := .int .u8 _) rfl) ?_
            refine WL_val (dd := some 97) rfl rfl rfl (r_mulW8 (n := 2) rfl rfl rfl) ?_
            refine WL_val (dd := some 12) rfl rfl rfl (r_assign (v := .int .u8 _) rfl) ?_
            refine WL_nil ?_
            refine hK84 _ _ ?_
            clear hK84 K83
            refine WC_region ?_
            refine WL_val (dd := some 79) rfl rfl rfl (r_move (v := .int .i64 _) rfl) ?_
            refine WL_val (dd := some 80) rfl rfl rfl (r_addI rfl rfl (by omega) (by omega)) ?_
            refine WL_val (dd := some 13) rfl rfl rfl (r_assign (v := .int .i64 _) rfl) ?_
            refine WL_nil ?_
            refine hJ78 _ _ (i + 1) ?_ ?_ ?_ ?_
            · repeat (first | exact agree.mask _ _ _ | refine agree.updo ?_ rfl _ | refine agree.updL ?_ _ rfl | refine agree.maskS rfl ?_)
            · exact ⟨rfl, rfl, (congrArg (fun z : Nat => Value.int .u8 (z : Int)) (vm_f (.inr hc3))), trivial⟩
            · exact ⟨hB, hm0_0, hm1_5, hm2_5, hm5_6, (by omega), trivial⟩
            · first | omega | (dsimp only; omega)
          ·
           try with_reducible replace hs13_5 := of_decide_eq_false hs13_5
           refine WL_skip (dd := some 87) rfl rfl rfl ?_
           refine WL_skip (dd := some 88) rfl rfl rfl ?_
           refine WL_skip (dd := some 89) rfl rfl rfl ?_
           refine WL_skip (dd := some 90) rfl rfl rfl ?_
           refine WL_skip (dd := some 91) rfl rfl rfl ?_
           refine WL_val (dd := some 92) rfl rfl rfl (r_pick_f rfl (v := .bool false) rfl) ?_
           refine WL_nil ?_
           refine hK88 _ _ ?_
           clear hK88 K87
           refine WC_cond_false rfl ?_
           refine WC_skip ?_
           refine hK86 _ _ ?_
           clear hK86 K85
           refine WC_region ?_
           refine WL_val (dd := some 96) rfl rfl rfl (r_move (v := .int .u8 _) rfl) ?_
           refine WL_val (dd := some 97) rfl rfl rfl (r_mulW8 (n := 2) rfl rfl rfl) ?_
           refine WL_val (dd := some 12) rfl rfl rfl (r_assign (v := .int .u8 _) rfl) ?_
           refine WL_nil ?_
           refine hK84 _ _ ?_
           clear hK84 K83
           refine WC_region ?_
           refine WL_val (dd := some 79) rfl rfl rfl (r_move (v := .int .i64 _) rfl) ?_
           refine WL_val (dd := some 80) rfl rfl rfl (r_addI rfl rfl (by omega) (by omega)) ?_
           refine WL_val (dd := some 13) rfl rfl rfl (r_assign (v := .int .i64 _) rfl) ?_
           refine WL_nil ?_
           refine hJ78 _ _ (i + 1) ?_ ?_ ?_ ?_
           · repeat (first | exact agree.mask _ _ _ | refine agree.updo ?_ rfl _ | refine agree.updL ?_ _ rfl | refine agree.maskS rfl ?_)
           · exact ⟨rfl, rfl, (congrArg (fun z : Nat => Value.int .u8 (z : Int)) (vm_f (.inl hs13_5))), trivial⟩
           · exact ⟨hB, hm0_0, hm1_5, hm2_5, hm5_6, (by omega), trivial⟩
           · first | omega | (dsimp only; omega)
         ·
          try with_reducible replace hc2 := of_decide_eq_false hc2
          refine WC_exit ?_
          refine hK72 _ _ ?_
          clear hK80 K79
          clear hJ78 J77
          clear hK72 K71
          refine WC_seq (fun K95 hK96 => ?_)
          obtain rfl : i = 8 := by omega
          refine WC_region ?_
          refine WL_val (dd := some 98) rfl rfl rfl (r_loadW rfl tb_ag57 rfl hm5_6) ?_
          refine WL_val (dd := some 99) rfl rfl rfl (r_fieldAddr (b := _) (o := _) rfl tb_fo57_0) ?_
          refine WL_val (dd := some 100) rfl rfl rfl (r_fieldAddr (b := _) (o := _) rfl tb_fo55_0) ?_
          refine WL_val (dd := some 101) rfl rfl rfl (r_load1 (v := .int .u8 _) rfl tb_sc5 (At.cell hm0_0 rfl)) ?_
          refine WL_val (dd := some 102) rfl rfl rfl (r_move (v := .int .u8 _) rfl) ?_
          refine WL_val (dd := some 103) rfl rfl rfl (tb_build55_0_1 (h0 := rfl) (k0 := rfl) (h1 := rfl) (k1 := rfl) (c0_0 := .int .u8 _) (c1_0 := .int .u8 _)) ?_
          refine WL_val (dd := some 104) rfl rfl rfl (r_fieldAddr (b := _) (o := _) rfl tb_fo57_1) ?_
          refine WL_val (dd := some 105) rfl rfl rfl (r_load1 (v := .int .u8 _) rfl tb_sc5 (At.cell hm0_0 rfl)) ?_
          refine WL_val (dd := some 106) rfl rfl rfl (r_remN (n := 16) rfl rfl rfl (by omega)) ?_
          refine WL_val (dd := some 107) rfl rfl rfl (tb_build57_0_1 (h0 := rfl) (h1 := rfl) (k1 := rfl) (c1_0 := .int .u8 _)) ?_
          refine WL_val (dd := some 108) rfl rfl rfl (tb_eq57 rfl rfl) ?_
          refine WL_split (dd := some 109) rfl rfl rfl (r_move (v := .bool _) rfl) (fun hs16_11 => ?_) (fun hs16_11 => ?_)
          ·
           try with_reducible replace hs16_11 := of_decide_eq_true hs16_11
           refine WL_val (dd := some 110) rfl rfl rfl (r_move (v := .int .i64 _) rfl) ?_
           refine WL_val (dd := some 111) rfl rfl rfl (r_eql rfl rfl) ?_
           refine WL_val (dd := some 112) rfl rfl rfl (r_pick_t rfl (v := .bool _) rfl) ?_
           refine WL_split (dd := some 113) rfl rfl rfl (r_move (v := .bool _) rfl) (fun hs16_15 => ?_) (fun hs16_15 => ?_)
           ·
            try with_reducible replace hs16_15 := of_decide_eq_true hs16_15
            refine WL_call (dd := some 114) rfl rfl rfl (r_call0 tb_c53) (C_drawknifelaw11_knows _) (fun v16_16 W97 hE98 hP16_16 => ?_)
            have hsz99 := (Below.size hB)
            replace hB := below_ext hB hE98 (Nat.le_refl _)
            replace hm0_0 := hE98.at hm0_0
            replace hm1_5 := hE98.at hm1_5
            replace hm2_5 := hE98.at hm2_5
            replace hm5_6 := hE98.at hm5_6
            clear hE98
            obtain rfl := hP16_16
            clear hsz99
            refine WL_val (dd := some 115) rfl rfl rfl (r_pick_t rfl (v := .bool true) rfl) ?_
            refine WL_val (dd := some 4) rfl rfl rfl (r_assign (v := .bool true) rfl) ?_
            refine WL_nil ?_
            refine hK96 _ _ ?_
            clear hK96 K95
            refine WC_ret ?_
            repeat (first | refine thenQ_ret ?_ | refine blockQ_ret ?_)
            refine ret_t (v := .bool true) rfl ?_
            refine ⟨hB, ?_⟩
            rfl
           ·
            try with_reducible replace hs16_15 := of_decide_eq_false hs16_15
            exact absurd (by rw [if_pos hyes]) hs16_15
          ·
           try with_reducible replace hs16_11 := of_decide_eq_false hs16_11
           exact absurd (by rw [hrm]; exact ⟨rfl, by show ((x.c.v &&& x.c.m : Nat) : Int) = _; rw [← vm_e hbx.1], rfl⟩) hs16_11
      ·
       try with_reducible replace hs3_26 := of_decide_eq_false hs3_26
       refine WT_pass (dd := some 51) 27 rfl (by kernel_rfl) (by kernel_rfl) (by kernel_rfl) rfl rfl rfl hS ?_
       refine WT_pass (dd := some 52) 28 rfl (by kernel_rfl) (by kernel_rfl) (by kernel_rfl) rfl rfl rfl hS ?_
       refine WT_pass (dd := some 53) 29 rfl (by kernel_rfl) (by kernel_rfl) (by kernel_rfl) rfl rfl rfl hS ?_
       refine WT_pass (dd := some 54) 30 rfl (by kernel_rfl) (by kernel_rfl) (by kernel_rfl) rfl rfl rfl hS ?_
       refine WT_take (dd := some 55) 31 rfl (by kernel_rfl) (by kernel_rfl) (by kernel_rfl) rfl rfl rfl (fun _wq _hq => r_pick_f rfl (v := .bool false) rfl) hS ?_
       refine WT_take (dd := some 56) 32 rfl (by kernel_rfl) (by kernel_rfl) (by kernel_rfl) rfl rfl rfl (fun _wq _hq => r_pick_f rfl (v := .bool false) rfl) hS ?_
       refine WT_done (by kernel_rfl) ?_
       try clear sv37_hB sv37_hm0_0 sv37_hm1_5 sv37_hm2_5
       refine hK31 _ _ ?_
       clear hK31 K30
       refine WC_cond_false rfl ?_
       refine WC_skip ?_
       refine hK29 _ _ ?_
       clear hK29 K28
       refine WC_seq (fun K100 hK101 => ?_)
       refine WC_region ?_
       refine WL_val (dd := some 58) rfl rfl rfl (r_loadW rfl tb_ag57 rfl hm0_0) ?_
       refine WL_call (dd := some 59) rfl rfl rfl (r_call1 tb_c51 (v0 := .agg #[_, _, _]) rfl) (C_tagged_Member x _ hbx) (fun v5_1 W102 hE103 hP5_1 => ?_)
       have hsz104 := (Below.size hB)
       replace hB := below_ext hB hE103 (Nat.le_refl _)
       replace hm0_0 := hE103.at hm0_0
       replace hm1_5 := hE103.at hm1_5
       replace hm2_5 := hE103.at hm2_5
       clear hE103
       clear hsz104
       obtain rfl := hP5_1
       refine WL_call (dd := some 60) rfl rfl rfl (r_call1 tb_c49 (v0 := .int .i64 _) rfl) (C_tagged_Row (memRw x : Int) _) (fun v5_2 W105 hE106 hP5_2 => ?_)
       have hsz107 := (Below.size hB)
       replace hB := below_ext hB hE106 (Nat.le_refl _)
       replace hm0_0 := hE106.at hm0_0
       replace hm1_5 := hE106.at hm1_5
       replace hm2_5 := hE106.at hm2_5
       clear hE106
       obtain rfl := hP5_2
       clear hsz107
       refine WL_val (dd := some 57) rfl rfl rfl (r_move (v := .tuple #[.agg #[_, _, _], .int .i64 _]) rfl) ?_
       refine WL_val (dd := some 61) rfl rfl rfl (r_ext2_0 (h := rfl)) ?_
       refine WL_val (dd := some 62) rfl rfl rfl (r_ext2_1 (h := rfl)) ?_
       refine WL_step (dd := some 9) rfl rfl rfl (Y_alloc tb_z57 rfl (fun b5_6 W108 hb109 hE110 hm5_6 => ?_))
       have lo_b5_6 : w.heap.size ≤ b5_6 := hb109 ▸ (Below.size hB)
       have ne_b0_0_b5_6 : b0_0 ≠ b5_6 := Nat.ne_of_lt (hb109 ▸ hm0_0.lt)
       have ne_b1_5_b5_6 : b1_5 ≠ b5_6 := Nat.ne_of_lt (hb109 ▸ hm1_5.lt)
       have ne_b2_5_b5_6 : b2_5 ≠ b5_6 := Nat.ne_of_lt (hb109 ▸ hm2_5.lt)
       clear hb109
       replace hB := below_ext hB hE110 (Nat.le_refl _)
       replace hm0_0 := hE110.at hm0_0
       replace hm1_5 := hE110.at hm1_5
       replace hm2_5 := hE110.at hm2_5
       clear hE110
       refine WL_step (dd := none) rfl rfl rfl (Y_storeW rfl rfl tb_ag57 rfl hm5_6 rfl (by rfl) (fun W111 hG112 hm113 => ?_))
       replace hB := below_grown hB hG112 (Nat.le_refl _) (fun j hj => by cases hj; exact lo_b5_6)
       replace hm0_0 := At.grownNe hm0_0 ne_b0_0_b5_6 hG112
       replace hm1_5 := At.grownNe hm1_5 ne_b1_5_b5_6 hG112
       replace hm2_5 := At.grownNe hm2_5 ne_b2_5_b5_6 hG112
       clear hG112 hm5_6
       have hm5_6 := hm113
       clear hm113
       refine WL_val (dd := some 10) rfl rfl rfl (r_assign (v := .int .i64 _) rfl) ?_
       refine WL_nil ?_
       refine hK101 _ _ ?_
       clear hK101 K100
       refine WC_seq (fun K114 hK115 => ?_)
       refine WC_seq (fun K116 hK117 => ?_)
       refine WC_region ?_
       refine WL_val (dd := some 63) rfl rfl rfl (r_fieldAddr (b := _) (o := _) rfl tb_fo57_1) ?_
       refine WL_val (dd := some 64) rfl rfl rfl (r_load1 (v := .int .u8 _) rfl tb_sc5 (At.cell hm0_0 rfl)) ?_
       refine WL_val (dd := some 65) rfl rfl rfl (r_remN (n := 16) rfl rfl rfl (by omega)) ?_
       refine WL_val (dd := some 66) rfl rfl rfl (r_eql rfl rfl) ?_
       refine WL_nil ?_
       refine hK117 _ _ ?_
       clear hK117 K116
       refine WC_cond (b := _) rfl (fun hc1 => ?_) (fun hc1 => ?_)
       ·
        try with_reducible replace hc1 := of_decide_eq_true hc1
        refine WC_seq (fun K118 hK119 => ?_)
        have ho : x.o % 16 = 0 := by omega
        have hno := mem_no ho
        have hrn := row_none hno
        refine WC_region ?_
        refine WL_val (dd := some 67) rfl rfl rfl (r_loadW rfl tb_ag57 rfl hm5_6) ?_
        refine WL_val (dd := some 68) rfl rfl rfl (tb_build57_ ) ?_
        refine WL_val (dd := some 69) rfl rfl rfl (tb_eq57 rfl rfl) ?_
        refine WL_split (dd := some 70) rfl rfl rfl (r_move (v := .bool _) rfl) (fun hs7_3 => ?_) (fun hs7_3 => ?_)
        ·
         try with_reducible replace hs7_3 := of_decide_eq_true hs7_3
         refine WL_val (dd := some 71) rfl rfl rfl (r_move (v := .int .i64 _) rfl) ?_
         refine WL_val (dd := some 72) rfl rfl rfl (r_eql rfl rfl) ?_
         refine WL_val (dd := some 73) rfl rfl rfl (r_pick_t rfl (v := .bool _) rfl) ?_
         refine WL_split (dd := some 74) rfl rfl rfl (r_move (v := .bool _) rfl) (fun hs7_7 => ?_) (fun hs7_7 => ?_)
         ·
          try with_reducible replace hs7_7 := of_decide_eq_true hs7_7
          refine WL_call (dd := some 75) rfl rfl rfl (r_call0 tb_c53) (C_drawknifelaw11_knows _) (fun v7_8 W120 hE121 hP7_8 => ?_)
          have hsz122 := (Below.size hB)
          replace hB := below_ext hB hE121 (Nat.le_refl _)
          replace hm0_0 := hE121.at hm0_0
          replace hm1_5 := hE121.at hm1_5
          replace hm2_5 := hE121.at hm2_5
          replace hm5_6 := hE121.at hm5_6
          clear hE121
          obtain rfl := hP7_8
          clear hsz122
          refine WL_val (dd := some 76) rfl rfl rfl (r_pick_t rfl (v := .bool true) rfl) ?_
          refine WL_val (dd := some 4) rfl rfl rfl (r_assign (v := .bool true) rfl) ?_
          refine WL_nil ?_
          refine hK119 _ _ ?_
          clear hK119 K118
          refine WC_ret ?_
          repeat (first | refine thenQ_ret ?_ | refine blockQ_ret ?_)
          try clear hK115 K114
          refine ret_t (v := .bool true) rfl ?_
          refine ⟨hB, ?_⟩
          rfl
         ·
          try with_reducible replace hs7_7 := of_decide_eq_false hs7_7
          exact absurd (by rw [if_neg (by rw [hno]; decide)]) hs7_7
        ·
         try with_reducible replace hs7_3 := of_decide_eq_false hs7_3
         exact absurd (by rw [hrn]; exact ⟨rfl, rfl, rfl⟩) hs7_3
       ·
        try with_reducible replace hc1 := of_decide_eq_false hc1
        refine WC_skip ?_
        refine hK115 _ _ ?_
        clear hK115 K114
        refine WC_seq (fun K123 hK124 => ?_)
        have ho : ¬ x.o % 16 = 0 := fun h => hc1 (by rw [h]; rfl)
        have hyes := mem_ok ho
        have hrm := row_mem (x := x) hbx.1 ho
        refine WC_region ?_
        refine WL_val (dd := some 11) rfl rfl rfl (r_assign (v := .int .u8 0) rfl) ?_
        refine WL_nil ?_
        refine hK124 _ _ ?_
        clear hK124 K123
        refine WC_seq (fun K125 hK126 => ?_)
        refine WC_region ?_
        refine WL_val (dd := some 12) rfl rfl rfl (r_assign (v := .int .u8 1) rfl) ?_
        refine WL_nil ?_
        refine hK126 _ _ ?_
        clear hK126 K125
        refine WC_seq (fun K127 hK128 => ?_)
        refine WC_seq (fun K129 hK130 => ?_)
        refine WC_region ?_
        refine WL_val (dd := some 13) rfl rfl rfl (r_assign (v := .int .i64 0) rfl) ?_
        refine WL_nil ?_
        refine hK130 _ _ ?_
        clear hK130 K129
        refine WC_block ?_
        refine WC_loop (σ := (Nat)) [11, 12, 13, 77, 78, 79, 80, 81, 82, 83, 84, 85, 86, 87, 88, 89, 90, 91, 92, 93, 94, 95, 96, 97] (fun i => [(13, .int .i64 (i : Int)), (12, .int .u8 ((2 ^ i % 256 : Nat) : Int)), (11, .int .u8 ((vmT x.c.m x.c.v i : Nat) : Int))]) (fun i W => (Below w.heap.size w W) ∧ (At W b0_0 _ 57) ∧ (At W b1_5 _ 57) ∧ (At W b2_5 _ 57) ∧ (At W b5_6 _ 57) ∧ (i ≤ 8) ∧ (True)) (fun i => 8 - i) (0) ⟨rfl, rfl, congrArg (fun z : Nat => Value.int .u8 (z : Int)) (by unfold vmT; rw [Nat.pow_zero, Nat.mod_one]), trivial⟩ ⟨hB, hm0_0, hm1_5, hm2_5, hm5_6, (Nat.zero_le _), trivial⟩ ?_
        clear hB hm0_0 hm1_5 hm2_5 hm5_6
        rintro i g132 W131 ⟨hB, hm0_0, hm1_5, hm2_5, hm5_6, hi, _⟩ J133 hJ134
        refine WC_seq (fun K135 hK136 => ?_)
        refine WC_seq (fun K137 hK138 => ?_)
        refine WC_region ?_
        refine WL_val (dd := some 77) rfl rfl rfl (r_move (v := .int .i64 _) rfl) ?_
        refine WL_val (dd := some 78) rfl rfl rfl (r_lss rfl rfl) ?_
        refine WL_nil ?_
        refine hK138 _ _ ?_
        clear hK138 K137
        refine WC_cond (b := _) rfl (fun hc2 => ?_) (fun hc2 => ?_)
        ·
         try with_reducible replace hc2 := of_decide_eq_true hc2
         refine WC_skip ?_
         refine hK136 _ _ ?_
         clear hK136 K135
         refine WC_seq (fun K139 hK140 => ?_)
         refine WC_block ?_
         refine WC_seq (fun K141 hK142 => ?_)
         refine WC_seq (fun K143 hK144 => ?_)
         have h7 := pow7 (show i < 8 by omega)
         rw [Nat.mod_eq_of_lt (show 2 ^ i < 256 by omega)]
         have hvl : vmT x.c.m x.c.v i < 2 ^ i := Nat.mod_lt _ (Nat.two_pow_pos i)
         refine WC_region ?_
         refine WL_val (dd := some 81) rfl rfl rfl (r_fieldAddr (b := _) (o := _) rfl tb_fo57_0) ?_
         refine WL_val (dd := some 82) rfl rfl rfl (r_fieldAddr (b := _) (o := _) rfl tb_fo55_0) ?_
         refine WL_val (dd := some 83) rfl rfl rfl (r_load1 (v := .int .u8 _) rfl tb_sc5 (At.cell hm0_0 rfl)) ?_
         refine WL_val (dd := some 84) rfl rfl rfl (r_move (v := .int .i64 _) rfl) ?_
         refine WL_call (dd := some 85) rfl rfl rfl (r_call2 tb_c54 (v0 := .int .u8 _) rfl (v1 := .int .i64 _) rfl) (C_bit11 _ _ _ (by first | assumption | omega) (by first | assumption | omega)) (fun v13_4 W145 hE146 hP13_4 => ?_)
         have hsz147 := (Below.size hB)
         replace hB := below_ext hB hE146 (Nat.le_refl _)
         replace hm0_0 := hE146.at hm0_0
         replace hm1_5 := hE146.at hm1_5
         replace hm2_5 := hE146.at hm2_5
         replace hm5_6 := hE146.at hm5_6
         clear hE146
         clear hsz147
         obtain rfl := hP13_4
         refine WL_split (dd := some 86) rfl rfl rfl (r_move (v := .bool _) rfl) (fun hs13_5 => ?_) (fun hs13_5 => ?_)
         ·
          try with_reducible replace hs13_5 := of_decide_eq_true hs13_5
          refine WL_val (dd := some 87) rfl rfl rfl (r_fieldAddr (b := _) (o := _) rfl tb_fo57_0) ?_
          refine WL_val (dd := some 88) rfl rfl rfl (r_fieldAddr (b := _) (o := _) rfl tb_fo55_1) ?_
          refine WL_val (dd := some 89) rfl rfl rfl (r_load1 (v := .int .u8 _) rfl tb_sc5 (At.cell hm0_0 rfl)) ?_
          refine WL_val (dd := some 90) rfl rfl rfl (r_move (v := .int .i64 _) rfl) ?_
          refine WL_call (dd := some 91) rfl rfl rfl (r_call2 tb_c54 (v0 := .int .u8 _) rfl (v1 := .int .i64 _) rfl) (C_bit11 _ _ _ (by first | assumption | omega) (by first | assumption | omega)) (fun v13_10 W148 hE149 hP13_10 => ?_)
          have hsz150 := (Below.size hB)
          replace hB := below_ext hB hE149 (Nat.le_refl _)
          replace hm0_0 := hE149.at hm0_0
          replace hm1_5 := hE149.at hm1_5
          replace hm2_5 := hE149.at hm2_5
          replace hm5_6 := hE149.at hm5_6
          clear hE149
          clear hsz150
          obtain rfl := hP13_10
          refine WL_val (dd := some 92) rfl rfl rfl (r_pick_t rfl (v := .bool _) rfl) ?_
          refine WL_nil ?_
          refine hK144 _ _ ?_
          clear hK144 K143
          refine WC_cond (b := _) rfl (fun hc3 => ?_) (fun hc3 => ?_)
          ·
           try with_reducible replace hc3 := of_decide_eq_true hc3
           refine WC_region ?_
           refine WL_val (dd := some 93) rfl rfl rfl (r_move (v := .int .u8 _) rfl) ?_
           refine WL_val (dd := some 94) rfl rfl rfl (r_move (v := .int .u8 _) rfl) ?_
           refine WL_val (dd := some 95) rfl rfl rfl (r_addN rfl (n := (2 ^ i)) rfl rfl (by simp only [topN]; omega)) ?_
           refine WL_val (dd := some 11) rfl rfl rfl (r_assign (v := .int .u8 _) rfl) ?_
           refine WL_nil ?_
           refine hK142 _ _ ?_
           clear hK142 K141
           refine WC_region ?_
           refine WL_val (dd := some 96) rfl rfl rfl (r_move (v := .int .u8 _) rfl) ?_
           refine WL_val (dd := some 97) rfl rfl rfl (r_mulW8 (n := 2) rfl rfl rfl) ?_
           refine WL_val (dd := some 12) rfl rfl rfl (r_assign (v := .int .u8 _) rfl) ?_
           refine WL_nil ?_
           refine hK140 _ _ ?_
           clear hK140 K139
           refine WC_region ?_
           refine WL_val (dd := some 79) rfl rfl rfl (r_move (v := .int .i64 _) rfl) ?_
           refine WL_val (dd := some 80) rfl rfl rfl (r_addI rfl rfl (by omega) (by omega)) ?_
           refine WL_val (dd := some 13) rfl rfl rfl (r_assign (v := .int .i64 _) rfl) ?_
           refine WL_nil ?_
           refine hJ134 _ _ (i + 1) ?_ ?_ ?_ ?_
           · repeat (first | exact agree.mask _ _ _ | refine agree.updo ?_ rfl _ | refine agree.updL ?_ _ rfl | refine agree.maskS rfl ?_)
           · exact ⟨rfl, rfl, (congrArg (fun z : Nat => Value.int .u8 (z : Int)) (vm_t hs13_5 hc3)), trivial⟩
           · exact ⟨hB, hm0_0, hm1_5, hm2_5, hm5_6, (by omega), trivial⟩
           · first | omega | (dsimp only; omega)
          ·
           try with_reducible replace hc3 := of_decide_eq_false hc3
           refine WC_skip ?_
           refine hK142 _ _ ?_
           clear hK142 K141
           refine WC_region ?_
           refine WL_val (dd := some 96) rfl rfl rfl (r_move (v := .int .u8 _) rfl) ?_
           refine WL_val (dd := some 97) rfl rfl rfl (r_mulW8 (n := 2) rfl rfl rfl) ?_
           refine WL_val (dd := some 12) rfl rfl rfl (r_assign (v := .int .u8 _) rfl) ?_
           refine WL_nil ?_
           refine hK140 _ _ ?_
           clear hK140 K139
           refine WC_region ?_
           refine WL_val (dd := some 79) rfl rfl rfl (r_move (v := .int .i64 _) rfl) ?_
           refine WL_val (dd := some 80) rfl rfl rfl (r_addI rfl rfl (by omega) (by omega)) ?_
           refine WL_val (dd := some 13) rfl rfl rfl (r_assign (v := .int .i64 _) rfl) ?_
           refine WL_nil ?_
           refine hJ134 _ _ (i + 1) ?_ ?_ ?_ ?_
           · repeat (first | exact agree.mask _ _ _ | refine agree.updo ?_ rfl _ | refine agree.updL ?_ _ rfl | refine agree.maskS rfl ?_)
           · exact ⟨rfl, rfl, (congrArg (fun z : Nat => Value.int .u8 (z : Int)) (vm_f (.inr hc3))), trivial⟩
           · exact ⟨hB, hm0_0, hm1_5, hm2_5, hm5_6, (by omega), trivial⟩
           · first | omega | (dsimp only; omega)
         ·
          try with_reducible replace hs13_5 := of_decide_eq_false hs13_5
          refine WL_skip (dd := some 87) rfl rfl rfl ?_
          refine WL_skip (dd := some 88) rfl rfl rfl ?_
          refine WL_skip (dd := some 89) rfl rfl rfl ?_
          refine WL_skip (dd := some 90) rfl rfl rfl ?_
          refine WL_skip (dd := some 91) rfl rfl rfl ?_
          refine WL_val (dd := some 92) rfl rfl rfl (r_pick_f rfl (v := .bool false) rfl) ?_
          refine WL_nil ?_
          refine hK144 _ _ ?_
          clear hK144 K143
          refine WC_cond_false rfl ?_
          refine WC_skip ?_
          refine hK142 _ _ ?_
          clear hK142 K141
          refine WC_region ?_
          refine WL_val (dd := some 96) rfl rfl rfl (r_move (v := .int .u8 _) rfl) ?_
          refine WL_val (dd := some 97) rfl rfl rfl (r_mulW8 (n := 2) rfl rfl rfl) ?_
          refine WL_val (dd := some 12) rfl rfl rfl (r_assign (v := .int .u8 _) rfl) ?_
          refine WL_nil ?_
          refine hK140 _ _ ?_
          clear hK140 K139
          refine WC_region ?_
          refine WL_val (dd := some 79) rfl rfl rfl (r_move (v := .int .i64 _) rfl) ?_
          refine WL_val (dd := some 80) rfl rfl rfl (r_addI rfl rfl (by omega) (by omega)) ?_
          refine WL_val (dd := some 13) rfl rfl rfl (r_assign (v := .int .i64 _) rfl) ?_
          refine WL_nil ?_
          refine hJ134 _ _ (i + 1) ?_ ?_ ?_ ?_
          · repeat (first | exact agree.mask _ _ _ | refine agree.updo ?_ rfl _ | refine agree.updL ?_ _ rfl | refine agree.maskS rfl ?_)
          · exact ⟨rfl, rfl, (congrArg (fun z : Nat => Value.int .u8 (z : Int)) (vm_f (.inl hs13_5))), trivial⟩
          · exact ⟨hB, hm0_0, hm1_5, hm2_5, hm5_6, (by omega), trivial⟩
          · first | omega | (dsimp only; omega)
        ·
         try with_reducible replace hc2 := of_decide_eq_false hc2
         refine WC_exit ?_
         refine hK128 _ _ ?_
         clear hK136 K135
         clear hJ134 J133
         clear hK128 K127
         refine WC_seq (fun K151 hK152 => ?_)
         obtain rfl : i = 8 := by omega
         refine WC_region ?_
         refine WL_val (dd := some 98) rfl rfl rfl (r_loadW rfl tb_ag57 rfl hm5_6) ?_
         refine WL_val (dd := some 99) rfl rfl rfl (r_fieldAddr (b := _) (o := _) rfl tb_fo57_0) ?_
         refine WL_val (dd := some 100) rfl rfl rfl (r_fieldAddr (b := _) (o := _) rfl tb_fo55_0) ?_
         refine WL_val (dd := some 101) rfl rfl rfl (r_load1 (v := .int .u8 _) rfl tb_sc5 (At.cell hm0_0 rfl)) ?_
         refine WL_val (dd := some 102) rfl rfl rfl (r_move (v := .int .u8 _) rfl) ?_
         refine WL_val (dd := some 103) rfl rfl rfl (tb_build55_0_1 (h0 := rfl) (k0 := rfl) (h1 := rfl) (k1 := rfl) (c0_0 := .int .u8 _) (c1_0 := .int .u8 _)) ?_
         refine WL_val (dd := some 104) rfl rfl rfl (r_fieldAddr (b := _) (o := _) rfl tb_fo57_1) ?_
         refine WL_val (dd := some 105) rfl rfl rfl (r_load1 (v := .int .u8 _) rfl tb_sc5 (At.cell hm0_0 rfl)) ?_
         refine WL_val (dd := some 106) rfl rfl rfl (r_remN (n := 16) rfl rfl rfl (by omega)) ?_
         refine WL_val (dd := some 107) rfl rfl rfl (tb_build57_0_1 (h0 := rfl) (h1 := rfl) (k1 := rfl) (c1_0 := .int .u8 _)) ?_
         refine WL_val (dd := some 108) rfl rfl rfl (tb_eq57 rfl rfl) ?_
         refine WL_split (dd := some 109) rfl rfl rfl (r_move (v := .bool _) rfl) (fun hs16_11 => ?_) (fun hs16_11 => ?_)
         ·
          try with_reducible replace hs16_11 := of_decide_eq_true hs16_11
          refine WL_val (dd := some 110) rfl rfl rfl (r_move (v := .int .i64 _) rfl) ?_
          refine WL_val (dd := some 111) rfl rfl rfl (r_eql rfl rfl) ?_
          refine WL_val (dd := some 112) rfl rfl rfl (r_pick_t rfl (v := .bool _) rfl) ?_
          refine WL_split (dd := some 113) rfl rfl rfl (r_move (v := .bool _) rfl) (fun hs16_15 => ?_) (fun hs16_15 => ?_)
          ·
           try with_reducible replace hs16_15 := of_decide_eq_true hs16_15
           refine WL_call (dd := some 114) rfl rfl rfl (r_call0 tb_c53) (C_drawknifelaw11_knows _) (fun v16_16 W153 hE154 hP16_16 => ?_)
           have hsz155 := (Below.size hB)
           replace hB := below_ext hB hE154 (Nat.le_refl _)
           replace hm0_0 := hE154.at hm0_0
           replace hm1_5 := hE154.at hm1_5
           replace hm2_5 := hE154.at hm2_5
           replace hm5_6 := hE154.at hm5_6
           clear hE154
           obtain rfl := hP16_16
           clear hsz155
           refine WL_val (dd := some 115) rfl rfl rfl (r_pick_t rfl (v := .bool true) rfl) ?_
           refine WL_val (dd := some 4) rfl rfl rfl (r_assign (v := .bool true) rfl) ?_
           refine WL_nil ?_
           refine hK152 _ _ ?_
           clear hK152 K151
           refine WC_ret ?_
           repeat (first | refine thenQ_ret ?_ | refine blockQ_ret ?_)
           refine ret_t (v := .bool true) rfl ?_
           refine ⟨hB, ?_⟩
           rfl
          ·
           try with_reducible replace hs16_15 := of_decide_eq_false hs16_15
           exact absurd (by rw [if_pos hyes]) hs16_15
         ·
          try with_reducible replace hs16_11 := of_decide_eq_false hs16_11
          exact absurd (by rw [hrm]; exact ⟨rfl, by show ((x.c.v &&& x.c.m : Nat) : Int) = _; rw [← vm_e hbx.1], rfl⟩) hs16_11
    ·
     try with_reducible replace hs3_19 := of_decide_eq_false hs3_19
     refine WT_pass (dd := some 44) 20 rfl (by kernel_rfl) (by kernel_rfl) (by kernel_rfl) rfl rfl rfl hS ?_
     refine WT_pass (dd := some 45) 21 rfl (by kernel_rfl) (by kernel_rfl) (by kernel_rfl) rfl rfl rfl hS ?_
     refine WT_take (dd := some 46) 22 rfl (by kernel_rfl) (by kernel_rfl) (by kernel_rfl) rfl rfl rfl (fun _wq _hq => r_pick_f rfl (v := .bool false) rfl) hS ?_
     refine WT_take (dd := some 47) 23 rfl (by kernel_rfl) (by kernel_rfl) (by kernel_rfl) rfl rfl rfl (fun _wq _hq => r_pick_f rfl (v := .bool false) rfl) hS ?_
     refine WT_take (dd := some 48) 24 rfl (by kernel_rfl) (by kernel_rfl) (by kernel_rfl) rfl rfl rfl (fun _wq _hq => r_move (v := .bool false) rfl) hS ?_
     refine WT_take (dd := some 49) 25 rfl (by kernel_rfl) (by kernel_rfl) (by kernel_rfl) rfl rfl rfl (fun _wq _hq => r_move (v := .bool _) rfl) hS ?_
     refine WT_split (dd := some 50) 26 rfl (by kernel_rfl) (by kernel_rfl) (by kernel_rfl) rfl rfl rfl (fun wq hq => r_move (v := .bool _) rfl) hS (fun hs3_26 => ?_) (fun hs3_26 => ?_)
     ·
      try with_reducible replace hs3_26 := of_decide_eq_true hs3_26
      refine WT_take (dd := some 51) 27 rfl (by kernel_rfl) (by kernel_rfl) (by kernel_rfl) rfl rfl rfl (fun _wq hq => r_loadW rfl tb_ag57 rfl (hq.at sv37_hm1_5)) hS ?_
      refine WT_take (dd := some 53) 29 rfl (by kernel_rfl) (by kernel_rfl) (by kernel_rfl) rfl rfl rfl (fun _wq _hq => r_move (v := .int .i64 _) rfl) hS ?_
      refine WT_one (dd := some 52) 28 (by kernel_rfl) rfl rfl rfl rfl (Yd.call (r_call1 tb_c51 (v0 := .agg #[_, _, _]) rfl) (C_tagged_Member (rowR m) _ hyl) (fun v3_28 W156 hE157 hP3_28 => ⟨.inl (hS.trans hE157), ?_⟩))
      have hsz158 := (Below.size hB)
      replace hB := below_ext hB hE157 (Nat.le_refl _)
      replace hm0_0 := hE157.at hm0_0
      replace hm1_5 := hE157.at hm1_5
      replace hm2_5 := hE157.at hm2_5
      replace hS := hS.trans hE157
      clear hE157
      clear hsz158
      obtain rfl := hP3_28
      refine WT_take (dd := some 54) 30 rfl (by kernel_rfl) (by kernel_rfl) (by kernel_rfl) rfl rfl rfl (fun _wq _hq => r_neq rfl rfl) hS ?_
      refine WT_take (dd := some 55) 31 rfl (by kernel_rfl) (by kernel_rfl) (by kernel_rfl) rfl rfl rfl (fun _wq _hq => r_pick_t rfl (v := .bool _) rfl) hS ?_
      refine WT_take (dd := some 56) 32 rfl (by kernel_rfl) (by kernel_rfl) (by kernel_rfl) rfl rfl rfl (fun _wq _hq => r_pick_f rfl (v := .bool _) rfl) hS ?_
      refine WT_done (by kernel_rfl) ?_
      try clear sv37_hB sv37_hm0_0 sv37_hm1_5 sv37_hm2_5
      refine hK31 _ _ ?_
      clear hK31 K30
      refine WC_cond (b := _) rfl (fun hc0 => ?_) (fun hc0 => ?_)
      ·
       try with_reducible replace hc0 := of_decide_eq_true hc0
       exact absurd (mem_row hs3_26) hc0
      ·
       try with_reducible replace hc0 := of_decide_eq_false hc0
       refine WC_skip ?_
       refine hK29 _ _ ?_
       clear hK29 K28
       refine WC_seq (fun K159 hK160 => ?_)
       refine WC_region ?_
       refine WL_val (dd := some 58) rfl rfl rfl (r_loadW rfl tb_ag57 rfl hm0_0) ?_
       refine WL_call (dd := some 59) rfl rfl rfl (r_call1 tb_c51 (v0 := .agg #[_, _, _]) rfl) (C_tagged_Member x _ hbx) (fun v5_1 W161 hE162 hP5_1 => ?_)
       have hsz163 := (Below.size hB)
       replace hB := below_ext hB hE162 (Nat.le_refl _)
       replace hm0_0 := hE162.at hm0_0
       replace hm1_5 := hE162.at hm1_5
       replace hm2_5 := hE162.at hm2_5
       clear hE162
       clear hsz163
       obtain rfl := hP5_1
       refine WL_call (dd := some 60) rfl rfl rfl (r_call1 tb_c49 (v0 := .int .i64 _) rfl) (C_tagged_Row (memRw x : Int) _) (fun v5_2 W164 hE165 hP5_2 => ?_)
       have hsz166 := (Below.size hB)
       replace hB := below_ext hB hE165 (Nat.le_refl _)
       replace hm0_0 := hE165.at hm0_0
       replace hm1_5 := hE165.at hm1_5
       replace hm2_5 := hE165.at hm2_5
       clear hE165
       obtain rfl := hP5_2
       clear hsz166
       refine WL_val (dd := some 57) rfl rfl rfl (r_move (v := .tuple #[.agg #[_, _, _], .int .i64 _]) rfl) ?_
       refine WL_val (dd := some 61) rfl rfl rfl (r_ext2_0 (h := rfl)) ?_
       refine WL_val (dd := some 62) rfl rfl rfl (r_ext2_1 (h := rfl)) ?_
       refine WL_step (dd := some 9) rfl rfl rfl (Y_alloc tb_z57 rfl (fun b5_6 W167 hb168 hE169 hm5_6 => ?_))
       have lo_b5_6 : w.heap.size ≤ b5_6 := hb168 ▸ (Below.size hB)
       have ne_b0_0_b5_6 : b0_0 ≠ b5_6 := Nat.ne_of_lt (hb168 ▸ hm0_0.lt)
       have ne_b1_5_b5_6 : b1_5 ≠ b5_6 := Nat.ne_of_lt (hb168 ▸ hm1_5.lt)
       have ne_b2_5_b5_6 : b2_5 ≠ b5_6 := Nat.ne_of_lt (hb168 ▸ hm2_5.lt)
       clear hb168
       replace hB := below_ext hB hE169 (Nat.le_refl _)
       replace hm0_0 := hE169.at hm0_0
       replace hm1_5 := hE169.at hm1_5
       replace hm2_5 := hE169.at hm2_5
       clear hE169
       refine WL_step (dd := none) rfl rfl rfl (Y_storeW rfl rfl tb_ag57 rfl hm5_6 rfl (by rfl) (fun W170 hG171 hm172 => ?_))
       replace hB := below_grown hB hG171 (Nat.le_refl _) (fun j hj => by cases hj; exact lo_b5_6)
       replace hm0_0 := At.grownNe hm0_0 ne_b0_0_b5_6 hG171
       replace hm1_5 := At.grownNe hm1_5 ne_b1_5_b5_6 hG171
       replace hm2_5 := At.grownNe hm2_5 ne_b2_5_b5_6 hG171
       clear hG171 hm5_6
       have hm5_6 := hm172
       clear hm172
       refine WL_val (dd := some 10) rfl rfl rfl (r_assign (v := .int .i64 _) rfl) ?_
       refine WL_nil ?_
       refine hK160 _ _ ?_
       clear hK160 K159
       refine WC_seq (fun K173 hK174 => ?_)
       refine WC_seq (fun K175 hK176 => ?_)
       refine WC_region ?_
       refine WL_val (dd := some 63) rfl rfl rfl (r_fieldAddr (b := _) (o := _) rfl tb_fo57_1) ?_
       refine WL_val (dd := some 64) rfl rfl rfl (r_load1 (v := .int .u8 _) rfl tb_sc5 (At.cell hm0_0 rfl)) ?_
       refine WL_val (dd := some 65) rfl rfl rfl (r_remN (n := 16) rfl rfl rfl (by omega)) ?_
       refine WL_val (dd := some 66) rfl rfl rfl (r_eql rfl rfl) ?_
       refine WL_nil ?_
       refine hK176 _ _ ?_
       clear hK176 K175
       refine WC_cond (b := _) rfl (fun hc1 => ?_) (fun hc1 => ?_)
       ·
        try with_reducible replace hc1 := of_decide_eq_true hc1
        refine WC_seq (fun K177 hK178 => ?_)
        have ho : x.o % 16 = 0 := by omega
        have hno := mem_no ho
        have hrn := row_none hno
        refine WC_region ?_
        refine WL_val (dd := some 67) rfl rfl rfl (r_loadW rfl tb_ag57 rfl hm5_6) ?_
        refine WL_val (dd := some 68) rfl rfl rfl (tb_build57_ ) ?_
        refine WL_val (dd := some 69) rfl rfl rfl (tb_eq57 rfl rfl) ?_
        refine WL_split (dd := some 70) rfl rfl rfl (r_move (v := .bool _) rfl) (fun hs7_3 => ?_) (fun hs7_3 => ?_)
        ·
         try with_reducible replace hs7_3 := of_decide_eq_true hs7_3
         refine WL_val (dd := some 71) rfl rfl rfl (r_move (v := .int .i64 _) rfl) ?_
         refine WL_val (dd := some 72) rfl rfl rfl (r_eql rfl rfl) ?_
         refine WL_val (dd := some 73) rfl rfl rfl (r_pick_t rfl (v := .bool _) rfl) ?_
         refine WL_split (dd := some 74) rfl rfl rfl (r_move (v := .bool _) rfl) (fun hs7_7 => ?_) (fun hs7_7 => ?_)
         ·
          try with_reducible replace hs7_7 := of_decide_eq_true hs7_7
          refine WL_call (dd := some 75) rfl rfl rfl (r_call0 tb_c53) (C_drawknifelaw11_knows _) (fun v7_8 W179 hE180 hP7_8 => ?_)
          have hsz181 := (Below.size hB)
          replace hB := below_ext hB hE180 (Nat.le_refl _)
          replace hm0_0 := hE180.at hm0_0
          replace hm1_5 := hE180.at hm1_5
          replace hm2_5 := hE180.at hm2_5
          replace hm5_6 := hE180.at hm5_6
          clear hE180
          obtain rfl := hP7_8
          clear hsz181
          refine WL_val (dd := some 76) rfl rfl rfl (r_pick_t rfl (v := .bool true) rfl) ?_
          refine WL_val (dd := some 4) rfl rfl rfl (r_assign (v := .bool true) rfl) ?_
          refine WL_nil ?_
          refine hK178 _ _ ?_
          clear hK178 K177
          refine WC_ret ?_
          repeat (first | refine thenQ_ret ?_ | refine blockQ_ret ?_)
          try clear hK174 K173
          refine ret_t (v := .bool true) rfl ?_
          refine ⟨hB, ?_⟩
          rfl
         ·
          try with_reducible replace hs7_7 := of_decide_eq_false hs7_7
          exact absurd (by rw [if_neg (by rw [hno]; decide)]) hs7_7
        ·
         try with_reducible replace hs7_3 := of_decide_eq_false hs7_3
         exact absurd (by rw [hrn]; exact ⟨rfl, rfl, rfl⟩) hs7_3
       ·
        try with_reducible replace hc1 := of_decide_eq_false hc1
        refine WC_skip ?_
        refine hK174 _ _ ?_
        clear hK174 K173
        refine WC_seq (fun K182 hK183 => ?_)
        have ho : ¬ x.o % 16 = 0 := fun h => hc1 (by rw [h]; rfl)
        have hyes := mem_ok ho
        have hrm := row_mem (x := x) hbx.1 ho
        refine WC_region ?_
        refine WL_val (dd := some 11) rfl rfl rfl (r_assign (v := .int .u8 0) rfl) ?_
        refine WL_nil ?_
        refine hK183 _ _ ?_
        clear hK183 K182
        refine WC_seq (fun K184 hK185 => ?_)
        refine WC_region ?_
        refine WL_val (dd := some 12) rfl rfl rfl (r_assign (v := .int .u8 1) rfl) ?_
        refine WL_nil ?_
        refine hK185 _ _ ?_
        clear hK185 K184
        refine WC_seq (fun K186 hK187 => ?_)
        refine WC_seq (fun K188 hK189 => ?_)
        refine WC_region ?_
        refine WL_val (dd := some 13) rfl rfl rfl (r_assign (v := .int .i64 0) rfl) ?_
        refine WL_nil ?_
        refine hK189 _ _ ?_
        clear hK189 K188
        refine WC_block ?_
        refine WC_loop (σ := (Nat)) [11, 12, 13, 77, 78, 79, 80, 81, 82, 83, 84, 85, 86, 87, 88, 89, 90, 91, 92, 93, 94, 95, 96, 97] (fun i => [(13, .int .i64 (i : Int)), (12, .int .u8 ((2 ^ i % 256 : Nat) : Int)), (11, .int .u8 ((vmT x.c.m x.c.v i : Nat) : Int))]) (fun i W => (Below w.heap.size w W) ∧ (At W b0_0 _ 57) ∧ (At W b1_5 _ 57) ∧ (At W b2_5 _ 57) ∧ (At W b5_6 _ 57) ∧ (i ≤ 8) ∧ (True)) (fun i => 8 - i) (0) ⟨rfl, rfl, congrArg (fun z : Nat => Value.int .u8 (z : Int)) (by unfold vmT; rw [Nat.pow_zero, Nat.mod_one]), trivial⟩ ⟨hB, hm0_0, hm1_5, hm2_5, hm5_6, (Nat.zero_le _), trivial⟩ ?_
        clear hB hm0_0 hm1_5 hm2_5 hm5_6
        rintro i g191 W190 ⟨hB, hm0_0, hm1_5, hm2_5, hm5_6, hi, _⟩ J192 hJ193
        refine WC_seq (fun K194 hK195 => ?_)
        refine WC_seq (fun K196 hK197 => ?_)
        refine WC_region ?_
        refine WL_val (dd := some 77) rfl rfl rfl (r_move (v := .int .i64 _) rfl) ?_
        refine WL_val (dd := some 78) rfl rfl rfl (r_lss rfl rfl) ?_
        refine WL_nil ?_
        refine hK197 _ _ ?_
        clear hK197 K196
        refine WC_cond (b := _) rfl (fun hc2 => ?_) (fun hc2 => ?_)
        ·
         try with_reducible replace hc2 := of_decide_eq_true hc2
         refine WC_skip ?_
         refine hK195 _ _ ?_
         clear hK195 K194
         refine WC_seq (fun K198 hK199 => ?_)
         refine WC_block ?_
         refine WC_seq (fun K200 hK201 => ?_)
         refine WC_seq (fun K202 hK203 => ?_)
         have h7 := pow7 (show i < 8 by omega)
         rw [Nat.mod_eq_of_lt (show 2 ^ i < 256 by omega)]
         have hvl : vmT x.c.m x.c.v i < 2 ^ i := Nat.mod_lt _ (Nat.two_pow_pos i)
         refine WC_region ?_
         refine WL_val (dd := some 81) rfl rfl rfl (r_fieldAddr (b := _) (o := _) rfl tb_fo57_0) ?_
         refine WL_val (dd := some 82) rfl rfl rfl (r_fieldAddr (b := _) (o := _) rfl tb_fo55_0) ?_
         refine WL_val (dd := some 83) rfl rfl rfl (r_load1 (v := .int .u8 _) rfl tb_sc5 (At.cell hm0_0 rfl)) ?_
         refine WL_val (dd := some 84) rfl rfl rfl (r_move (v := .int .i64 _) rfl) ?_
         refine WL_call (dd := some 85) rfl rfl rfl (r_call2 tb_c54 (v0 := .int .u8 _) rfl (v1 := .int .i64 _) rfl) (C_bit11 _ _ _ (by first | assumption | omega) (by first | assumption | omega)) (fun v13_4 W204 hE205 hP13_4 => ?_)
         have hsz206 := (Below.size hB)
         replace hB := below_ext hB hE205 (Nat.le_refl _)
         replace hm0_0 := hE205.at hm0_0
         replace hm1_5 := hE205.at hm1_5
         replace hm2_5 := hE205.at hm2_5
         replace hm5_6 := hE205.at hm5_6
         clear hE205
         clear hsz206
         obtain rfl := hP13_4
         refine WL_split (dd := some 86) rfl rfl rfl (r_move (v := .bool _) rfl) (fun hs13_5 => ?_) (fun hs13_5 => ?_)
         ·
          try with_reducible replace hs13_5 := of_decide_eq_true hs13_5
          refine WL_val (dd := some 87) rfl rfl rfl (r_fieldAddr (b := _) (o := _) rfl tb_fo57_0) ?_
          refine WL_val (dd := some 88) rfl rfl rfl (r_fieldAddr (b := _) (o := _) rfl tb_fo55_1) ?_
          refine WL_val (dd := some 89) rfl rfl rfl (r_load1 (v := .int .u8 _) rfl tb_sc5 (At.cell hm0_0 rfl)) ?_
          refine WL_val (dd := some 90) rfl rfl rfl (r_move (v := .int .i64 _) rfl) ?_
          refine WL_call (dd := some 91) rfl rfl rfl (r_call2 tb_c54 (v0 := .int .u8 _) rfl (v1 := .int .i64 _) rfl) (C_bit11 _ _ _ (by first | assumption | omega) (by first | assumption | omega)) (fun v13_10 W207 hE208 hP13_10 => ?_)
          have hsz209 := (Below.size hB)
          replace hB := below_ext hB hE208 (Nat.le_refl _)
          replace hm0_0 := hE208.at hm0_0
          replace hm1_5 := hE208.at hm1_5
          replace hm2_5 := hE208.at hm2_5
          replace hm5_6 := hE208.at hm5_6
          clear hE208
          clear hsz209
          obtain rfl := hP13_10
          refine WL_val (dd := some 92) rfl rfl rfl (r_pick_t rfl (v := .bool _) rfl) ?_
          refine WL_nil ?_
          refine hK203 _ _ ?_
          clear hK203 K202
          refine WC_cond (b := _) rfl (fun hc3 => ?_) (fun hc3 => ?_)
          ·
           try with_reducible replace hc3 := of_decide_eq_true hc3
           refine WC_region ?_
           refine WL_val (dd := some 93) rfl rfl rfl (r_move (v := .int .u8 _) rfl) ?_
           refine WL_val (dd := some 94) rfl rfl rfl (r_move (v := .int .u8 _) rfl) ?_
           refine WL_val (dd := some 95) rfl rfl rfl (r_addN rfl (n := (2 ^ i)) rfl rfl (by simp only [topN]; omega)) ?_
           refine WL_val (dd := some 11) rfl rfl rfl (r_assign (v := .int .u8 _) rfl) ?_
           refine WL_nil ?_
           refine hK201 _ _ ?_
           clear hK201 K200
           refine WC_region ?_
           refine WL_val (dd := some 96) rfl rfl rfl (r_move (v := .int .u8 _) rfl) ?_
           refine WL_val (dd := some 97) rfl rfl rfl (r_mulW8 (n := 2) rfl rfl rfl) ?_
           refine WL_val (dd := some 12) rfl rfl rfl (r_assign (v := .int .u8 _) rfl) ?_
           refine WL_nil ?_
           refine hK199 _ _ ?_
           clear hK199 K198
           refine WC_region ?_
           refine WL_val (dd := some 79) rfl rfl rfl (r_move (v := .int .i64 _) rfl) ?_
           refine WL_val (dd := some 80) rfl rfl rfl (r_addI rfl rfl (by omega) (by omega)) ?_
           refine WL_val (dd := some 13) rfl rfl rfl (r_assign (v := .int .i64 _) rfl) ?_
           refine WL_nil ?_
           refine hJ193 _ _ (i + 1) ?_ ?_ ?_ ?_
           · repeat (first | exact agree.mask _ _ _ | refine agree.updo ?_ rfl _ | refine agree.updL ?_ _ rfl | refine agree.maskS rfl ?_)
           · exact ⟨rfl, rfl, (congrArg (fun z : Nat => Value.int .u8 (z : Int)) (vm_t hs13_5 hc3)), trivial⟩
           · exact ⟨hB, hm0_0, hm1_5, hm2_5, hm5_6, (by omega), trivial⟩
           · first | omega | (dsimp only; omega)
          ·
           try with_reducible replace hc3 := of_decide_eq_false hc3
           refine WC_skip ?_
           refine hK201 _ _ ?_
           clear hK201 K200
           refine WC_region ?_
           refine WL_val (dd := some 96) rfl rfl rfl (r_move (v := .int .u8 _) rfl) ?_
           refine WL_val (dd := some 97) rfl rfl rfl (r_mulW8 (n := 2) rfl rfl rfl) ?_
           refine WL_val (dd := some 12) rfl rfl rfl (r_assign (v := .int .u8 _) rfl) ?_
           refine WL_nil ?_
           refine hK199 _ _ ?_
           clear hK199 K198
           refine WC_region ?_
           refine WL_val (dd := some 79) rfl rfl rfl (r_move (v := .int .i64 _) rfl) ?_
           refine WL_val (dd := some 80) rfl rfl rfl (r_addI rfl rfl (by omega) (by omega)) ?_
           refine WL_val (dd := some 13) rfl rfl rfl (r_assign (v := .int .i64 _) rfl) ?_
           refine WL_nil ?_
           refine hJ193 _ _ (i + 1) ?_ ?_ ?_ ?_
           · repeat (first | exact agree.mask _ _ _ | refine agree.updo ?_ rfl _ | refine agree.updL ?_ _ rfl | refine agree.maskS rfl ?_)
           · exact ⟨rfl, rfl, (congrArg (fun z : Nat => Value.int .u8 (z : Int)) (vm_f (.inr hc3))), trivial⟩
           · exact ⟨hB, hm0_0, hm1_5, hm2_5, hm5_6, (by omega), trivial⟩
           · first | omega | (dsimp only; omega)
         ·
          try with_reducible replace hs13_5 := of_decide_eq_false hs13_5
          refine WL_skip (dd := some 87) rfl rfl rfl ?_
          refine WL_skip (dd := some 88) rfl rfl rfl ?_
          refine WL_skip (dd := some 89) rfl rfl rfl ?_
          refine WL_skip (dd := some 90) rfl rfl rfl ?_
          refine WL_skip (dd := some 91) rfl rfl rfl ?_
          refine WL_val (dd := some 92) rfl rfl rfl (r_pick_f rfl (v := .bool false) rfl) ?_
          refine WL_nil ?_
          refine hK203 _ _ ?_
          clear hK203 K202
          refine WC_cond_false rfl ?_
          refine WC_skip ?_
          refine hK201 _ _ ?_
          clear hK201 K200
          refine WC_region ?_
          refine WL_val (dd := some 96) rfl rfl rfl (r_move (v := .int .u8 _) rfl) ?_
          refine WL_val (dd := some 97) rfl rfl rfl (r_mulW8 (n := 2) rfl rfl rfl) ?_
          refine WL_val (dd := some 12) rfl rfl rfl (r_assign (v := .int .u8 _) rfl) ?_
          refine WL_nil ?_
          refine hK199 _ _ ?_
          clear hK199 K198
          refine WC_region ?_
          refine WL_val (dd := some 79) rfl rfl rfl (r_move (v := .int .i64 _) rfl) ?_
          refine WL_val (dd := some 80) rfl rfl rfl (r_addI rfl rfl (by omega) (by omega)) ?_
          refine WL_val (dd := some 13) rfl rfl rfl (r_assign (v := .int .i64 _) rfl) ?_
          refine WL_nil ?_
          refine hJ193 _ _ (i + 1) ?_ ?_ ?_ ?_
          · repeat (first | exact agree.mask _ _ _ | refine agree.updo ?_ rfl _ | refine agree.updL ?_ _ rfl | refine agree.maskS rfl ?_)
          · exact ⟨rfl, rfl, (congrArg (fun z : Nat => Value.int .u8 (z : Int)) (vm_f (.inl hs13_5))), trivial⟩
          · exact ⟨hB, hm0_0, hm1_5, hm2_5, hm5_6, (by omega), trivial⟩
          · first | omega | (dsimp only; omega)
        ·
         try with_reducible replace hc2 := of_decide_eq_false hc2
         refine WC_exit ?_
         refine hK187 _ _ ?_
         clear hK195 K194
         clear hJ193 J192
         clear hK187 K186
         refine WC_seq (fun K210 hK211 => ?_)
         obtain rfl : i = 8 := by omega
         refine WC_region ?_
         refine WL_val (dd := some 98) rfl rfl rfl (r_loadW rfl tb_ag57 rfl hm5_6) ?_
         refine WL_val (dd := some 99) rfl rfl rfl (r_fieldAddr (b := _) (o := _) rfl tb_fo57_0) ?_
         refine WL_val (dd := some 100) rfl rfl rfl (r_fieldAddr (b := _) (o := _) rfl tb_fo55_0) ?_
         refine WL_val (dd := some 101) rfl rfl rfl (r_load1 (v := .int .u8 _) rfl tb_sc5 (At.cell hm0_0 rfl)) ?_
         refine WL_val (dd := some 102) rfl rfl rfl (r_move (v := .int .u8 _) rfl) ?_
         refine WL_val (dd := some 103) rfl rfl rfl (tb_build55_0_1 (h0 := rfl) (k0 := rfl) (h1 := rfl) (k1 := rfl) (c0_0 := .int .u8 _) (c1_0 := .int .u8 _)) ?_
         refine WL_val (dd := some 104) rfl rfl rfl (r_fieldAddr (b := _) (o := _) rfl tb_fo57_1) ?_
         refine WL_val (dd := some 105) rfl rfl rfl (r_load1 (v := .int .u8 _) rfl tb_sc5 (At.cell hm0_0 rfl)) ?_
         refine WL_val (dd := some 106) rfl rfl rfl (r_remN (n := 16) rfl rfl rfl (by omega)) ?_
         refine WL_val (dd := some 107) rfl rfl rfl (tb_build57_0_1 (h0 := rfl) (h1 := rfl) (k1 := rfl) (c1_0 := .int .u8 _)) ?_
         refine WL_val (dd := some 108) rfl rfl rfl (tb_eq57 rfl rfl) ?_
         refine WL_split (dd := some 109) rfl rfl rfl (r_move (v := .bool _) rfl) (fun hs16_11 => ?_) (fun hs16_11 => ?_)
         ·
          try with_reducible replace hs16_11 := of_decide_eq_true hs16_11
          refine WL_val (dd := some 110) rfl rfl rfl (r_move (v := .int .i64 _) rfl) ?_
          refine WL_val (dd := some 111) rfl rfl rfl (r_eql rfl rfl) ?_
          refine WL_val (dd := some 112) rfl rfl rfl (r_pick_t rfl (v := .bool _) rfl) ?_
          refine WL_split (dd := some 113) rfl rfl rfl (r_move (v := .bool _) rfl) (fun hs16_15 => ?_) (fun hs16_15 => ?_)
          ·
           try with_reducible replace hs16_15 := of_decide_eq_true hs16_15
           refine WL_call (dd := some 114) rfl rfl rfl (r_call0 tb_c53) (C_drawknifelaw11_knows _) (fun v16_16 W212 hE213 hP16_16 => ?_)
           have hsz214 := (Below.size hB)
           replace hB := below_ext hB hE213 (Nat.le_refl _)
           replace hm0_0 := hE213.at hm0_0
           replace hm1_5 := hE213.at hm1_5
           replace hm2_5 := hE213.at hm2_5
           replace hm5_6 := hE213.at hm5_6
           clear hE213
           obtain rfl := hP16_16
           clear hsz214
           refine WL_val (dd := some 115) rfl rfl rfl (r_pick_t rfl (v := .bool true) rfl) ?_
           refine WL_val (dd := some 4) rfl rfl rfl (r_assign (v := .bool true) rfl) ?_
           refine WL_nil ?_
           refine hK211 _ _ ?_
           clear hK211 K210
           refine WC_ret ?_
           repeat (first | refine thenQ_ret ?_ | refine blockQ_ret ?_)
           refine ret_t (v := .bool true) rfl ?_
           refine ⟨hB, ?_⟩
           rfl
          ·
           try with_reducible replace hs16_15 := of_decide_eq_false hs16_15
           exact absurd (by rw [if_pos hyes]) hs16_15
         ·
          try with_reducible replace hs16_11 := of_decide_eq_false hs16_11
          exact absurd (by rw [hrm]; exact ⟨rfl, by show ((x.c.v &&& x.c.m : Nat) : Int) = _; rw [← vm_e hbx.1], rfl⟩) hs16_11
     ·
      try with_reducible replace hs3_26 := of_decide_eq_false hs3_26
      refine WT_pass (dd := some 51) 27 rfl (by kernel_rfl) (by kernel_rfl) (by kernel_rfl) rfl rfl rfl hS ?_
      refine WT_pass (dd := some 52) 28 rfl (by kernel_rfl) (by kernel_rfl) (by kernel_rfl) rfl rfl rfl hS ?_
      refine WT_pass (dd := some 53) 29 rfl (by kernel_rfl) (by kernel_rfl) (by kernel_rfl) rfl rfl rfl hS ?_
      refine WT_pass (dd := some 54) 30 rfl (by kernel_rfl) (by kernel_rfl) (by kernel_rfl) rfl rfl rfl hS ?_
      refine WT_take (dd := some 55) 31 rfl (by kernel_rfl) (by kernel_rfl) (by kernel_rfl) rfl rfl rfl (fun _wq _hq => r_pick_f rfl (v := .bool false) rfl) hS ?_
      refine WT_take (dd := some 56) 32 rfl (by kernel_rfl) (by kernel_rfl) (by kernel_rfl) rfl rfl rfl (fun _wq _hq => r_pick_f rfl (v := .bool false) rfl) hS ?_
      refine WT_done (by kernel_rfl) ?_
      try clear sv37_hB sv37_hm0_0 sv37_hm1_5 sv37_hm2_5
      refine hK31 _ _ ?_
      clear hK31 K30
      refine WC_cond_false rfl ?_
      refine WC_skip ?_
      refine hK29 _ _ ?_
      clear hK29 K28
      refine WC_seq (fun K215 hK216 => ?_)
      refine WC_region ?_
      refine WL_val (dd := some 58) rfl rfl rfl (r_loadW rfl tb_ag57 rfl hm0_0) ?_
      refine WL_call (dd := some 59) rfl rfl rfl (r_call1 tb_c51 (v0 := .agg #[_, _, _]) rfl) (C_tagged_Member x _ hbx) (fun v5_1 W217 hE218 hP5_1 => ?_)
      have hsz219 := (Below.size hB)
      replace hB := below_ext hB hE218 (Nat.le_refl _)
      replace hm0_0 := hE218.at hm0_0
      replace hm1_5 := hE218.at hm1_5
      replace hm2_5 := hE218.at hm2_5
      clear hE218
      clear hsz219
      obtain rfl := hP5_1
      refine WL_call (dd := some 60) rfl rfl rfl (r_call1 tb_c49 (v0 := .int .i64 _) rfl) (C_tagged_Row (memRw x : Int) _) (fun v5_2 W220 hE221 hP5_2 => ?_)
      have hsz222 := (Below.size hB)
      replace hB := below_ext hB hE221 (Nat.le_refl _)
      replace hm0_0 := hE221.at hm0_0
      replace hm1_5 := hE221.at hm1_5
      replace hm2_5 := hE221.at hm2_5
      clear hE221
      obtain rfl := hP5_2
      clear hsz222
      refine WL_val (dd := some 57) rfl rfl rfl (r_move (v := .tuple #[.agg #[_, _, _], .int .i64 _]) rfl) ?_
      refine WL_val (dd := some 61) rfl rfl rfl (r_ext2_0 (h := rfl)) ?_
      refine WL_val (dd := some 62) rfl rfl rfl (r_ext2_1 (h := rfl)) ?_
      refine WL_step (dd := some 9) rfl rfl rfl (Y_alloc tb_z57 rfl (fun b5_6 W223 hb224 hE225 hm5_6 => ?_))
      have lo_b5_6 : w.heap.size ≤ b5_6 := hb224 ▸ (Below.size hB)
      have ne_b0_0_b5_6 : b0_0 ≠ b5_6 := Nat.ne_of_lt (hb224 ▸ hm0_0.lt)
      have ne_b1_5_b5_6 : b1_5 ≠ b5_6 := Nat.ne_of_lt (hb224 ▸ hm1_5.lt)
      have ne_b2_5_b5_6 : b2_5 ≠ b5_6 := Nat.ne_of_lt (hb224 ▸ hm2_5.lt)
      clear hb224
      replace hB := below_ext hB hE225 (Nat.le_refl _)
      replace hm0_0 := hE225.at hm0_0
      replace hm1_5 := hE225.at hm1_5
      replace hm2_5 := hE225.at hm2_5
      clear hE225
      refine WL_step (dd := none) rfl rfl rfl (Y_storeW rfl rfl tb_ag57 rfl hm5_6 rfl (by rfl) (fun W226 hG227 hm228 => ?_))
      replace hB := below_grown hB hG227 (Nat.le_refl _) (fun j hj => by cases hj; exact lo_b5_6)
      replace hm0_0 := At.grownNe hm0_0 ne_b0_0_b5_6 hG227
      replace hm1_5 := At.grownNe hm1_5 ne_b1_5_b5_6 hG227
      replace hm2_5 := At.grownNe hm2_5 ne_b2_5_b5_6 hG227
      clear hG227 hm5_6
      have hm5_6 := hm228
      clear hm228
      refine WL_val (dd := some 10) rfl rfl rfl (r_assign (v := .int .i64 _) rfl) ?_
      refine WL_nil ?_
      refine hK216 _ _ ?_
      clear hK216 K215
      refine WC_seq (fun K229 hK230 => ?_)
      refine WC_seq (fun K231 hK232 => ?_)
      refine WC_region ?_
      refine WL_val (dd := some 63) rfl rfl rfl (r_fieldAddr (b := _) (o := _) rfl tb_fo57_1) ?_
      refine WL_val (dd := some 64) rfl rfl rfl (r_load1 (v := .int .u8 _) rfl tb_sc5 (At.cell hm0_0 rfl)) ?_
      refine WL_val (dd := some 65) rfl rfl rfl (r_remN (n := 16) rfl rfl rfl (by omega)) ?_
      refine WL_val (dd := some 66) rfl rfl rfl (r_eql rfl rfl) ?_
      refine WL_nil ?_
      refine hK232 _ _ ?_
      clear hK232 K231
      refine WC_cond (b := _) rfl (fun hc1 => ?_) (fun hc1 => ?_)
      ·
       try with_reducible replace hc1 := of_decide_eq_true hc1
       refine WC_seq (fun K233 hK234 => ?_)
       have ho : x.o % 16 = 0 := by omega
       have hno := mem_no ho
       have hrn := row_none hno
       refine WC_region ?_
       refine WL_val (dd := some 67) rfl rfl rfl (r_loadW rfl tb_ag57 rfl hm5_6) ?_
       refine WL_val (dd := some 68) rfl rfl rfl (tb_build57_ ) ?_
       refine WL_val (dd := some 69) rfl rfl rfl (tb_eq57 rfl rfl) ?_
       refine WL_split (dd := some 70) rfl rfl rfl (r_move (v := .bool _) rfl) (fun hs7_3 => ?_) (fun hs7_3 => ?_)
       ·
        try with_reducible replace hs7_3 := of_decide_eq_true hs7_3
        refine WL_val (dd := some 71) rfl rfl rfl (r_move (v := .int .i64 _) rfl) ?_
        refine WL_val (dd := some 72) rfl rfl rfl (r_eql rfl rfl) ?_
        refine WL_val (dd := some 73) rfl rfl rfl (r_pick_t rfl (v := .bool _) rfl) ?_
        refine WL_split (dd := some 74) rfl rfl rfl (r_move (v := .bool _) rfl) (fun hs7_7 => ?_) (fun hs7_7 => ?_)
        ·
         try with_reducible replace hs7_7 := of_decide_eq_true hs7_7
         refine WL_call (dd := some 75) rfl rfl rfl (r_call0 tb_c53) (C_drawknifelaw11_knows _) (fun v7_8 W235 hE236 hP7_8 => ?_)
         have hsz237 := (Below.size hB)
         replace hB := below_ext hB hE236 (Nat.le_refl _)
         replace hm0_0 := hE236.at hm0_0
         replace hm1_5 := hE236.at hm1_5
         replace hm2_5 := hE236.at hm2_5
         replace hm5_6 := hE236.at hm5_6
         clear hE236
         obtain rfl := hP7_8
         clear hsz237
         refine WL_val (dd := some 76) rfl rfl rfl (r_pick_t rfl (v := .bool true) rfl) ?_
         refine WL_val (dd := some 4) rfl rfl rfl (r_assign (v := .bool true) rfl) ?_
         refine WL_nil ?_
         refine hK234 _ _ ?_
         clear hK234 K233
         refine WC_ret ?_
         repeat (first | refine thenQ_ret ?_ | refine blockQ_ret ?_)
         try clear hK230 K229
         refine ret_t (v := .bool true) rfl ?_
         refine ⟨hB, ?_⟩
         rfl
        ·
         try with_reducible replace hs7_7 := of_decide_eq_false hs7_7
         exact absurd (by rw [if_neg (by rw [hno]; decide)]) hs7_7
       ·
        try with_reducible replace hs7_3 := of_decide_eq_false hs7_3
        exact absurd (by rw [hrn]; exact ⟨rfl, rfl, rfl⟩) hs7_3
      ·
       try with_reducible replace hc1 := of_decide_eq_false hc1
       refine WC_skip ?_
       refine hK230 _ _ ?_
       clear hK230 K229
       refine WC_seq (fun K238 hK239 => ?_)
       have ho : ¬ x.o % 16 = 0 := fun h => hc1 (by rw [h]; rfl)
       have hyes := mem_ok ho
       have hrm := row_mem (x := x) hbx.1 ho
       refine WC_region ?_
       refine WL_val (dd := some 11) rfl rfl rfl (r_assign (v := .int .u8 0) rfl) ?_
       refine WL_nil ?_
       refine hK239 _ _ ?_
       clear hK239 K238
       refine WC_seq (fun K240 hK241 => ?_)
       refine WC_region ?_
       refine WL_val (dd := some 12) rfl rfl rfl (r_assign (v := .int .u8 1) rfl) ?_
       refine WL_nil ?_
       refine hK241 _ _ ?_
       clear hK241 K240
       refine WC_seq (fun K242 hK243 => ?_)
       refine WC_seq (fun K244 hK245 => ?_)
       refine WC_region ?_
       refine WL_val (dd := some 13) rfl rfl rfl (r_assign (v := .int .i64 0) rfl) ?_
       refine WL_nil ?_
       refine hK245 _ _ ?_
       clear hK245 K244
       refine WC_block ?_
       refine WC_loop (σ := (Nat)) [11, 12, 13, 77, 78, 79, 80, 81, 82, 83, 84, 85, 86, 87, 88, 89, 90, 91, 92, 93, 94, 95, 96, 97] (fun i => [(13, .int .i64 (i : Int)), (12, .int .u8 ((2 ^ i % 256 : Nat) : Int)), (11, .int .u8 ((vmT x.c.m x.c.v i : Nat) : Int))]) (fun i W => (Below w.heap.size w W) ∧ (At W b0_0 _ 57) ∧ (At W b1_5 _ 57) ∧ (At W b2_5 _ 57) ∧ (At W b5_6 _ 57) ∧ (i ≤ 8) ∧ (True)) (fun i => 8 - i) (0) ⟨rfl, rfl, congrArg (fun z : Nat => Value.int .u8 (z : Int)) (by unfold vmT; rw [Nat.pow_zero, Nat.mod_one]), trivial⟩ ⟨hB, hm0_0, hm1_5, hm2_5, hm5_6, (Nat.zero_le _), trivial⟩ ?_
       clear hB hm0_0 hm1_5 hm2_5 hm5_6
       rintro i g247 W246 ⟨hB, hm0_0, hm1_5, hm2_5, hm5_6, hi, _⟩ J248 hJ249
       refine WC_seq (fun K250 hK251 => ?_)
       refine WC_seq (fun K252 hK253 => ?_)
       refine WC_region ?_
       refine WL_val (dd := some 77) rfl rfl rfl (r_move (v := .int .i64 _) rfl) ?_
       refine WL_val (dd := some 78) rfl rfl rfl (r_lss rfl rfl) ?_
       refine WL_nil ?_
       refine hK253 _ _ ?_
       clear hK253 K252
       refine WC_cond (b := _) rfl (fun hc2 => ?_) (fun hc2 => ?_)
       ·
        try with_reducible replace hc2 := of_decide_eq_true hc2
        refine WC_skip ?_
        refine hK251 _ _ ?_
        clear hK251 K250
        refine WC_seq (fun K254 hK255 => ?_)
        refine WC_block ?_
        refine WC_seq (fun K256 hK257 => ?_)
        refine WC_seq (fun K258 hK259 => ?_)
        have h7 := pow7 (show i < 8 by omega)
        rw [Nat.mod_eq_of_lt (show 2 ^ i < 256 by omega)]
        have hvl : vmT x.c.m x.c.v i < 2 ^ i := Nat.mod_lt _ (Nat.two_pow_pos i)
        refine WC_region ?_
        refine WL_val (dd := some 81) rfl rfl rfl (r_fieldAddr (b := _) (o := _) rfl tb_fo57_0) ?_
        refine WL_val (dd := some 82) rfl rfl rfl (r_fieldAddr (b := _) (o := _) rfl tb_fo55_0) ?_
        refine WL_val (dd := some 83) rfl rfl rfl (r_load1 (v := .int .u8 _) rfl tb_sc5 (At.cell hm0_0 rfl)) ?_
        refine WL_val (dd := some 84) rfl rfl rfl (r_move (v := .int .i64 _) rfl) ?_
        refine WL_call (dd := some 85) rfl rfl rfl (r_call2 tb_c54 (v0 := .int .u8 _) rfl (v1 := .int .i64 _) rfl) (C_bit11 _ _ _ (by first | assumption | omega) (by first | assumption | omega)) (fun v13_4 W260 hE261 hP13_4 => ?_)
        have hsz262 := (Below.size hB)
        replace hB := below_ext hB hE261 (Nat.le_refl _)
        replace hm0_0 := hE261.at hm0_0
        replace hm1_5 := hE261.at hm1_5
        replace hm2_5 := hE261.at hm2_5
        replace hm5_6 := hE261.at hm5_6
        clear hE261
        clear hsz262
        obtain rfl := hP13_4
        refine WL_split (dd := some 86) rfl rfl rfl (r_move (v := .bool _) rfl) (fun hs13_5 => ?_) (fun hs13_5 => ?_)
        ·
         try with_reducible replace hs13_5 := of_decide_eq_true hs13_5
         refine WL_val (dd := some 87) rfl rfl rfl (r_fieldAddr (b := _) (o := _) rfl tb_fo57_0) ?_
         refine WL_val (dd := some 88) rfl rfl rfl (r_fieldAddr (b := _) (o := _) rfl tb_fo55_1) ?_
         refine WL_val (dd := some 89) rfl rfl rfl (r_load1 (v := .int .u8 _) rfl tb_sc5 (At.cell hm0_0 rfl)) ?_
         refine WL_val (dd := some 90) rfl rfl rfl (r_move (v := .int .i64 _) rfl) ?_
         refine WL_call (dd := some 91) rfl rfl rfl (r_call2 tb_c54 (v0 := .int .u8 _) rfl (v1 := .int .i64 _) rfl) (C_bit11 _ _ _ (by first | assumption | omega) (by first | assumption | omega)) (fun v13_10 W263 hE264 hP13_10 => ?_)
         have hsz265 := (Below.size hB)
         replace hB := below_ext hB hE264 (Nat.le_refl _)
         replace hm0_0 := hE264.at hm0_0
         replace hm1_5 := hE264.at hm1_5
         replace hm2_5 := hE264.at hm2_5
         replace hm5_6 := hE264.at hm5_6
         clear hE264
         clear hsz265
         obtain rfl := hP13_10
         refine WL_val (dd := some 92) rfl rfl rfl (r_pick_t rfl (v := .bool _) rfl) ?_
         refine WL_nil ?_
         refine hK259 _ _ ?_
         clear hK259 K258
         refine WC_cond (b := _) rfl (fun hc3 => ?_) (fun hc3 => ?_)
         ·
          try with_reducible replace hc3 := of_decide_eq_true hc3
          refine WC_region ?_
          refine WL_val (dd := some 93) rfl rfl rfl (r_move (v := .int .u8 _) rfl) ?_
          refine WL_val (dd := some 94) rfl rfl rfl (r_move (v := .int .u8 _) rfl) ?_
          refine WL_val (dd := some 95) rfl rfl rfl (r_addN rfl (n := (2 ^ i)) rfl rfl (by simp only [topN]; omega)) ?_
          refine WL_val (dd := some 11) rfl rfl rfl (r_assign (v := .int .u8 _) rfl) ?_
          refine WL_nil ?_
          refine hK257 _ _ ?_
          clear hK257 K256
          refine WC_region ?_
          refine WL_val (dd := some 96) rfl rfl rfl (r_move (v := .int .u8 _) rfl) ?_
          refine WL_val (dd := some 97) rfl rfl rfl (r_mulW8 (n := 2) rfl rfl rfl) ?_
          refine WL_val (dd := some 12) rfl rfl rfl (r_assign (v := .int .u8 _) rfl) ?_
          refine WL_nil ?_
          refine hK255 _ _ ?_
          clear hK255 K254
          refine WC_region ?_
          refine WL_val (dd := some 79) rfl rfl rfl (r_move (v := .int .i64 _) rfl) ?_
          refine WL_val (dd := some 80) rfl rfl rfl (r_addI rfl rfl (by omega) (by omega)) ?_
          refine WL_val (dd := some 13) rfl rfl rfl (r_assign (v := .int .i64 _) rfl) ?_
          refine WL_nil ?_
          refine hJ249 _ _ (i + 1) ?_ ?_ ?_ ?_
          · repeat (first | exact agree.mask _ _ _ | refine agree.updo ?_ rfl _ | refine agree.updL ?_ _ rfl | refine agree.maskS rfl ?_)
          · exact ⟨rfl, rfl, (congrArg (fun z : Nat => Value.int .u8 (z : Int)) (vm_t hs13_5 hc3)), trivial⟩
          · exact ⟨hB, hm0_0, hm1_5, hm2_5, hm5_6, (by omega), trivial⟩
          · first | omega | (dsimp only; omega)
         ·
          try with_reducible replace hc3 := of_decide_eq_false hc3
          refine WC_skip ?_
          refine hK257 _ _ ?_
          clear hK257 K256
          refine WC_region ?_
          refine WL_val (dd := some 96) rfl rfl rfl (r_move (v := .int .u8 _) rfl) ?_
          refine WL_val (dd := some 97) rfl rfl rfl (r_mulW8 (n := 2) rfl rfl rfl) ?_
          refine WL_val (dd := some 12) rfl rfl rfl (r_assign (v := .int .u8 _) rfl) ?_
          refine WL_nil ?_
          refine hK255 _ _ ?_
          clear hK255 K254
          refine WC_region ?_
          refine WL_val (dd := some 79) rfl rfl rfl (r_move (v := .int .i64 _) rfl) ?_
          refine WL_val (dd := some 80) rfl rfl rfl (r_addI rfl rfl (by omega) (by omega)) ?_
          refine WL_val (dd := some 13) rfl rfl rfl (r_assign (v := .int .i64 _) rfl) ?_
          refine WL_nil ?_
          refine hJ249 _ _ (i + 1) ?_ ?_ ?_ ?_
          · repeat (first | exact agree.mask _ _ _ | refine agree.updo ?_ rfl _ | refine agree.updL ?_ _ rfl | refine agree.maskS rfl ?_)
          · exact ⟨rfl, rfl, (congrArg (fun z : Nat => Value.int .u8 (z : Int)) (vm_f (.inr hc3))), trivial⟩
          · exact ⟨hB, hm0_0, hm1_5, hm2_5, hm5_6, (by omega), trivial⟩
          · first | omega | (dsimp only; omega)
        ·
         try with_reducible replace hs13_5 := of_decide_eq_false hs13_5
         refine WL_skip (dd := some 87) rfl rfl rfl ?_
         refine WL_skip (dd := some 88) rfl rfl rfl ?_
         refine WL_skip (dd := some 89) rfl rfl rfl ?_
         refine WL_skip (dd := some 90) rfl rfl rfl ?_
         refine WL_skip (dd := some 91) rfl rfl rfl ?_
         refine WL_val (dd := some 92) rfl rfl rfl (r_pick_f rfl (v := .bool false) rfl) ?_
         refine WL_nil ?_
         refine hK259 _ _ ?_
         clear hK259 K258
         refine WC_cond_false rfl ?_
         refine WC_skip ?_
         refine hK257 _ _ ?_
         clear hK257 K256
         refine WC_region ?_
         refine WL_val (dd := some 96) rfl rfl rfl (r_move (v := .int .u8 _) rfl) ?_
         refine WL_val (dd := some 97) rfl rfl rfl (r_mulW8 (n := 2) rfl rfl rfl) ?_
         refine WL_val (dd := some 12) rfl rfl rfl (r_assign (v := .int .u8 _) rfl) ?_
         refine WL_nil ?_
         refine hK255 _ _ ?_
         clear hK255 K254
         refine WC_region ?_
         refine WL_val (dd := some 79) rfl rfl rfl (r_move (v := .int .i64 _) rfl) ?_
         refine WL_val (dd := some 80) rfl rfl rfl (r_addI rfl rfl (by omega) (by omega)) ?_
         refine WL_val (dd := some 13) rfl rfl rfl (r_assign (v := .int .i64 _) rfl) ?_
         refine WL_nil ?_
         refine hJ249 _ _ (i + 1) ?_ ?_ ?_ ?_
         · repeat (first | exact agree.mask _ _ _ | refine agree.updo ?_ rfl _ | refine agree.updL ?_ _ rfl | refine agree.maskS rfl ?_)
         · exact ⟨rfl, rfl, (congrArg (fun z : Nat => Value.int .u8 (z : Int)) (vm_f (.inl hs13_5))), trivial⟩
         · exact ⟨hB, hm0_0, hm1_5, hm2_5, hm5_6, (by omega), trivial⟩
         · first | omega | (dsimp only; omega)
       ·
        try with_reducible replace hc2 := of_decide_eq_false hc2
        refine WC_exit ?_
        refine hK243 _ _ ?_
        clear hK251 K250
        clear hJ249 J248
        clear hK243 K242
        refine WC_seq (fun K266 hK267 => ?_)
        obtain rfl : i = 8 := by omega
        refine WC_region ?_
        refine WL_val (dd := some 98) rfl rfl rfl (r_loadW rfl tb_ag57 rfl hm5_6) ?_
        refine WL_val (dd := some 99) rfl rfl rfl (r_fieldAddr (b := _) (o := _) rfl tb_fo57_0) ?_
        refine WL_val (dd := some 100) rfl rfl rfl (r_fieldAddr (b := _) (o := _) rfl tb_fo55_0) ?_
        refine WL_val (dd := some 101) rfl rfl rfl (r_load1 (v := .int .u8 _) rfl tb_sc5 (At.cell hm0_0 rfl)) ?_
        refine WL_val (dd := some 102) rfl rfl rfl (r_move (v := .int .u8 _) rfl) ?_
        refine WL_val (dd := some 103) rfl rfl rfl (tb_build55_0_1 (h0 := rfl) (k0 := rfl) (h1 := rfl) (k1 := rfl) (c0_0 := .int .u8 _) (c1_0 := .int .u8 _)) ?_
        refine WL_val (dd := some 104) rfl rfl rfl (r_fieldAddr (b := _) (o := _) rfl tb_fo57_1) ?_
        refine WL_val (dd := some 105) rfl rfl rfl (r_load1 (v := .int .u8 _) rfl tb_sc5 (At.cell hm0_0 rfl)) ?_
        refine WL_val (dd := some 106) rfl rfl rfl (r_remN (n := 16) rfl rfl rfl (by omega)) ?_
        refine WL_val (dd := some 107) rfl rfl rfl (tb_build57_0_1 (h0 := rfl) (h1 := rfl) (k1 := rfl) (c1_0 := .int .u8 _)) ?_
        refine WL_val (dd := some 108) rfl rfl rfl (tb_eq57 rfl rfl) ?_
        refine WL_split (dd := some 109) rfl rfl rfl (r_move (v := .bool _) rfl) (fun hs16_11 => ?_) (fun hs16_11 => ?_)
        ·
         try with_reducible replace hs16_11 := of_decide_eq_true hs16_11
         refine WL_val (dd := some 110) rfl rfl rfl (r_move (v := .int .i64 _) rfl) ?_
         refine WL_val (dd := some 111) rfl rfl rfl (r_eql rfl rfl) ?_
         refine WL_val (dd := some 112) rfl rfl rfl (r_pick_t rfl (v := .bool _) rfl) ?_
         refine WL_split (dd := some 113) rfl rfl rfl (r_move (v := .bool _) rfl) (fun hs16_15 => ?_) (fun hs16_15 => ?_)
         ·
          try with_reducible replace hs16_15 := of_decide_eq_true hs16_15
          refine WL_call (dd := some 114) rfl rfl rfl (r_call0 tb_c53) (C_drawknifelaw11_knows _) (fun v16_16 W268 hE269 hP16_16 => ?_)
          have hsz270 := (Below.size hB)
          replace hB := below_ext hB hE269 (Nat.le_refl _)
          replace hm0_0 := hE269.at hm0_0
          replace hm1_5 := hE269.at hm1_5
          replace hm2_5 := hE269.at hm2_5
          replace hm5_6 := hE269.at hm5_6
          clear hE269
          obtain rfl := hP16_16
          clear hsz270
          refine WL_val (dd := some 115) rfl rfl rfl (r_pick_t rfl (v := .bool true) rfl) ?_
          refine WL_val (dd := some 4) rfl rfl rfl (r_assign (v := .bool true) rfl) ?_
          refine WL_nil ?_
          refine hK267 _ _ ?_
          clear hK267 K266
          refine WC_ret ?_
          repeat (first | refine thenQ_ret ?_ | refine blockQ_ret ?_)
          refine ret_t (v := .bool true) rfl ?_
          refine ⟨hB, ?_⟩
          rfl
         ·
          try with_reducible replace hs16_15 := of_decide_eq_false hs16_15
          exact absurd (by rw [if_pos hyes]) hs16_15
        ·
         try with_reducible replace hs16_11 := of_decide_eq_false hs16_11
         exact absurd (by rw [hrm]; exact ⟨rfl, by show ((x.c.v &&& x.c.m : Nat) : Int) = _; rw [← vm_e hbx.1], rfl⟩) hs16_11

set_option maxRecDepth 20000 in
theorem C_drawknifelaw11_TaggedPrimes (s : Nat) (n : Int) (w : World) :
    Fn Try.prog 15 #[setV s, .int .i64 n] w fun v w' => v = .bool true := by
 refine Fn_intro (n := 106) Try.func15 rfl rfl (Nat.le_of_ble_eq_true rfl) ?_
 have hB : Below w.heap.size w w := Below.refl _ _
 refine WC_seq (fun K1 hK2 => ?_)
 refine WC_region ?_
 refine WL_step (dd := some 2) rfl rfl rfl (Y_box (c := #[_, _, _, _]) rfl rfl (fun b0_0 W3 hb4 hE5 hm0_0 => ?_))
 have lo_b0_0 : w.heap.size ≤ b0_0 := hb4 ▸ (Below.size hB)
 clear hb4
 replace hB := below_ext hB hE5 (Nat.le_refl _)
 clear hE5
 refine WL_val (dd := some 4) rfl rfl rfl (r_assign (v := .bool false) rfl) ?_
 refine WL_nil ?_
 refine hK2 _ _ ?_
 clear hK2 K1
 refine WC_seq (fun K6 hK7 => ?_)
 refine WC_region ?_
 refine WL_call (dd := some 17) rfl rfl rfl (r_call1 tb_c31 (v0 := .int .i64 20000) rfl) (C_zdd_New 20000 _ (by omega)) (fun v1_0 W8 hE9 hP1_0 => ?_)
 have hsz10 := (Below.size hB)
 replace hB := below_ext hB hE9 (Nat.le_refl _)
 replace hm0_0 := hE9.at hm0_0
 clear hE9
 obtain ⟨bz, ba, bm, rfl, hz, hD⟩ := hP1_0
 replace hD := Dia.mono hD hsz10
 clear hsz10
 refine WL_val (dd := some 16) rfl rfl rfl (r_move (v := .tuple #[.pointer (some ⟨bz, 0, none⟩), .int .i64 0]) rfl) ?_
 refine WL_val (dd := some 18) rfl rfl rfl (r_ext2_0 (h := rfl)) ?_
 refine WL_val (dd := some 19) rfl rfl rfl (r_ext2_1 (h := rfl)) ?_
 refine WL_val (dd := some 5) rfl rfl rfl (r_assign (v := .pointer (some ⟨bz, 0, none⟩)) rfl) ?_
 refine WL_val (dd := some 6) rfl rfl rfl (r_assign (v := .int .i64 0) rfl) ?_
 refine WL_nil ?_
 refine hK7 _ _ ?_
 clear hK7 K6
 refine WC_seq (fun K11 hK12 => ?_)
 refine WC_seq (fun K13 hK14 => ?_)
 refine WC_region ?_
 refine WL_val (dd := some 20) rfl rfl rfl (r_move (v := .pointer (some ⟨bz, 0, none⟩)) rfl) ?_
 refine WL_val (dd := some 21) rfl rfl rfl (r_ptrNil rfl rfl Try.underlying24) ?_
 refine WL_val (dd := some 22) rfl rfl rfl (r_move (v := .bool false) rfl) ?_
 refine WL_val (dd := some 23) rfl rfl rfl (r_move (v := .int .i64 0) rfl) ?_
 refine WL_val (dd := some 24) rfl rfl rfl (r_neq rfl rfl) ?_
 refine WL_val (dd := some 25) rfl rfl rfl (r_pick_f rfl (v := .bool _) rfl) ?_
 refine WL_nil ?_
 refine hK14 _ _ ?_
 clear hK14 K13
 refine WC_cond (b := _) rfl (fun hc0 => ?_) (fun hc0 => ?_)
 ·
  try with_reducible replace hc0 := of_decide_eq_true hc0
  exact absurd rfl hc0
 ·
  try with_reducible replace hc0 := of_decide_eq_false hc0
  refine WC_skip ?_
  refine hK12 _ _ ?_
  clear hK12 K11
  refine WC_seq (fun K15 hK16 => ?_)
  refine WC_region ?_
  refine WL_val (dd := some 26) rfl rfl rfl (r_loadW rfl tb_ag69 rfl hm0_0) ?_
  refine WL_val (dd := some 27) rfl rfl rfl (r_move (v := .int .i64 _) rfl) ?_
  refine WL_call (dd := some 28) rfl rfl rfl (r_call2 tb_c60 (v0 := .agg #[_, _, _, _]) rfl (v1 := .int .i64 _) rfl) (C_drawkniferef09_Of _ _ _) (fun v4_2 W17 hE18 hP4_2 => ?_)
  have hsz19 := (Below.size hB)
  replace hB := below_ext hB hE18 (Nat.le_refl _)
  replace hm0_0 := hE18.at hm0_0
  replace hD := Dia.ext hE18 hD
  replace hz := hE18.at hz
  clear hE18
  clear hsz19
  obtain rfl := hP4_2
  refine WL_val (dd := some 7) rfl rfl rfl (r_assign (v := .bool _) rfl) ?_
  refine WL_nil ?_
  refine hK16 _ _ ?_
  clear hK16 K15
  refine WC_seq (fun K20 hK21 => ?_)
  refine WC_seq (fun K22 hK23 => ?_)
  refine WC_region ?_
  refine WL_val (dd := some 29) rfl rfl rfl (r_move (v := .bool _) rfl) ?_
  refine WL_split (dd := some 30) rfl rfl rfl (r_move (v := .bool _) rfl) (fun hs5_1 => ?_) (fun hs5_1 => ?_)
  ·
   try with_reducible replace hs5_1 := of_decide_eq_true hs5_1
   refine WL_val (dd := some 31) rfl rfl rfl (r_move (v := .int .i64 _) rfl) ?_
   refine WL_val (dd := some 32) rfl rfl rfl (r_gtr rfl rfl) ?_
   refine WL_val (dd := some 33) rfl rfl rfl (r_pick_t rfl (v := .bool _) rfl) ?_
   refine WL_nil ?_
   refine hK23 _ _ ?_
   clear hK23 K22
   refine WC_cond (b := _) rfl (fun hc1 => ?_) (fun hc1 => ?_)
   ·
    try with_reducible replace hc1 := of_decide_eq_true hc1
    refine WC_seq (fun K24 hK25 => ?_)
    refine WC_region ?_
    refine WL_call (dd := some 34) rfl rfl rfl (r_call0 tb_c53) (C_drawknifelaw11_knows _) (fun v6_0 W26 hE27 hP6_0 => ?_)
    have hsz28 := (Below.size hB)
    replace hB := below_ext hB hE27 (Nat.le_refl _)
    replace hm0_0 := hE27.at hm0_0
    replace hD := Dia.ext hE27 hD
    replace hz := hE27.at hz
    clear hE27
    obtain rfl := hP6_0
    clear hsz28
    refine WL_val (dd := some 4) rfl rfl rfl (r_assign (v := .bool true) rfl) ?_
    refine WL_nil ?_
    refine hK25 _ _ ?_
    clear hK25 K24
    refine WC_ret ?_
    repeat (first | refine thenQ_ret ?_ | refine blockQ_ret ?_)
    try clear hK21 K20
    refine ret_t (v := .bool true) rfl ?_
    refine ⟨hB, ?_⟩
    rfl
   ·
    try with_reducible replace hc1 := of_decide_eq_false hc1
    refine WC_skip ?_
    refine hK21 _ _ ?_
    clear hK21 K20
    refine WC_seq (fun K29 hK30 => ?_)
    obtain ⟨nn, rfl⟩ := Int.eq_ofNat_of_zero_le (of_nn hs5_1)
    have h6 : nn ≤ 6 := by omega
    refine WC_region ?_
    refine WL_val (dd := some 36) rfl rfl rfl (r_move (v := .pointer (some ⟨bz, 0, none⟩)) rfl) ?_
    refine WL_val (dd := some 37) rfl rfl rfl (r_loadW rfl tb_ag69 rfl hm0_0) ?_
    refine WL_val (dd := some 38) rfl rfl rfl (r_move (v := .int .i64 _) rfl) ?_
    refine WL_callG (dd := some 39) rfl rfl rfl (r_call3 tb_c61 (v0 := .pointer (some ⟨bz, 0, none⟩)) rfl (v1 := .agg #[_, _, _, _]) rfl (v2 := .int .i64 _) rfl) (C_tagged_Primes _ _ _ _ _ _ s nn _ (Below.size hB) hz hD hs5_1) (fun v7_3 W31 hP7_3 => ?_)
    obtain ⟨ns7_3, id7_3, er7_3, rfl, hx7_3, hDn7_3, hg7_3⟩ := hP7_3
    replace hB := Below.dx hB (Nat.le_refl _) (Nat.le_refl _) hx7_3
    replace hm0_0 := At.dx hD hx7_3 hm0_0 (by decide) (by decide)
    replace hz := At.dx hD hx7_3 hz (by decide) (by decide)
    replace hD := hDn7_3
    refine WL_val (dd := some 35) rfl rfl rfl (r_move (v := .tuple #[.int .i64 (id7_3 : Int), .int .i64 er7_3]) rfl) ?_
    refine WL_val (dd := some 40) rfl rfl rfl (r_ext2_0 (h := rfl)) ?_
    refine WL_val (dd := some 41) rfl rfl rfl (r_ext2_1 (h := rfl)) ?_
    refine WL_val (dd := some 8) rfl rfl rfl (r_assign (v := .int .i64 _) rfl) ?_
    refine WL_val (dd := some 9) rfl rfl rfl (r_assign (v := .int .i64 _) rfl) ?_
    refine WL_nil ?_
    refine hK30 _ _ ?_
    clear hK30 K29
    refine WC_seq (fun K33 hK34 => ?_)
    refine WC_seq (fun K35 hK36 => ?_)
    refine WC_region ?_
    refine WL_val (dd := some 42) rfl rfl rfl (r_move (v := .bool _) rfl) ?_
    refine WL_val (dd := some 43) rfl rfl rfl (r_not rfl) ?_
    refine WL_nil ?_
    refine hK36 _ _ ?_
    clear hK36 K35
    refine WC_cond (b := _) rfl (fun hc2 => ?_) (fun hc2 => ?_)
    ·
     try with_reducible replace hc2 := of_decide_eq_true hc2
     exact absurd (not_t' hc2) (by rw [hs5_1]; decide)
    ·
     try with_reducible replace hc2 := of_decide_eq_false hc2
     refine WC_skip ?_
     refine hK34 _ _ ?_
     clear hK34 K33
     refine WC_seq (fun K37 hK38 => ?_)
     obtain ⟨he7, hm7, hl7⟩ := pr_ok hg7_3 (by have := tC_6 h6; simp only [List.length_nil]; omega)
     subst he7
     have hI := pr_is hg7_3.1.v hm7
     have h8 : nn ≤ 8 := by omega
     have hpl := primesL_len (s := s) (n := (nn : Int)) (by omega)
     have hml := memsP_len (s := s) h8
     have hw10 := hD.wf
     have hro10 := hD.room
     have hto10 := hD.top
     have hv10 := hI.v
     refine WC_region ?_
     refine WL_val (dd := some 54) rfl rfl rfl (r_loadW rfl tb_ag69 rfl hm0_0) ?_
     refine WL_val (dd := some 55) rfl rfl rfl (r_move (v := .int .i64 _) rfl) ?_
     refine WL_call (dd := some 56) rfl rfl rfl (r_call2 tb_c62 (v0 := .agg #[_, _, _, _]) rfl (v1 := .int .i64 _) rfl) (C_prime_All _ _ _) (fun v10_2 W39 hE40 hP10_2 => ?_)
     have hsz41 := (Below.size hB)
     replace hB := below_ext hB hE40 (Nat.le_refl _)
     replace hm0_0 := hE40.at hm0_0
     replace hD := Dia.ext hE40 hD
     replace hz := hE40.at hz
     clear hE40
     rw [if_pos hs5_1] at hP10_2
     obtain ⟨xl, rfl, hol⟩ := hP10_2
     replace hol := OwT.mono hol hsz41
     clear hsz41
     refine WL_val (dd := some 53) rfl rfl rfl (r_move (v := .tuple #[xl, .int .i64 0]) rfl) ?_
     refine WL_val (dd := some 57) rfl rfl rfl (r_ext2_0 (h := rfl)) ?_
     refine WL_val (dd := some 58) rfl rfl rfl (r_ext2_1 (h := rfl)) ?_
     refine WL_val (dd := some 10) rfl rfl rfl (r_assign (v := xl) rfl) ?_
     refine WL_val (dd := some 11) rfl rfl rfl (r_assign (v := .int .i64 0) rfl) ?_
     refine WL_nil ?_
     refine hK38 _ _ ?_
     clear hK38 K37
     refine WC_seq (fun K42 hK43 => ?_)
     refine WC_region ?_
     refine WL_val (dd := some 12) rfl rfl rfl (r_assign (v := .slice none 0 0) rfl) ?_
     refine WL_nil ?_
     refine hK43 _ _ ?_
     clear hK43 K42
     refine WC_seq (fun K44 hK45 => ?_)
     refine WC_seq (fun K46 hK47 => ?_)
     refine WC_region ?_
     refine WL_val (dd := some 13) rfl rfl rfl (r_assign (v := .int .i64 0) rfl) ?_
     refine WL_nil ?_
     refine hK47 _ _ ?_
     clear hK47 K46
     refine WC_block ?_
     refine WC_loop (σ := (Nat) × (Value)) [12, 13, 59, 60, 61, 62, 63, 64, 65, 66, 67, 68, 69, 70, 71, 72] (fun (k, v0) => [(13, .int .i64 (k : Int)), (12, v0)]) (fun sg W => match sg with | (k, v0) => (Below w.heap.size w W) ∧ (At W b0_0 _ 69) ∧ (Dia 147 150 w.heap.size ba bm 20000 W ns7_3) ∧ (At W bz _ 100) ∧ (OwT encC 2 55 W w.heap.size xl _) ∧ (OwT encR 3 57 W w.heap.size v0 (((primesL s (nn : Int)).take k).map (fun c => (⟨c, 0⟩ : Rw)))) ∧ (k ≤ (primesL s (nn : Int)).length) ∧ (True)) (fun (k, v0) => (primesL s (nn : Int)).length - k) ((0, .slice none 0 0)) ⟨rfl, rfl, trivial⟩ ⟨hB, hm0_0, hD, hz, hol, (by simp only [List.take_zero, List.map_nil]; exact OwT.nil), (Nat.zero_le _), trivial⟩ ?_
     clear hB hm0_0 hD hz hol
     rintro ⟨k, v0⟩ g49 W48 ⟨hB, hm0_0, hD, hz, hol, ho, hk, _⟩ J50 hJ51
     refine WC_seq (fun K52 hK53 => ?_)
     refine WC_seq (fun K54 hK55 => ?_)
     refine WC_region ?_
     refine WL_val (dd := some 59) rfl rfl rfl (r_move (v := .int .i64 _) rfl) ?_
     refine WL_val (dd := some 60) rfl rfl rfl (r_move (v := xl) rfl) ?_
     refine WL_val (dd := some 61) rfl rfl rfl (r_lenS (v := xl) rfl hol.sl tb_el72) ?_
     refine WL_val (dd := some 62) rfl rfl rfl (r_lss rfl rfl) ?_
     refine WL_nil ?_
     refine hK55 _ _ ?_
     clear hK55 K54
     refine WC_cond (b := _) rfl (fun hc3 => ?_) (fun hc3 => ?_)
     ·
      try with_reducible replace hc3 := of_decide_eq_true hc3
      refine WC_skip ?_
      refine hK53 _ _ ?_
      clear hK53 K52
      refine WC_seq (fun K56 hK57 => ?_)
      refine WC_block ?_
      have hmk : (((primesL s (nn : Int)).take k).map (fun c => (⟨c, 0⟩ : Rw))).length ≤ 65536 := by simp; omega
      refine WC_region ?_
      refine WL_val (dd := some 65) rfl rfl rfl (r_move (v := v0) rfl) ?_
      refine WL_val (dd := some 66) rfl rfl rfl (r_move (v := xl) rfl) ?_
      refine WL_val (dd := some 67) rfl rfl rfl (r_move (v := .int .i64 _) rfl) ?_
      refine WL_val (dd := some 68) rfl rfl rfl (r_idxS (v := xl) rfl hol.sl rfl tb_el72 (by omega) (by omega)) ?_
      refine WL_val (dd := some 69) rfl rfl rfl (r_load2 rfl tb_ag55 (SlT.cell hol.sl encC_len ⟨0, 0⟩ (by omega) (by omega) 0 rfl) (SlT.cell hol.sl encC_len ⟨0, 0⟩ (by omega) (by omega) 1 rfl)) ?_
      refine WL_val (dd := some 70) rfl rfl rfl (tb_build57_0 (h0 := rfl) ) ?_
      refine WL_step (dd := some 71) rfl rfl rfl (Y_lit1 (u := .agg #[_, _, _]) rfl tb_el75 tb_zs57 rfl (by decide) (by decide) (fun b15_6 W58 hb59 hE60 hm15_6 => ?_))
      have lo_b15_6 : w.heap.size ≤ b15_6 := hb59 ▸ (Below.size hB)
      have no_v0_b15_6 := OwT.neB (b := b15_6) ho (Nat.le_of_eq hb59.symm)
      clear hb59
      replace hB := below_ext hB hE60 (Nat.le_refl _)
      replace hm0_0 := hE60.at hm0_0
      replace hD := Dia.ext hE60 hD
      replace hz := hE60.at hz
      replace hol := hE60.ow hol
      replace ho := hE60.ow ho
      clear hE60
      refine WL_step (dd := some 72) rfl rfl rfl (Y_append (v := v0) (v2 := .slice (some ⟨b15_6, 0, none⟩) 1 1) rfl rfl tb_el75 tb_zs57 (by decide) ho (sl_lit1 hm15_6 rfl) rfl (by have := Below.size hB; omega) (by first | omega | (simp; omega)) (by first | omega | (simp; omega)) (fun v15_7 W61 hG62 ho15_7 => ?_))
      replace ho15_7 := OwT.snoc (enc := encR) (x := ⟨(primesL s (nn : Int)).getD k ⟨0, 0⟩, 0⟩) rfl rfl rfl rfl ho15_7
      clear hm15_6
      replace hB := below_grown hB hG62 (Nat.le_refl _) (fun j hj => (OwT.lt ho j hj))
      replace hm0_0 := At.grownOw hm0_0 ho hG62 (by decide)
      replace hD := Dia.grownOw hD ho hG62 (by decide) (by decide)
      replace hz := At.grownOw hz ho hG62 (by decide)
      replace hol := OwT.grownOw hol ho hG62 (by decide)
      clear hG62
      clear ho
      refine WL_val (dd := some 12) rfl rfl rfl (r_assign (v := v15_7) rfl) ?_
      refine WL_nil ?_
      refine hK57 _ _ ?_
      clear hK57 K56
      refine WC_region ?_
      refine WL_val (dd := some 63) rfl rfl rfl (r_move (v := .int .i64 _) rfl) ?_
      refine WL_val (dd := some 64) rfl rfl rfl (r_addI rfl rfl (by omega) (by omega)) ?_
      refine WL_val (dd := some 13) rfl rfl rfl (r_assign (v := .int .i64 _) rfl) ?_
      refine WL_nil ?_
      refine hJ51 _ _ ((k + 1, v15_7)) ?_ ?_ ?_ ?_
      · repeat (first | exact agree.mask _ _ _ | refine agree.updo ?_ rfl _ | refine agree.updL ?_ _ rfl | refine agree.maskS rfl ?_)
      · exact ⟨rfl, rfl, trivial⟩
      · exact ⟨hB, hm0_0, hD, hz, hol, (by rw [← rwP_s (by omega)]; exact ho15_7), (by omega), trivial⟩
      · show (primesL s (nn : Int)).length - (k + 1) < (primesL s (nn : Int)).length - k; omega
     ·
      try with_reducible replace hc3 := of_decide_eq_false hc3
      refine WC_exit ?_
      refine hK45 _ _ ?_
      clear hK53 K52
      clear hJ51 J50
      clear hK45 K44
      refine WC_seq (fun K64 hK65 => ?_)
      obtain rfl : k = (primesL s (nn : Int)).length := by omega
      rw [rwP_e] at ho
      have hrl := rwP_len (s := s) (n := nn)
      have hcn := hI.cnt hw10
      refine WC_region ?_
      refine WL_val (dd := some 74) rfl rfl rfl (r_move (v := .pointer (some ⟨bz, 0, none⟩)) rfl) ?_
      refine WL_val (dd := some 75) rfl rfl rfl (r_move (v := .int .i64 _) rfl) ?_
      refine WL_call (dd := some 76) rfl rfl rfl (r_call2 tb_c37 (v0 := .pointer (some ⟨bz, 0, none⟩)) rfl (v1 := .int .i64 _) rfl) (C___zdd_Zdd__List _ _ _ _ _ _ _ _ hz hD (by omega)) (fun v16_2 W66 hE67 hP16_2 => ?_)
      have hsz68 := (Below.size hB)
      replace hB := below_ext hB hE67 (Nat.le_refl _)
      replace hm0_0 := hE67.at hm0_0
      replace hD := Dia.ext hE67 hD
      replace hz := hE67.at hz
      replace hol := hE67.ow hol
      replace ho := hE67.ow ho
      clear hE67
      obtain ⟨x16_2, rfl, hsl16_2, hty16_2⟩ := list_is hI hw10 (by omega) hP16_2
      clear hsz68
      refine WL_val (dd := some 73) rfl rfl rfl (r_move (v := .tuple #[x16_2, .int .i64 0]) rfl) ?_
      refine WL_val (dd := some 77) rfl rfl rfl (r_ext2_0 (h := rfl)) ?_
      refine WL_val (dd := some 78) rfl rfl rfl (r_ext2_1 (h := rfl)) ?_
      refine WL_val (dd := some 14) rfl rfl rfl (r_assign (v := x16_2) rfl) ?_
      refine WL_val (dd := some 15) rfl rfl rfl (r_assign (v := .int .i64 0) rfl) ?_
      refine WL_nil ?_
      refine hK65 _ _ ?_
      clear hK65 K64
      refine WC_seq (fun K69 hK70 => ?_)
      refine WC_region ?_
      refine WL_val (dd := some 79) rfl rfl rfl (r_move (v := .int .i64 _) rfl) ?_
      refine WL_val (dd := some 80) rfl rfl rfl (r_eql rfl rfl) ?_
      refine WL_split (dd := some 81) rfl rfl rfl (r_move (v := .bool _) rfl) (fun hs17_2 => ?_) (fun hs17_2 => ?_)
      ·
       try with_reducible replace hs17_2 := of_decide_eq_true hs17_2
       refine WL_val (dd := some 82) rfl rfl rfl (r_move (v := .int .i64 0) rfl) ?_
       refine WL_val (dd := some 83) rfl rfl rfl (r_eql rfl rfl) ?_
       refine WL_val (dd := some 84) rfl rfl rfl (r_pick_t rfl (v := .bool _) rfl) ?_
       refine WL_split (dd := some 85) rfl rfl rfl (r_move (v := .bool _) rfl) (fun hs17_6 => ?_) (fun hs17_6 => ?_)
       ·
        try with_reducible replace hs17_6 := of_decide_eq_true hs17_6
        refine WL_val (dd := some 86) rfl rfl rfl (r_move (v := .int .i64 0) rfl) ?_
        refine WL_val (dd := some 87) rfl rfl rfl (r_eql rfl rfl) ?_
        refine WL_val (dd := some 88) rfl rfl rfl (r_pick_t rfl (v := .bool _) rfl) ?_
        refine WL_split (dd := some 89) rfl rfl rfl (r_move (v := .bool _) rfl) (fun hs17_10 => ?_) (fun hs17_10 => ?_)
        ·
         try with_reducible replace hs17_10 := of_decide_eq_true hs17_10
         refine WL_val (dd := some 90) rfl rfl rfl (r_move (v := x16_2) rfl) ?_
         refine WL_val (dd := some 91) rfl rfl rfl (r_move (v := v0) rfl) ?_
         refine WL_call (dd := some 92) rfl rfl rfl (r_call1 tb_c63 (v0 := v0) rfl) (C_drawkniferef11_Members _ (rwP s nn) _ ho.sl (by omega) (rwP_lt h8)) (fun v17_13 W71 hE72 hP17_13 => ?_)
         have hsz73 := (Below.size hB)
         replace hB := below_ext hB hE72 (Nat.le_refl _)
         replace hm0_0 := hE72.at hm0_0
         replace hD := Dia.ext hE72 hD
         replace hz := hE72.at hz
         replace hol := hE72.ow hol
         replace ho := hE72.ow ho
         replace hsl16_2 := hE72.slT hsl16_2
         replace hty16_2 := TyS.ext hE72 hty16_2
         clear hE72
         replace hP17_13 := OwT.mono hP17_13 hsz73
         clear hsz73
         refine WL_call (dd := some 93) rfl rfl rfl (r_call2 tb_c24 (v0 := x16_2) rfl (v1 := v17_13) rfl) (C_drawkniferef08_Same _ _ (memsP s nn) (memsT (rwP s nn) (rwP s nn).length) _ hsl16_2 hP17_13.sl (by omega) (by have := mems_len (rwP s nn) (rwP s nn).length; omega)) (fun v17_14 W74 hE75 hP17_14 => ?_)
         have hsz76 := (Below.size hB)
         replace hB := below_ext hB hE75 (Nat.le_refl _)
         replace hm0_0 := hE75.at hm0_0
         replace hD := Dia.ext hE75 hD
         replace hz := hE75.at hz
         replace hol := hE75.ow hol
         replace ho := hE75.ow ho
         replace hsl16_2 := hE75.slT hsl16_2
         replace hty16_2 := TyS.ext hE75 hty16_2
         replace hP17_13 := hE75.ow hP17_13
         clear hE75
         clear hsz76
         obtain rfl := hP17_14
         refine WL_val (dd := some 94) rfl rfl rfl (r_pick_t rfl (v := .bool _) rfl) ?_
         refine WL_split (dd := some 95) rfl rfl rfl (r_move (v := .bool _) rfl) (fun hs17_16 => ?_) (fun hs17_16 => ?_)
         ·
          try with_reducible replace hs17_16 := of_decide_eq_true hs17_16
          refine WL_val (dd := some 96) rfl rfl rfl (r_move (v := .pointer (some ⟨bz, 0, none⟩)) rfl) ?_
          refine WL_val (dd := some 97) rfl rfl rfl (r_move (v := .int .i64 _) rfl) ?_
          refine WL_call (dd := some 98) rfl rfl rfl (r_call2 tb_c39 (v0 := .pointer (some ⟨bz, 0, none⟩)) rfl (v1 := .int .i64 _) rfl) (CountAll (id7_3 + 1) _ _ _ _ _ _ _ _ hz hD (by omega) (by omega)) (fun v17_19 W77 hE78 hP17_19 => ?_)
          have hsz79 := (Below.size hB)
          replace hB := below_ext hB hE78 (Nat.le_refl _)
          replace hm0_0 := hE78.at hm0_0
          replace hD := Dia.ext hE78 hD
          replace hz := hE78.at hz
          replace hol := hE78.ow hol
          replace ho := hE78.ow ho
          replace hsl16_2 := hE78.slT hsl16_2
          replace hty16_2 := TyS.ext hE78 hty16_2
          replace hP17_13 := hE78.ow hP17_13
          clear hE78
          clear hsz79
          obtain rfl := hP17_19
          refine WL_val (dd := some 99) rfl rfl rfl (r_move (v := xl) rfl) ?_
          refine WL_val (dd := some 100) rfl rfl rfl (r_lenS (v := xl) rfl hol.sl tb_el72) ?_
          refine WL_val (dd := some 101) rfl rfl rfl (r_eql rfl rfl) ?_
          refine WL_val (dd := some 102) rfl rfl rfl (r_pick_t rfl (v := .bool _) rfl) ?_
          refine WL_split (dd := some 103) rfl rfl rfl (r_move (v := .bool _) rfl) (fun hs17_24 => ?_) (fun hs17_24 => ?_)
          ·
           try with_reducible replace hs17_24 := of_decide_eq_true hs17_24
           refine WL_call (dd := some 104) rfl rfl rfl (r_call0 tb_c53) (C_drawknifelaw11_knows _) (fun v17_25 W80 hE81 hP17_25 => ?_)
           have hsz82 := (Below.size hB)
           replace hB := below_ext hB hE81 (Nat.le_refl _)
           replace hm0_0 := hE81.at hm0_0
           replace hD := Dia.ext hE81 hD
           replace hz := hE81.at hz
           replace hol := hE81.ow hol
           replace ho := hE81.ow ho
           replace hsl16_2 := hE81.slT hsl16_2
           replace hty16_2 := TyS.ext hE81 hty16_2
           replace hP17_13 := hE81.ow hP17_13
           clear hE81
           obtain rfl := hP17_25
           clear hsz82
           refine WL_val (dd := some 105) rfl rfl rfl (r_pick_t rfl (v := .bool true) rfl) ?_
           refine WL_val (dd := some 4) rfl rfl rfl (r_assign (v := .bool true) rfl) ?_
           refine WL_nil ?_
           refine hK70 _ _ ?_
           clear hK70 K69
           refine WC_ret ?_
           repeat (first | refine thenQ_ret ?_ | refine blockQ_ret ?_)
           refine ret_t (v := .bool true) rfl ?_
           refine ⟨hB, ?_⟩
           rfl
          ·
           try with_reducible replace hs17_24 := of_decide_eq_false hs17_24
           exact absurd (by rw [hcn, hml]) hs17_24
         ·
          try with_reducible replace hs17_16 := of_decide_eq_false hs17_16
          exact absurd rfl hs17_16
        ·
         try with_reducible replace hs17_10 := of_decide_eq_false hs17_10
         exact absurd rfl hs17_10
       ·
        try with_reducible replace hs17_6 := of_decide_eq_false hs17_6
        exact absurd rfl hs17_6
      ·
       try with_reducible replace hs17_2 := of_decide_eq_false hs17_2
       exact absurd rfl hs17_2
  ·
   try with_reducible replace hs5_1 := of_decide_eq_false hs5_1
   refine WL_skip (dd := some 31) rfl rfl rfl ?_
   refine WL_skip (dd := some 32) rfl rfl rfl ?_
   refine WL_val (dd := some 33) rfl rfl rfl (r_pick_f rfl (v := .bool false) rfl) ?_
   refine WL_nil ?_
   refine hK23 _ _ ?_
   clear hK23 K22
   refine WC_cond_false rfl ?_
   refine WC_skip ?_
   refine hK21 _ _ ?_
   clear hK21 K20
   refine WC_seq (fun K83 hK84 => ?_)
   refine WC_region ?_
   refine WL_val (dd := some 36) rfl rfl rfl (r_move (v := .pointer (some ⟨bz, 0, none⟩)) rfl) ?_
   refine WL_val (dd := some 37) rfl rfl rfl (r_loadW rfl tb_ag69 rfl hm0_0) ?_
   refine WL_val (dd := some 38) rfl rfl rfl (r_move (v := .int .i64 _) rfl) ?_
   refine WL_call (dd := some 39) rfl rfl rfl (r_call3 tb_c61 (v0 := .pointer (some ⟨bz, 0, none⟩)) rfl (v1 := .agg #[_, _, _, _]) rfl (v2 := .int .i64 _) rfl) (C_Primes_arg 0 0 0 bz 0 [] s n _ hs5_1) (fun v7_3 W85 hE86 hP7_3 => ?_)
   have hsz87 := (Below.size hB)
   replace hB := below_ext hB hE86 (Nat.le_refl _)
   replace hm0_0 := hE86.at hm0_0
   replace hD := Dia.ext hE86 hD
   replace hz := hE86.at hz
   clear hE86
   obtain rfl := hP7_3
   clear hsz87
   refine WL_val (dd := some 35) rfl rfl rfl (r_move (v := .tuple #[.int .i64 _, .int .i64 _]) rfl) ?_
   refine WL_val (dd := some 40) rfl rfl rfl (r_ext2_0 (h := rfl)) ?_
   refine WL_val (dd := some 41) rfl rfl rfl (r_ext2_1 (h := rfl)) ?_
   refine WL_val (dd := some 8) rfl rfl rfl (r_assign (v := .int .i64 _) rfl) ?_
   refine WL_val (dd := some 9) rfl rfl rfl (r_assign (v := .int .i64 _) rfl) ?_
   refine WL_nil ?_
   refine hK84 _ _ ?_
   clear hK84 K83
   refine WC_seq (fun K88 hK89 => ?_)
   refine WC_seq (fun K90 hK91 => ?_)
   refine WC_region ?_
   refine WL_val (dd := some 42) rfl rfl rfl (r_move (v := .bool _) rfl) ?_
   refine WL_val (dd := some 43) rfl rfl rfl (r_not rfl) ?_
   refine WL_nil ?_
   refine hK91 _ _ ?_
   clear hK91 K90
   refine WC_cond (b := _) rfl (fun hc2 => ?_) (fun hc2 => ?_)
   ·
    try with_reducible replace hc2 := of_decide_eq_true hc2
    refine WC_seq (fun K92 hK93 => ?_)
    refine WC_region ?_
    refine WL_val (dd := some 44) rfl rfl rfl (r_move (v := .int .i64 _) rfl) ?_
    refine WL_val (dd := some 45) rfl rfl rfl (r_eql rfl rfl) ?_
    refine WL_split (dd := some 46) rfl rfl rfl (r_move (v := .bool _) rfl) (fun hs9_2 => ?_) (fun hs9_2 => ?_)
    ·
     try with_reducible replace hs9_2 := of_decide_eq_true hs9_2
     refine WL_val (dd := some 47) rfl rfl rfl (r_move (v := .int .i64 _) rfl) ?_
     refine WL_val (dd := some 48) rfl rfl rfl (r_eql rfl rfl) ?_
     refine WL_val (dd := some 49) rfl rfl rfl (r_pick_t rfl (v := .bool _) rfl) ?_
     refine WL_split (dd := some 50) rfl rfl rfl (r_move (v := .bool _) rfl) (fun hs9_6 => ?_) (fun hs9_6 => ?_)
     ·
      try with_reducible replace hs9_6 := of_decide_eq_true hs9_6
      refine WL_call (dd := some 51) rfl rfl rfl (r_call0 tb_c53) (C_drawknifelaw11_knows _) (fun v9_7 W94 hE95 hP9_7 => ?_)
      have hsz96 := (Below.size hB)
      replace hB := below_ext hB hE95 (Nat.le_refl _)
      replace hm0_0 := hE95.at hm0_0
      replace hD := Dia.ext hE95 hD
      replace hz := hE95.at hz
      clear hE95
      obtain rfl := hP9_7
      clear hsz96
      refine WL_val (dd := some 52) rfl rfl rfl (r_pick_t rfl (v := .bool true) rfl) ?_
      refine WL_val (dd := some 4) rfl rfl rfl (r_assign (v := .bool true) rfl) ?_
      refine WL_nil ?_
      refine hK93 _ _ ?_
      clear hK93 K92
      refine WC_ret ?_
      repeat (first | refine thenQ_ret ?_ | refine blockQ_ret ?_)
      try clear hK89 K88
      refine ret_t (v := .bool true) rfl ?_
      refine ⟨hB, ?_⟩
      rfl
     ·
      try with_reducible replace hs9_6 := of_decide_eq_false hs9_6
      exact absurd rfl hs9_6
    ·
     try with_reducible replace hs9_2 := of_decide_eq_false hs9_2
     exact absurd rfl hs9_2
   ·
    try with_reducible replace hc2 := of_decide_eq_false hc2
    exact absurd (not_f' hc2) (by rw [hs5_1]; decide)

end Go.Proofs.Ytpamgfbecgjjeaa
