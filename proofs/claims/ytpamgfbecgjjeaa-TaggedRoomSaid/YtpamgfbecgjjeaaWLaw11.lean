/-
  The walks of the statements about rows and primes as members.
-/
import Derived.Test.YtpamgfbecgjjeaaProg
import Derived.Test.YtpamgfbecgjjeaaWTag2
import Derived.Test.YtpamgfbecgjjeaaT6
namespace Go.Proofs.Ytpamgfbecgjjeaa
set_option linter.unusedVariables false
set_option linter.unusedSimpArgs false
open Go Go.RowKit

theorem tb_c31 : callB Try.prog 31 = true := by kernel_rfl
theorem tb_build69_0 {f : Nat → Value} {w : World} {d : Option Nat} {ty : TypeId} {ps : String} {af : Array Edge} {g : Option (Nat × Bool)} {x0 : Operand} {c0_0 : Value} (h0 : evF f x0 = c0_0) (k0 : c0_0.cells = #[c0_0]) :
    (execOp (evF f) ⟨d, .build 69 #[(0, x0)], ty, ps, af, g⟩).run Try.prog w = .ok (.value (.agg #[c0_0, .int .u64 0, .int .u64 0, .int .u64 0])) w := by
  obtain ⟨i0, hi0, hz0⟩ := Option.bind_eq_some_iff.1 (show (Try.prog.info? 69).bind (·.zero) = _ from tb_z69)
  obtain ⟨j67, hj67, hs67⟩ := Option.map_eq_some_iff.1 tb_size67
  simp [execOp, h0, k0, Instr.build, zeroValue, typeInfo, sizeOf, hi0, hz0, run_underlying Try.underlying69, Instr.fill, cells_agg, hj67, hs67]
theorem tb_c61 : callB Try.prog 61 = true := by kernel_rfl
theorem tb_c37 : callB Try.prog 37 = true := by kernel_rfl
theorem tb_c49 : callB Try.prog 49 = true := by kernel_rfl
theorem tb_c24 : callB Try.prog 24 = true := by kernel_rfl
theorem tb_build57_0_1 {f : Nat → Value} {w : World} {d : Option Nat} {ty : TypeId} {ps : String} {af : Array Edge} {g : Option (Nat × Bool)} {x0 x1 : Operand} {c0_0 c0_1 c1_0 : Value} (h0 : evF f x0 = .agg #[c0_0, c0_1]) (h1 : evF f x1 = c1_0) (k1 : c1_0.cells = #[c1_0]) :
    (execOp (evF f) ⟨d, .build 57 #[(0, x0), (1, x1)], ty, ps, af, g⟩).run Try.prog w = .ok (.value (.agg #[c0_0, c0_1, c1_0])) w := by
  obtain ⟨i0, hi0, hz0⟩ := Option.bind_eq_some_iff.1 (show (Try.prog.info? 57).bind (·.zero) = _ from tb_z57)
  obtain ⟨j5, hj5, hs5⟩ := Option.map_eq_some_iff.1 tb_size5
  obtain ⟨j55, hj55, hs55⟩ := Option.map_eq_some_iff.1 tb_size55
  simp [execOp, h0, h1, k1, Instr.build, zeroValue, typeInfo, sizeOf, hi0, hz0, run_underlying Try.underlying57, Instr.fill, cells_agg, hj5, hs5, hj55, hs55]
theorem tb_eq57 {f : Nat → Value} {w : World} {d : Option Nat} {ty t2 : TypeId} {ps : String} {af : Array Edge} {g : Option (Nat × Bool)} {x y : Operand} {a0 a1 a2 b0 b1 b2 : Int} (hx : evF f x = .agg #[.int .u8 a0, .int .u8 a1, .int .u8 a2]) (hy : evF f y = .agg #[.int .u8 b0, .int .u8 b1, .int .u8 b2]) :
    (execOp (evF f) ⟨d, .binOp .eql 57 x y t2, ty, ps, af, g⟩).run Try.prog w = .ok (.value (.bool (decide ((a0 = b0 ∧ a1 = b1 ∧ a2 = b2))))) w := by
  have hg : Try.prog.eqGuardType Try.prog.depth 57 = false := by kernel_rfl
  have hp57 : Try.prog.stoodInHeld 57 = false := by kernel_rfl
  have hu57 : Try.prog.underlying 57 = some (.struct (Try.prog.fieldsOf 57)) := by kernel_rfl
  have hp55 : Try.prog.stoodInHeld 55 = false := by kernel_rfl
  have hu55 : Try.prog.underlying 55 = some (.struct (Try.prog.fieldsOf 55)) := by kernel_rfl
  obtain ⟨j55, hj55, hs55⟩ := Option.map_eq_some_iff.1 (show (Try.prog.info? 55).map (·.size) = some 2 by kernel_rfl)
  simp only [execOp, hx, hy, Sem.run_bind, run_eqGuard_agg _ _ _ _ _ _ _ hg, Result.andThen_ok, run_eql_struct, run_equalIn_agg _ 9999 57 _ _ hu57 hp57]
  simp only [Program.fieldsOf, Try.underlying57]
  simp [Op.eqFields, part, isAgg, run_equalIn_int _ 9998 5 _ _ _ _ Try.underlying5, run_underlying Try.underlying5, run_equalIn_agg _ 9998 55 _ _ hu55 hp55, Program.fieldsOf, Try.underlying55, run_equalIn_int _ 9997 5 _ _ _ _ Try.underlying5, sizeOf, typeInfo, hj55, hs55, run_underlying Try.underlying55]
  by_cases q0 : a0 = b0 <;> by_cases q1 : a1 = b1 <;> by_cases q2 : a2 = b2 <;> simp [q0, q1, q2]
theorem tb_c51 : callB Try.prog 51 = true := by kernel_rfl

set_option maxRecDepth 10000 in
theorem C_drawknifelaw11_knows  (w : World) :
    Fn Try.prog 53 #[] w fun v w' => v = .bool true := by
 refine Fn_intro (n := 61) Try.func53 rfl rfl (Nat.le_of_ble_eq_true rfl) ?_
 have hB : Below w.heap.size w w := Below.refl _ _
 refine WC_seq (fun K1 hK2 => ?_)
 refine WC_region ?_
 refine WL_val (dd := some 0) rfl rfl rfl (r_assign (v := .bool false) rfl) ?_
 refine WL_nil ?_
 refine hK2 _ _ ?_
 clear hK2 K1
 refine WC_seq (fun K3 hK4 => ?_)
 refine WC_region ?_
 refine WL_call (dd := some 10) rfl rfl rfl (r_call1 tb_c31 (v0 := .int .i64 20000) rfl) (C_zdd_New 20000 _ (by omega)) (fun v1_0 W5 hE6 hP1_0 => ?_)
 have hsz7 := (Below.size hB)
 replace hB := below_ext hB hE6 (Nat.le_refl _)
 clear hE6
 obtain ⟨bz, ba, bm, rfl, hz, hD⟩ := hP1_0
 replace hD := Dia.mono hD hsz7
 clear hsz7
 refine WL_val (dd := some 9) rfl rfl rfl (r_move (v := .tuple #[.pointer (some ⟨bz, 0, none⟩), .int .i64 0]) rfl) ?_
 refine WL_val (dd := some 11) rfl rfl rfl (r_ext2_0 (h := rfl)) ?_
 refine WL_val (dd := some 12) rfl rfl rfl (r_ext2_1 (h := rfl)) ?_
 refine WL_val (dd := some 1) rfl rfl rfl (r_assign (v := .pointer (some ⟨bz, 0, none⟩)) rfl) ?_
 refine WL_val (dd := some 2) rfl rfl rfl (r_assign (v := .int .i64 0) rfl) ?_
 refine WL_nil ?_
 refine hK4 _ _ ?_
 clear hK4 K3
 refine WC_seq (fun K8 hK9 => ?_)
 refine WC_seq (fun K10 hK11 => ?_)
 refine WC_region ?_
 refine WL_val (dd := some 13) rfl rfl rfl (r_move (v := .pointer (some ⟨bz, 0, none⟩)) rfl) ?_
 refine WL_val (dd := some 14) rfl rfl rfl (r_ptrNil rfl rfl Try.underlying24) ?_
 refine WL_nil ?_
 refine hK11 _ _ ?_
 clear hK11 K10
 refine WC_cond_false rfl ?_
 refine WC_skip ?_
 refine hK9 _ _ ?_
 clear hK9 K8
 refine WC_seq (fun K12 hK13 => ?_)
 refine WC_region ?_
 refine WL_val (dd := some 16) rfl rfl rfl (r_move (v := .pointer (some ⟨bz, 0, none⟩)) rfl) ?_
 refine WL_val (dd := some 17) (v := setV 14) rfl rfl rfl (tb_build69_0 (h0 := rfl) (k0 := rfl) (c0_0 := .int .u64 14)) ?_
 refine WL_callG (dd := some 18) rfl rfl rfl (r_call3 tb_c61 (v0 := .pointer (some ⟨bz, 0, none⟩)) rfl (v1 := .agg #[_, _, _, _]) rfl (v2 := .int .i64 2) rfl) (C_tagged_Primes _ _ _ _ _ _ 14 2 _ (Below.size hB) hz hD (by decide +kernel)) (fun v4_2 W14 hP4_2 => ?_)
 obtain ⟨ns4_2, id4_2, er4_2, rfl, hx4_2, hDn4_2, hg4_2⟩ := hP4_2
 replace hB := Below.dx hB (Nat.le_refl _) (Nat.le_refl _) hx4_2
 replace hz := At.dx hD hx4_2 hz (by decide) (by decide)
 replace hD := hDn4_2
 refine WL_val (dd := some 15) rfl rfl rfl (r_move (v := .tuple #[.int .i64 (id4_2 : Int), .int .i64 er4_2]) rfl) ?_
 refine WL_val (dd := some 19) rfl rfl rfl (r_ext2_0 (h := rfl)) ?_
 refine WL_val (dd := some 20) rfl rfl rfl (r_ext2_1 (h := rfl)) ?_
 refine WL_val (dd := some 3) rfl rfl rfl (r_assign (v := .int .i64 _) rfl) ?_
 refine WL_val (dd := some 4) rfl rfl rfl (r_assign (v := .int .i64 _) rfl) ?_
 refine WL_nil ?_
 refine hK13 _ _ ?_
 clear hK13 K12
 refine WC_seq (fun K16 hK17 => ?_)
 obtain ⟨he4, hm4, hl4⟩ := pr_ok hg4_2 (by have := tC_6 (show 2 ≤ 6 by decide); simp only [List.length_nil]; omega)
 subst he4
 have hI := pr_is hg4_2.1.v hm4
 rw [memsP_knows] at hI
 have hw5 := hD.wf
 have hro5 := hD.room
 have hto5 := hD.top
 have hv5 := hI.v
 refine WC_region ?_
 refine WL_val (dd := some 22) rfl rfl rfl (r_move (v := .pointer (some ⟨bz, 0, none⟩)) rfl) ?_
 refine WL_val (dd := some 23) rfl rfl rfl (r_move (v := .int .i64 _) rfl) ?_
 refine WL_call (dd := some 24) rfl rfl rfl (r_call2 tb_c37 (v0 := .pointer (some ⟨bz, 0, none⟩)) rfl (v1 := .int .i64 _) rfl) (C___zdd_Zdd__List _ _ _ _ _ _ _ _ hz hD (by omega)) (fun v5_2 W18 hE19 hP5_2 => ?_)
 have hsz20 := (Below.size hB)
 replace hB := below_ext hB hE19 (Nat.le_refl _)
 replace hD := Dia.ext hE19 hD
 replace hz := hE19.at hz
 clear hE19
 obtain ⟨x5_2, rfl, hsl5_2, hty5_2⟩ := list_is hI hw5 (by decide) hP5_2
 clear hsz20
 refine WL_val (dd := some 21) rfl rfl rfl (r_move (v := .tuple #[x5_2, .int .i64 0]) rfl) ?_
 refine WL_val (dd := some 25) rfl rfl rfl (r_ext2_0 (h := rfl)) ?_
 refine WL_val (dd := some 26) rfl rfl rfl (r_ext2_1 (h := rfl)) ?_
 refine WL_val (dd := some 5) rfl rfl rfl (r_assign (v := x5_2) rfl) ?_
 refine WL_val (dd := some 6) rfl rfl rfl (r_assign (v := .int .i64 0) rfl) ?_
 refine WL_nil ?_
 refine hK17 _ _ ?_
 clear hK17 K16
 refine WC_seq (fun K21 hK22 => ?_)
 have hBo23 := hB
 replace hB := Below.refl W18.heap.size W18
 refine WC_region ?_
 refine WL_call (dd := some 28) rfl rfl rfl (r_call1 tb_c49 (v0 := .int .i64 65538) rfl) (C_tagged_Row 65538 _) (fun v6_0 W24 hE25 hP6_0 => ?_)
 have hsz26 := (Below.size hB)
 replace hB := below_ext hB hE25 (Nat.le_refl _)
 clear hE25
 obtain rfl := hP6_0
 clear hsz26
 rw [row_knows, if_pos ok_knows]
 refine WL_val (dd := some 27) rfl rfl rfl (r_move (v := .tuple #[.agg #[_, _, _], .int .i64 _]) rfl) ?_
 refine WL_val (dd := some 29) rfl rfl rfl (r_ext2_0 (h := rfl)) ?_
 refine WL_val (dd := some 30) rfl rfl rfl (r_ext2_1 (h := rfl)) ?_
 refine WL_step (dd := some 7) rfl rfl rfl (Y_alloc tb_z57 rfl (fun b6_4 W27 hb28 hE29 hm6_4 => ?_))
 have lo_b6_4 : W18.heap.size ≤ b6_4 := hb28 ▸ (Below.size hB)
 clear hb28
 replace hB := below_ext hB hE29 (Nat.le_refl _)
 clear hE29
 refine WL_step (dd := none) rfl rfl rfl (Y_storeW rfl rfl tb_ag57 rfl hm6_4 rfl (by rfl) (fun W30 hG31 hm32 => ?_))
 replace hB := below_grown hB hG31 (Nat.le_refl _) (fun j hj => by cases hj; exact lo_b6_4)
 clear hG31 hm6_4
 have hm6_4 := hm32
 clear hm32
 refine WL_val (dd := some 8) rfl rfl rfl (r_assign (v := .int .i64 _) rfl) ?_
 refine WL_nil ?_
 refine hK22 _ _ ?_
 clear hK22 K21
 refine WC_seq (fun K33 hK34 => ?_)
 refine WC_region ?_
 refine WL_val (dd := some 31) rfl rfl rfl (r_move (v := .int .i64 0) rfl) ?_
 refine WL_val (dd := some 32) rfl rfl rfl (r_eql rfl rfl) ?_
 refine WL_split (dd := some 33) rfl rfl rfl (r_move (v := .bool _) rfl) (fun hs7_2 => ?_) (fun hs7_2 => ?_)
 ·
  try with_reducible replace hs7_2 := of_decide_eq_true hs7_2
  refine WL_val (dd := some 34) rfl rfl rfl (r_move (v := .int .i64 _) rfl) ?_
  refine WL_val (dd := some 35) rfl rfl rfl (r_eql rfl rfl) ?_
  refine WL_val (dd := some 36) rfl rfl rfl (r_pick_t rfl (v := .bool _) rfl) ?_
  refine WL_split (dd := some 37) rfl rfl rfl (r_move (v := .bool _) rfl) (fun hs7_6 => ?_) (fun hs7_6 => ?_)
  ·
   try with_reducible replace hs7_6 := of_decide_eq_true hs7_6
   refine WL_val (dd := some 38) rfl rfl rfl (r_move (v := .int .i64 0) rfl) ?_
   refine WL_val (dd := some 39) rfl rfl rfl (r_eql rfl rfl) ?_
   refine WL_val (dd := some 40) rfl rfl rfl (r_pick_t rfl (v := .bool _) rfl) ?_
   refine WL_split (dd := some 41) rfl rfl rfl (r_move (v := .bool _) rfl) (fun hs7_10 => ?_) (fun hs7_10 => ?_)
   ·
    try with_reducible replace hs7_10 := of_decide_eq_true hs7_10
    refine WL_val (dd := some 42) rfl rfl rfl (r_move (v := x5_2) rfl) ?_
    refine WL_step (dd := some 43) rfl rfl rfl (Y_lit2 (u0 := .int .i64 2) (u1 := .int .i64 8) rfl rfl tb_el22 tb_zs3 rfl rfl (by decide) (by decide) (fun b7_12 W35 hb36 hE37 hm7_12 => ?_))
    have lo_b7_12 : W18.heap.size ≤ b7_12 := hb36 ▸ (Below.size hB)
    clear hb36
    replace hB := below_ext hB hE37 (Nat.le_refl _)
    replace hm6_4 := hE37.at hm6_4
    clear hE37
    have ho7_12 := own_lit2 (enc := encI) (sz := 1) (a0 := 2) (a1 := 8) hm7_12 rfl rfl rfl rfl lo_b7_12
    clear hm7_12
    refine WL_call (dd := some 44) rfl rfl rfl (r_call2 tb_c24 (v0 := x5_2) rfl (v1 := .slice (some ⟨b7_12, 0, none⟩) 2 2) rfl) (C_drawkniferef08_Same _ _ _ [2, 8] _ (Below.slT hB hsl5_2) ho7_12.sl (by decide) (by decide)) (fun v7_13 W38 hE39 hP7_13 => ?_)
    have hsz40 := (Below.size hB)
    replace hB := below_ext hB hE39 (Nat.le_refl _)
    replace hm6_4 := hE39.at hm6_4
    replace ho7_12 := hE39.ow ho7_12
    clear hE39
    clear hsz40
    obtain rfl := hP7_13
    refine WL_val (dd := some 45) rfl rfl rfl (r_pick_t rfl (v := .bool _) rfl) ?_
    refine WL_split (dd := some 46) rfl rfl rfl (r_move (v := .bool _) rfl) (fun hs7_15 => ?_) (fun hs7_15 => ?_)
    ·
     try with_reducible replace hs7_15 := of_decide_eq_true hs7_15
     refine WL_val (dd := some 47) rfl rfl rfl (r_loadW rfl tb_ag57 rfl hm6_4) ?_
     refine WL_val (dd := some 48) rfl rfl rfl (tb_build55_0_1 (h0 := rfl) (k0 := rfl) (h1 := rfl) (k1 := rfl) (c0_0 := .int .u8 1) (c1_0 := .int .u8 1)) ?_
     refine WL_val (dd := some 49) rfl rfl rfl (tb_build57_0_1 (h0 := rfl) (h1 := rfl) (k1 := rfl) (c1_0 := .int .u8 1)) ?_
     refine WL_val (dd := some 50) rfl rfl rfl (tb_eq57 rfl rfl) ?_
     refine WL_val (dd := some 51) rfl rfl rfl (r_pick_t rfl (v := .bool _) rfl) ?_
     refine WL_split (dd := some 52) rfl rfl rfl (r_move (v := .bool _) rfl) (fun hs7_21 => ?_) (fun hs7_21 => ?_)
     ·
      try with_reducible replace hs7_21 := of_decide_eq_true hs7_21
      refine WL_val (dd := some 53) rfl rfl rfl (r_move (v := .int .i64 _) rfl) ?_
      refine WL_val (dd := some 54) rfl rfl rfl (r_eql rfl rfl) ?_
      refine WL_val (dd := some 55) rfl rfl rfl (r_pick_t rfl (v := .bool _) rfl) ?_
      refine WL_split (dd := some 56) rfl rfl rfl (r_move (v := .bool _) rfl) (fun hs7_25 => ?_) (fun hs7_25 => ?_)
      ·
       try with_reducible replace hs7_25 := of_decide_eq_true hs7_25
       refine WL_val (dd := some 57) rfl rfl rfl (r_loadW rfl tb_ag57 rfl hm6_4) ?_
       refine WL_call (dd := some 58) rfl rfl rfl (r_call1 tb_c51 (v0 := .agg #[_, _, _]) rfl) (C_tagged_Member ⟨⟨1, 1⟩, 1⟩ _ (by decide)) (fun v7_27 W41 hE42 hP7_27 => ?_)
       have hsz43 := (Below.size hB)
       replace hB := below_ext hB hE42 (Nat.le_refl _)
       replace hm6_4 := hE42.at hm6_4
       replace ho7_12 := hE42.ow ho7_12
       clear hE42
       clear hsz43
       obtain rfl := hP7_27
       refine WL_val (dd := some 59) rfl rfl rfl (r_eql rfl rfl) ?_
       refine WL_val (dd := some 60) rfl rfl rfl (r_pick_t rfl (v := .bool _) rfl) ?_
       refine WL_val (dd := some 0) rfl rfl rfl (r_assign (v := .bool _) rfl) ?_
       refine WL_nil ?_
       refine hK34 _ _ ?_
       clear hK34 K33
       refine WC_ret ?_
       replace hD := Dia.below hB hD
       replace hz := Below.atI hB hz
       replace hsl5_2 := Below.slT hB hsl5_2
       replace hty5_2 := TyS.ext hB hty5_2
       have hzs := Nat.le_trans (Nat.le_refl _) (Below.size hBo23)
       replace lo_b6_4 := Nat.le_trans hzs lo_b6_4
       replace ho7_12 := OwT.mono ho7_12 hzs
       replace hB := Below.trans hBo23 (Below.mono hB hzs)
       clear hBo23 hzs
       repeat (first | refine thenQ_ret ?_ | refine blockQ_ret ?_)
       refine ret_t (v := .bool _) rfl ?_
       refine ⟨hB, ?_⟩
       exact congrArg Value.bool (decide_eq_true (by rw [mem_knows]; rfl))
      ·
       try with_reducible replace hs7_25 := of_decide_eq_false hs7_25
       exact absurd rfl hs7_25
     ·
      try with_reducible replace hs7_21 := of_decide_eq_false hs7_21
      exact absurd ⟨rfl, rfl, rfl⟩ hs7_21
    ·
     try with_reducible replace hs7_15 := of_decide_eq_false hs7_15
     exact absurd (by decide) hs7_15
   ·
    try with_reducible replace hs7_10 := of_decide_eq_false hs7_10
    exact absurd rfl hs7_10
  ·
   try with_reducible replace hs7_6 := of_decide_eq_false hs7_6
   exact absurd rfl hs7_6
 ·
  try with_reducible replace hs7_2 := of_decide_eq_false hs7_2
  exact absurd rfl hs7_2

end Go.Proofs.Ytpamgfbecgjjeaa
