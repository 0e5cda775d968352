/-
  The walks of the statements about primes.
-/
import Derived.Test.YtdbcijijhhbkaaaProg
import Derived.Test.YtdbcijijhhbkaaaWAll
import Derived.Test.YtdbcijijhhbkaaaHolds
namespace Go.Proofs.Ytdbcijijhhbkaaa
open Go Go.RowKit

theorem tb_build24_0 {f : Nat → Value} {w : World} {d : Option Nat} {ty : TypeId} {ps : String} {af : Array Edge} {g : Option (Nat × Bool)} {x0 : Operand} {c0_0 : Value} (h0 : evF f x0 = c0_0) (k0 : c0_0.cells = #[c0_0]) :
    (execOp (evF f) ⟨d, .build 24 #[(0, x0)], ty, ps, af, g⟩).run Try.prog w = .ok (.value (.agg #[c0_0, .int .u64 0, .int .u64 0, .int .u64 0])) w := by
  obtain ⟨i0, hi0, hz0⟩ := Option.bind_eq_some_iff.1 (show (Try.prog.info? 24).bind (·.zero) = _ from tb_z24)
  obtain ⟨j22, hj22, hs22⟩ := Option.map_eq_some_iff.1 tb_size22
  simp [execOp, h0, k0, Instr.build, zeroValue, typeInfo, sizeOf, hi0, hz0, run_underlying Try.underlying24, Instr.fill, cells_agg, hj22, hs22]
theorem tb_c25 : callB Try.prog 25 = true := by kernel_rfl
theorem tb_c79 : callB Try.prog 79 = true := by kernel_rfl
theorem tb_c80 : callB Try.prog 80 = true := by kernel_rfl
theorem tb_c23 : callB Try.prog 23 = true := by kernel_rfl
theorem tb_c24 : callB Try.prog 24 = true := by kernel_rfl
theorem tb_c27 : callB Try.prog 27 = true := by kernel_rfl
theorem tb_c26 : callB Try.prog 26 = true := by kernel_rfl
theorem tb_c30 : callB Try.prog 30 = true := by kernel_rfl
theorem tb_c31 : callB Try.prog 31 = true := by kernel_rfl

theorem C_drawknifelaw09_knows  (w : World) :
    Fn Try.prog 24 #[] w fun v w' => v = .bool true := by
  refine Fn_intro (n := 51) Try.func24 rfl rfl (Nat.le_of_ble_eq_true rfl) ?_
  have hB : Below w.heap.size w w := Below.refl _ _
  refine WC_seq (fun K1 hK2 => ?_)
  refine WC_region ?_
  refine WL_val (dd := some 0) rfl rfl rfl (r_assign (v := .bool false) rfl) ?_
  refine WL_nil ?_
  refine hK2 _ _ ?_
  clear hK2 K1
  refine WC_seq (fun K3 hK4 => ?_)
  refine WC_region ?_
  refine WL_val (dd := some 6) (v := setV 14) rfl rfl rfl (tb_build24_0 (h0 := rfl) (k0 := rfl) (c0_0 := .int .u64 14)) ?_
  refine WL_call (dd := some 7) rfl rfl rfl (r_call2 tb_c25 (v0 := .agg #[_, _, _, _]) rfl (v1 := .int .i64 2) rfl) (C_prime_All 14 2 _) (fun v1_1 W5 hE6 hP1_1 => ?_)
  have hsz7 := Below.size hB
  replace hB := below_ext hB hE6 (Nat.le_refl _)
  clear hE6
  obtain ⟨x_hP1_1, er_hP1_1, l_hP1_1, rfl, ho_hP1_1, hc_hP1_1⟩ := all_res hP1_1
  replace ho_hP1_1 := OwT.mono ho_hP1_1 hsz7
  obtain ⟨her, hle⟩ : er_hP1_1 = 0 ∧ l_hP1_1 = primesL 14 2 := hc_hP1_1.elim (fun h => h.2) (fun h => absurd h.1 (by decide +kernel))
  rw [primesL_knows] at hle
  subst her hle
  clear hsz7
  refine WL_val (dd := some 5) rfl rfl rfl (r_move (v := .tuple #[x_hP1_1, .int .i64 _]) rfl) ?_
  refine WL_val (dd := some 8) rfl rfl rfl (r_ext2_0 (h := rfl)) ?_
  refine WL_val (dd := some 9) rfl rfl rfl (r_ext2_1 (h := rfl)) ?_
  refine WL_val (dd := some 1) rfl rfl rfl (r_assign (v := x_hP1_1) rfl) ?_
  refine WL_val (dd := some 2) rfl rfl rfl (r_assign (v := .int .i64 _) rfl) ?_
  refine WL_nil ?_
  refine hK4 _ _ ?_
  clear hK4 K3
  refine WC_seq (fun K8 hK9 => ?_)
  refine WC_region ?_
  refine WL_val (dd := some 11) rfl rfl rfl (tb_build34_0_1 (h0 := rfl) (k0 := rfl) (h1 := rfl) (k1 := rfl) (c0_0 := .int .u8 3) (c1_0 := .int .u8 3)) ?_
  refine WL_val (dd := some 12) (v := setV 14) rfl rfl rfl (tb_build24_0 (h0 := rfl) (k0 := rfl) (c0_0 := .int .u64 14)) ?_
  refine WL_call (dd := some 13) rfl rfl rfl (r_call3 tb_c79 (v0 := .agg #[_, _]) rfl (v1 := .agg #[_, _, _, _]) rfl (v2 := .int .i64 2) rfl) (C_prime_Grow ⟨3, 3⟩ 14 2 _ (by decide +kernel)) (fun v2_2 W10 hE11 hP2_2 => ?_)
  have hsz12 := Below.size hB
  replace hB := below_ext hB hE11 (Nat.le_refl _)
  replace ho_hP1_1 := hE11.ow ho_hP1_1
  clear hE11
  obtain rfl := grow_res hP2_2 (by decide +kernel)
  clear hsz12
  refine WL_val (dd := some 10) rfl rfl rfl (r_move (v := .tuple #[.agg #[_, _], .int .i64 _]) rfl) ?_
  refine WL_val (dd := some 14) rfl rfl rfl (r_ext2_0 (h := rfl)) ?_
  refine WL_val (dd := some 15) rfl rfl rfl (r_ext2_1 (h := rfl)) ?_
  refine WL_step (dd := some 3) rfl rfl rfl (Y_alloc tb_z34 rfl (fun b2_6 W13 hb14 hE15 hm2_6 => ?_))
  have lo_b2_6 : w.heap.size ≤ b2_6 := hb14 ▸ Below.size hB
  have no16 := OwT.neB (b := b2_6) ho_hP1_1 (Nat.le_of_eq hb14.symm)
  clear hb14
  replace hB := below_ext hB hE15 (Nat.le_refl _)
  replace ho_hP1_1 := hE15.ow ho_hP1_1
  clear hE15
  refine WL_step (dd := none) rfl rfl rfl (Y_storeW rfl rfl tb_ag34 rfl hm2_6 rfl (by rfl) (fun W17 hG18 hm19 => ?_))
  replace hB := below_grown hB hG18 (Nat.le_refl _) (fun j hj => by cases hj; exact lo_b2_6)
  replace ho_hP1_1 := OwT.grownAtNe ho_hP1_1 no16 hG18
  clear hG18 hm2_6
  have hm2_6 := hm19
  clear hm19
  refine WL_val (dd := some 4) rfl rfl rfl (r_assign (v := .int .i64 _) rfl) ?_
  refine WL_nil ?_
  refine hK9 _ _ ?_
  clear hK9 K8
  refine WC_seq (fun K20 hK21 => ?_)
  refine WC_region ?_
  refine WL_val (dd := some 16) rfl rfl rfl (r_move (v := x_hP1_1) rfl) ?_
  refine WL_val (dd := some 17) rfl rfl rfl (r_lenS (v := x_hP1_1) rfl ho_hP1_1.sl tb_el27) ?_
  refine WL_val (dd := some 18) rfl rfl rfl (r_eql rfl rfl) ?_
  refine WL_split (dd := some 19) rfl rfl rfl (r_move (v := .bool _) rfl) (fun hs3_3 => ?_) (fun hs3_3 => ?_)
  ·
    try with_reducible replace hs3_3 := of_decide_eq_true hs3_3
    refine WL_val (dd := some 20) rfl rfl rfl (r_move (v := x_hP1_1) rfl) ?_
    refine WL_val (dd := some 21) rfl rfl rfl (r_idxS (j := 0) (v := x_hP1_1) rfl ho_hP1_1.sl rfl tb_el27 (by omega) (by first | omega | (simp only [flagsTo_len, litsTo_len, firstF_len, ptF_len]; omega))) ?_
    refine WL_val (dd := some 22) rfl rfl rfl (r_load2 rfl tb_ag34 (SlT.cell (j := 0) ho_hP1_1.sl encC_len ⟨0, 0⟩ (by omega) (by first | omega | (simp only [flagsTo_len, litsTo_len, firstF_len, ptF_len]; omega)) 0 rfl) (SlT.cell (j := 0) ho_hP1_1.sl encC_len ⟨0, 0⟩ (by omega) (by first | omega | (simp only [flagsTo_len, litsTo_len, firstF_len, ptF_len]; omega)) 1 rfl)) ?_
    refine WL_val (dd := some 23) rfl rfl rfl (tb_build34_0_1 (h0 := rfl) (k0 := rfl) (h1 := rfl) (k1 := rfl) (c0_0 := .int .u8 1) (c1_0 := .int .u8 1)) ?_
    refine WL_val (dd := some 24) rfl rfl rfl (tb_eq34 rfl rfl) ?_
    refine WL_val (dd := some 25) rfl rfl rfl (r_pick_t rfl (v := .bool _) rfl) ?_
    refine WL_split (dd := some 26) rfl rfl rfl (r_move (v := .bool _) rfl) (fun hs3_10 => ?_) (fun hs3_10 => ?_)
    ·
      try with_reducible replace hs3_10 := of_decide_eq_true hs3_10
      refine WL_val (dd := some 27) rfl rfl rfl (r_move (v := x_hP1_1) rfl) ?_
      refine WL_val (dd := some 28) rfl rfl rfl (r_idxS (j := 1) (v := x_hP1_1) rfl ho_hP1_1.sl rfl tb_el27 (by omega) (by first | omega | (simp only [flagsTo_len, litsTo_len, firstF_len, ptF_len]; omega))) ?_
      refine WL_val (dd := some 29) rfl rfl rfl (r_load2 rfl tb_ag34 (SlT.cell (j := 1) ho_hP1_1.sl encC_len ⟨0, 0⟩ (by omega) (by first | omega | (simp only [flagsTo_len, litsTo_len, firstF_len, ptF_len]; omega)) 0 rfl) (SlT.cell (j := 1) ho_hP1_1.sl encC_len ⟨0, 0⟩ (by omega) (by first | omega | (simp only [flagsTo_len, litsTo_len, firstF_len, ptF_len]; omega)) 1 rfl)) ?_
      refine WL_val (dd := some 30) rfl rfl rfl (tb_build34_0_1 (h0 := rfl) (k0 := rfl) (h1 := rfl) (k1 := rfl) (c0_0 := .int .u8 2) (c1_0 := .int .u8 2)) ?_
      refine WL_val (dd := some 31) rfl rfl rfl (tb_eq34 rfl rfl) ?_
      refine WL_val (dd := some 32) rfl rfl rfl (r_pick_t rfl (v := .bool _) rfl) ?_
      refine WL_split (dd := some 33) rfl rfl rfl (r_move (v := .bool _) rfl) (fun hs3_17 => ?_) (fun hs3_17 => ?_)
      ·
        try with_reducible replace hs3_17 := of_decide_eq_true hs3_17
        refine WL_val (dd := some 34) rfl rfl rfl (r_move (v := .int .i64 _) rfl) ?_
        refine WL_val (dd := some 35) rfl rfl rfl (r_eql rfl rfl) ?_
        refine WL_val (dd := some 36) rfl rfl rfl (r_pick_t rfl (v := .bool _) rfl) ?_
        refine WL_split (dd := some 37) rfl rfl rfl (r_move (v := .bool _) rfl) (fun hs3_21 => ?_) (fun hs3_21 => ?_)
        ·
          try with_reducible replace hs3_21 := of_decide_eq_true hs3_21
          refine WL_val (dd := some 38) rfl rfl rfl (r_loadW rfl tb_ag34 rfl hm2_6) ?_
          refine WL_val (dd := some 39) rfl rfl rfl (tb_build34_0_1 (h0 := rfl) (k0 := rfl) (h1 := rfl) (k1 := rfl) (c0_0 := .int .u8 2) (c1_0 := .int .u8 2)) ?_
          refine WL_val (dd := some 40) rfl rfl rfl (tb_eq34 rfl rfl) ?_
          refine WL_val (dd := some 41) rfl rfl rfl (r_pick_t rfl (v := .bool _) rfl) ?_
          refine WL_split (dd := some 42) rfl rfl rfl (r_move (v := .bool _) rfl) (fun hs3_26 => ?_) (fun hs3_26 => ?_)
          ·
            try with_reducible replace hs3_26 := of_decide_eq_true hs3_26
            refine WL_val (dd := some 43) rfl rfl rfl (r_move (v := .int .i64 _) rfl) ?_
            refine WL_val (dd := some 44) rfl rfl rfl (r_eql rfl rfl) ?_
            refine WL_val (dd := some 45) rfl rfl rfl (r_pick_t rfl (v := .bool _) rfl) ?_
            refine WL_split (dd := some 46) rfl rfl rfl (r_move (v := .bool _) rfl) (fun hs3_30 => ?_) (fun hs3_30 => ?_)
            ·
              try with_reducible replace hs3_30 := of_decide_eq_true hs3_30
              refine WL_val (dd := some 47) rfl rfl rfl (r_loadW rfl tb_ag34 rfl hm2_6) ?_
              refine WL_val (dd := some 48) (v := setV 14) rfl rfl rfl (tb_build24_0 (h0 := rfl) (k0 := rfl) (c0_0 := .int .u64 14)) ?_
              refine WL_call (dd := some 49) rfl rfl rfl (r_call3 tb_c80 (v0 := .agg #[_, _]) rfl (v1 := .agg #[_, _, _, _]) rfl (v2 := .int .i64 2) rfl) (C_prime_Prime _ _ 14 2 _ (by decide +kernel) (by decide +kernel)) (fun v3_33 W22 hE23 hP3_33 => ?_)
              have hsz24 := Below.size hB
              replace hB := below_ext hB hE23 (Nat.le_refl _)
              replace ho_hP1_1 := hE23.ow ho_hP1_1
              replace hm2_6 := hE23.at hm2_6
              clear hE23
              clear hsz24
              obtain rfl := hP3_33
              refine WL_val (dd := some 50) rfl rfl rfl (r_pick_t rfl (v := .bool _) rfl) ?_
              refine WL_val (dd := some 0) rfl rfl rfl (r_assign (v := .bool _) rfl) ?_
              refine WL_nil ?_
              refine hK21 _ _ ?_
              clear hK21 K20
              refine WC_ret ?_
              repeat (first | refine thenQ_ret ?_ | refine blockQ_ret ?_)
              refine ret_t (v := .bool _) rfl ?_
              refine ⟨hB, ?_⟩
              exact congrArg Value.bool (by decide +kernel)
            ·
              try with_reducible replace hs3_30 := of_decide_eq_false hs3_30
              first | exact absurd (by decide +kernel) hs3_30 | exact absurd hs3_30 (by decide +kernel)
          ·
            try with_reducible replace hs3_26 := of_decide_eq_false hs3_26
            first | exact absurd (by decide +kernel) hs3_26 | exact absurd hs3_26 (by decide +kernel)
        ·
          try with_reducible replace hs3_21 := of_decide_eq_false hs3_21
          first | exact absurd (by decide +kernel) hs3_21 | exact absurd hs3_21 (by decide +kernel)
      ·
        try with_reducible replace hs3_17 := of_decide_eq_false hs3_17
        first | exact absurd (by decide +kernel) hs3_17 | exact absurd hs3_17 (by decide +kernel)
    ·
      try with_reducible replace hs3_10 := of_decide_eq_false hs3_10
      first | exact absurd (by decide +kernel) hs3_10 | exact absurd hs3_10 (by decide +kernel)
  ·
    try with_reducible replace hs3_3 := of_decide_eq_false hs3_3
    first | exact absurd (by decide +kernel) hs3_3 | exact absurd hs3_3 (by decide +kernel)

theorem C_drawknifelaw09_PrimeAll (s : Nat) (n : Int) (w : World) :
    Fn Try.prog 3 #[setV s, .int .i64 n] w fun v w' => v = .bool true := by
  refine Fn_intro (n := 47) Try.func3 rfl rfl (Nat.le_of_ble_eq_true rfl) ?_
  have hB : Below w.heap.size w w := Below.refl _ _
  refine WC_seq (fun K1 hK2 => ?_)
  refine WC_region ?_
  refine WL_step (dd := some 2) rfl rfl rfl (Y_box (c := #[_, _, _, _]) rfl rfl (fun b0_0 W3 hb4 hE5 hm0_0 => ?_))
  have lo_b0_0 : w.heap.size ≤ b0_0 := hb4 ▸ Below.size hB
  clear hb4
  replace hB := below_ext hB hE5 (Nat.le_refl _)
  clear hE5
  refine WL_val (dd := some 4) rfl rfl rfl (r_assign (v := .bool false) rfl) ?_
  refine WL_nil ?_
  refine hK2 _ _ ?_
  clear hK2 K1
  refine WC_seq (fun K6 hK7 => ?_)
  refine WC_region ?_
  refine WL_val (dd := some 8) rfl rfl rfl (r_loadW rfl tb_ag24 rfl hm0_0) ?_
  refine WL_val (dd := some 9) rfl rfl rfl (r_move (v := .int .i64 _) rfl) ?_
  refine WL_call (dd := some 10) rfl rfl rfl (r_call2 tb_c23 (v0 := .agg #[_, _, _, _]) rfl (v1 := .int .i64 _) rfl) (C_drawkniferef09_Of _ _ _) (fun v1_2 W8 hE9 hP1_2 => ?_)
  have hsz10 := Below.size hB
  replace hB := below_ext hB hE9 (Nat.le_refl _)
  replace hm0_0 := hE9.at hm0_0
  clear hE9
  clear hsz10
  obtain rfl := hP1_2
  refine WL_val (dd := some 5) rfl rfl rfl (r_assign (v := .bool _) rfl) ?_
  refine WL_nil ?_
  refine hK7 _ _ ?_
  clear hK7 K6
  refine WC_seq (fun K11 hK12 => ?_)
  refine WC_seq (fun K13 hK14 => ?_)
  refine WC_region ?_
  refine WL_val (dd := some 11) rfl rfl rfl (r_move (v := .bool _) rfl) ?_
  refine WL_split (dd := some 12) rfl rfl rfl (r_move (v := .bool _) rfl) (fun hs2_1 => ?_) (fun hs2_1 => ?_)
  ·
    try with_reducible replace hs2_1 := of_decide_eq_true hs2_1
    refine WL_val (dd := some 13) rfl rfl rfl (r_move (v := .int .i64 _) rfl) ?_
    refine WL_val (dd := some 14) rfl rfl rfl (r_gtr rfl rfl) ?_
    refine WL_val (dd := some 15) rfl rfl rfl (r_pick_t rfl (v := .bool _) rfl) ?_
    refine WL_nil ?_
    refine hK14 _ _ ?_
    clear hK14 K13
    refine WC_cond (b := _) rfl (fun hc0 => ?_) (fun hc0 => ?_)
    ·
      try with_reducible replace hc0 := of_decide_eq_true hc0
      refine WC_seq (fun K15 hK16 => ?_)
      refine WC_region ?_
      refine WL_call (dd := some 16) rfl rfl rfl (r_call0 tb_c24) (C_drawknifelaw09_knows _) (fun v3_0 W17 hE18 hP3_0 => ?_)
      have hsz19 := Below.size hB
      replace hB := below_ext hB hE18 (Nat.le_refl _)
      replace hm0_0 := hE18.at hm0_0
      clear hE18
      clear hsz19
      obtain rfl := hP3_0
      refine WL_val (dd := some 4) rfl rfl rfl (r_assign (v := .bool _) rfl) ?_
      refine WL_nil ?_
      refine hK16 _ _ ?_
      clear hK16 K15
      refine WC_ret ?_
      repeat (first | refine thenQ_ret ?_ | refine blockQ_ret ?_)
      try clear hK12 K11
      refine ret_t (v := .bool _) rfl ?_
      refine ⟨hB, ?_⟩
      rfl
    ·
      try with_reducible replace hc0 := of_decide_eq_false hc0
      refine WC_skip ?_
      refine hK12 _ _ ?_
      clear hK12 K11
      refine WC_seq (fun K20 hK21 => ?_)
      refine WC_region ?_
      refine WL_val (dd := some 18) rfl rfl rfl (r_loadW rfl tb_ag24 rfl hm0_0) ?_
      refine WL_val (dd := some 19) rfl rfl rfl (r_move (v := .int .i64 _) rfl) ?_
      refine WL_call (dd := some 20) rfl rfl rfl (r_call2 tb_c25 (v0 := .agg #[_, _, _, _]) rfl (v1 := .int .i64 _) rfl) (C_prime_All _ _ _) (fun v4_2 W22 hE23 hP4_2 => ?_)
      have hsz24 := Below.size hB
      replace hB := below_ext hB hE23 (Nat.le_refl _)
      replace hm0_0 := hE23.at hm0_0
      clear hE23
      obtain ⟨x_hP4_2, er_hP4_2, l_hP4_2, rfl, ho_hP4_2, hc_hP4_2⟩ := all_res hP4_2
      replace ho_hP4_2 := OwT.mono ho_hP4_2 hsz24
      clear hsz24
      refine WL_val (dd := some 17) rfl rfl rfl (r_move (v := .tuple #[x_hP4_2, .int .i64 _]) rfl) ?_
      refine WL_val (dd := some 21) rfl rfl rfl (r_ext2_0 (h := rfl)) ?_
      refine WL_val (dd := some 22) rfl rfl rfl (r_ext2_1 (h := rfl)) ?_
      refine WL_val (dd := some 6) rfl rfl rfl (r_assign (v := x_hP4_2) rfl) ?_
      refine WL_val (dd := some 7) rfl rfl rfl (r_assign (v := .int .i64 _) rfl) ?_
      refine WL_nil ?_
      refine hK21 _ _ ?_
      clear hK21 K20
      refine WC_seq (fun K25 hK26 => ?_)
      refine WC_seq (fun K27 hK28 => ?_)
      refine WC_region ?_
      refine WL_val (dd := some 23) rfl rfl rfl (r_move (v := .bool _) rfl) ?_
      refine WL_val (dd := some 24) rfl rfl rfl (r_not rfl) ?_
      refine WL_nil ?_
      refine hK28 _ _ ?_
      clear hK28 K27
      refine WC_cond (b := _) rfl (fun hc1 => ?_) (fun hc1 => ?_)
      ·
        try with_reducible replace hc1 := of_decide_eq_true hc1
        refine WC_seq (fun K29 hK30 => ?_)
        have hk : ofB s n = false := by simpa using hc1
        obtain ⟨q2, q3⟩ := hc_hP4_2.elim (fun h => absurd h.1 (by rw [hk]; decide)) (fun h => h.2)
        subst q2 q3
        refine WC_region ?_
        refine WL_val (dd := some 25) rfl rfl rfl (r_move (v := x_hP4_2) rfl) ?_
        refine WL_val (dd := some 26) rfl rfl rfl (r_lenS (v := x_hP4_2) rfl ho_hP4_2.sl tb_el27) ?_
        refine WL_val (dd := some 27) rfl rfl rfl (r_eql rfl rfl) ?_
        refine WL_split (dd := some 28) rfl rfl rfl (r_move (v := .bool _) rfl) (fun hs6_3 => ?_) (fun hs6_3 => ?_)
        ·
          try with_reducible replace hs6_3 := of_decide_eq_true hs6_3
          refine WL_val (dd := some 29) rfl rfl rfl (r_move (v := .int .i64 _) rfl) ?_
          refine WL_val (dd := some 30) rfl rfl rfl (r_eql rfl rfl) ?_
          refine WL_val (dd := some 31) rfl rfl rfl (r_pick_t rfl (v := .bool _) rfl) ?_
          refine WL_split (dd := some 32) rfl rfl rfl (r_move (v := .bool _) rfl) (fun hs6_7 => ?_) (fun hs6_7 => ?_)
          ·
            try with_reducible replace hs6_7 := of_decide_eq_true hs6_7
            refine WL_call (dd := some 33) rfl rfl rfl (r_call0 tb_c24) (C_drawknifelaw09_knows _) (fun v6_8 W31 hE32 hP6_8 => ?_)
            have hsz33 := Below.size hB
            replace hB := below_ext hB hE32 (Nat.le_refl _)
            replace hm0_0 := hE32.at hm0_0
            replace ho_hP4_2 := hE32.ow ho_hP4_2
            clear hE32
            clear hsz33
            obtain rfl := hP6_8
            refine WL_val (dd := some 34) rfl rfl rfl (r_pick_t rfl (v := .bool _) rfl) ?_
            refine WL_val (dd := some 4) rfl rfl rfl (r_assign (v := .bool _) rfl) ?_
            refine WL_nil ?_
            refine hK30 _ _ ?_
            clear hK30 K29
            refine WC_ret ?_
            repeat (first | refine thenQ_ret ?_ | refine blockQ_ret ?_)
            try clear hK26 K25
            refine ret_t (v := .bool _) rfl ?_
            refine ⟨hB, ?_⟩
            rfl
          ·
            try with_reducible replace hs6_7 := of_decide_eq_false hs6_7
            exact absurd rfl hs6_7
        ·
          try with_reducible replace hs6_3 := of_decide_eq_false hs6_3
          exact absurd rfl hs6_3
      ·
        try with_reducible replace hc1 := of_decide_eq_false hc1
        refine WC_skip ?_
        refine hK26 _ _ ?_
        clear hK26 K25
        refine WC_seq (fun K34 hK35 => ?_)
        have hk : ofB s n = true := by simpa using hc1
        obtain ⟨h0, h8⟩ := of_bounds hk
        have hpl := primesL_len (s := s) h8
        obtain ⟨q2, q3⟩ := hc_hP4_2.elim (fun h => h.2) (fun h => absurd hk (by rw [h.1]; decide))
        subst q2 q3
        refine WC_region ?_
        refine WL_val (dd := some 35) rfl rfl rfl (r_move (v := x_hP4_2) rfl) ?_
        refine WL_val (dd := some 36) rfl rfl rfl (r_loadW rfl tb_ag24 rfl hm0_0) ?_
        refine WL_val (dd := some 37) rfl rfl rfl (r_move (v := .int .i64 _) rfl) ?_
        refine WL_call (dd := some 38) rfl rfl rfl (r_call2 tb_c27 (v0 := .agg #[_, _, _, _]) rfl (v1 := .int .i64 _) rfl) (C_drawkniferef09_All _ _ _ (by first | assumption | omega) (by first | assumption | omega)) (fun v7_3 W36 hE37 hP7_3 => ?_)
        have hsz38 := Below.size hB
        replace hB := below_ext hB hE37 (Nat.le_refl _)
        replace hm0_0 := hE37.at hm0_0
        replace ho_hP4_2 := hE37.ow ho_hP4_2
        clear hE37
        replace hP7_3 := OwT.mono hP7_3 hsz38
        clear hsz38
        refine WL_call (dd := some 39) rfl rfl rfl (r_call2 tb_c26 (v0 := x_hP4_2) rfl (v1 := v7_3) rfl) (C_drawkniferef09_Same _ _ _ _ _ ho_hP4_2.sl hP7_3.sl (by first | assumption | omega)) (fun v7_4 W39 hE40 hP7_4 => ?_)
        have hsz41 := Below.size hB
        replace hB := below_ext hB hE40 (Nat.le_refl _)
        replace hm0_0 := hE40.at hm0_0
        replace ho_hP4_2 := hE40.ow ho_hP4_2
        replace hP7_3 := hE40.ow hP7_3
        clear hE40
        clear hsz41
        obtain rfl := hP7_4
        refine WL_split (dd := some 40) rfl rfl rfl (r_move (v := .bool _) rfl) (fun hs7_5 => ?_) (fun hs7_5 => ?_)
        ·
          try with_reducible replace hs7_5 := of_decide_eq_true hs7_5
          refine WL_val (dd := some 41) rfl rfl rfl (r_move (v := .int .i64 _) rfl) ?_
          refine WL_val (dd := some 42) rfl rfl rfl (r_eql rfl rfl) ?_
          refine WL_val (dd := some 43) rfl rfl rfl (r_pick_t rfl (v := .bool _) rfl) ?_
          refine WL_split (dd := some 44) rfl rfl rfl (r_move (v := .bool _) rfl) (fun hs7_9 => ?_) (fun hs7_9 => ?_)
          ·
            try with_reducible replace hs7_9 := of_decide_eq_true hs7_9
            refine WL_call (dd := some 45) rfl rfl rfl (r_call0 tb_c24) (C_drawknifelaw09_knows _) (fun v7_10 W42 hE43 hP7_10 => ?_)
            have hsz44 := Below.size hB
            replace hB := below_ext hB hE43 (Nat.le_refl _)
            replace hm0_0 := hE43.at hm0_0
            replace ho_hP4_2 := hE43.ow ho_hP4_2
            replace hP7_3 := hE43.ow hP7_3
            clear hE43
            clear hsz44
            obtain rfl := hP7_10
            refine WL_val (dd := some 46) rfl rfl rfl (r_pick_t rfl (v := .bool _) rfl) ?_
            refine WL_val (dd := some 4) rfl rfl rfl (r_assign (v := .bool _) rfl) ?_
            refine WL_nil ?_
            refine hK35 _ _ ?_
            clear hK35 K34
            refine WC_ret ?_
            repeat (first | refine thenQ_ret ?_ | refine blockQ_ret ?_)
            refine ret_t (v := .bool _) rfl ?_
            refine ⟨hB, ?_⟩
            rfl
          ·
            try with_reducible replace hs7_9 := of_decide_eq_false hs7_9
            exact absurd rfl hs7_9
        ·
          try with_reducible replace hs7_5 := of_decide_eq_false hs7_5
          exact absurd rfl hs7_5
  ·
    try with_reducible replace hs2_1 := of_decide_eq_false hs2_1
    refine WL_skip (dd := some 13) rfl rfl rfl ?_
    refine WL_skip (dd := some 14) rfl rfl rfl ?_
    refine WL_val (dd := some 15) rfl rfl rfl (r_pick_f rfl (v := .bool false) rfl) ?_
    refine WL_nil ?_
    refine hK14 _ _ ?_
    clear hK14 K13
    refine WC_cond_false rfl ?_
    refine WC_skip ?_
    refine hK12 _ _ ?_
    clear hK12 K11
    refine WC_seq (fun K45 hK46 => ?_)
    refine WC_region ?_
    refine WL_val (dd := some 18) rfl rfl rfl (r_loadW rfl tb_ag24 rfl hm0_0) ?_
    refine WL_val (dd := some 19) rfl rfl rfl (r_move (v := .int .i64 _) rfl) ?_
    refine WL_call (dd := some 20) rfl rfl rfl (r_call2 tb_c25 (v0 := .agg #[_, _, _, _]) rfl (v1 := .int .i64 _) rfl) (C_prime_All _ _ _) (fun v4_2 W47 hE48 hP4_2 => ?_)
    have hsz49 := Below.size hB
    replace hB := below_ext hB hE48 (Nat.le_refl _)
    replace hm0_0 := hE48.at hm0_0
    clear hE48
    obtain ⟨x_hP4_2, er_hP4_2, l_hP4_2, rfl, ho_hP4_2, hc_hP4_2⟩ := all_res hP4_2
    replace ho_hP4_2 := OwT.mono ho_hP4_2 hsz49
    clear hsz49
    refine WL_val (dd := some 17) rfl rfl rfl (r_move (v := .tuple #[x_hP4_2, .int .i64 _]) rfl) ?_
    refine WL_val (dd := some 21) rfl rfl rfl (r_ext2_0 (h := rfl)) ?_
    refine WL_val (dd := some 22) rfl rfl rfl (r_ext2_1 (h := rfl)) ?_
    refine WL_val (dd := some 6) rfl rfl rfl (r_assign (v := x_hP4_2) rfl) ?_
    refine WL_val (dd := some 7) rfl rfl rfl (r_assign (v := .int .i64 _) rfl) ?_
    refine WL_nil ?_
    refine hK46 _ _ ?_
    clear hK46 K45
    refine WC_seq (fun K50 hK51 => ?_)
    refine WC_seq (fun K52 hK53 => ?_)
    refine WC_region ?_
    refine WL_val (dd := some 23) rfl rfl rfl (r_move (v := .bool _) rfl) ?_
    refine WL_val (dd := some 24) rfl rfl rfl (r_not rfl) ?_
    refine WL_nil ?_
    refine hK53 _ _ ?_
    clear hK53 K52
    refine WC_cond (b := _) rfl (fun hc1 => ?_) (fun hc1 => ?_)
    ·
      try with_reducible replace hc1 := of_decide_eq_true hc1
      refine WC_seq (fun K54 hK55 => ?_)
      have hk : ofB s n = false := by simpa using hc1
      obtain ⟨q2, q3⟩ := hc_hP4_2.elim (fun h => absurd h.1 (by rw [hk]; decide)) (fun h => h.2)
      subst q2 q3
      refine WC_region ?_
      refine WL_val (dd := some 25) rfl rfl rfl (r_move (v := x_hP4_2) rfl) ?_
      refine WL_val (dd := some 26) rfl rfl rfl (r_lenS (v := x_hP4_2) rfl ho_hP4_2.sl tb_el27) ?_
      refine WL_val (dd := some 27) rfl rfl rfl (r_eql rfl rfl) ?_
      refine WL_split (dd := some 28) rfl rfl rfl (r_move (v := .bool _) rfl) (fun hs6_3 => ?_) (fun hs6_3 => ?_)
      ·
        try with_reducible replace hs6_3 := of_decide_eq_true hs6_3
        refine WL_val (dd := some 29) rfl rfl rfl (r_move (v := .int .i64 _) rfl) ?_
        refine WL_val (dd := some 30) rfl rfl rfl (r_eql rfl rfl) ?_
        refine WL_val (dd := some 31) rfl rfl rfl (r_pick_t rfl (v := .bool _) rfl) ?_
        refine WL_split (dd := some 32) rfl rfl rfl (r_move (v := .bool _) rfl) (fun hs6_7 => ?_) (fun hs6_7 => ?_)
        ·
          try with_reducible replace hs6_7 := of_decide_eq_true hs6_7
          refine WL_call (dd := some 33) rfl rfl rfl (r_call0 tb_c24) (C_drawknifelaw09_knows _) (fun v6_8 W56 hE57 hP6_8 => ?_)
          have hsz58 := Below.size hB
          replace hB := below_ext hB hE57 (Nat.le_refl _)
          replace hm0_0 := hE57.at hm0_0
          replace ho_hP4_2 := hE57.ow ho_hP4_2
          clear hE57
          clear hsz58
          obtain rfl := hP6_8
          refine WL_val (dd := some 34) rfl rfl rfl (r_pick_t rfl (v := .bool _) rfl) ?_
          refine WL_val (dd := some 4) rfl rfl rfl (r_assign (v := .bool _) rfl) ?_
          refine WL_nil ?_
          refine hK55 _ _ ?_
          clear hK55 K54
          refine WC_ret ?_
          repeat (first | refine thenQ_ret ?_ | refine blockQ_ret ?_)
          try clear hK51 K50
          refine ret_t (v := .bool _) rfl ?_
          refine ⟨hB, ?_⟩
          rfl
        ·
          try with_reducible replace hs6_7 := of_decide_eq_false hs6_7
          exact absurd rfl hs6_7
      ·
        try with_reducible replace hs6_3 := of_decide_eq_false hs6_3
        exact absurd rfl hs6_3
    ·
      try with_reducible replace hc1 := of_decide_eq_false hc1
      refine WC_skip ?_
      refine hK51 _ _ ?_
      clear hK51 K50
      refine WC_seq (fun K59 hK60 => ?_)
      have hk : ofB s n = true := by simpa using hc1
      obtain ⟨h0, h8⟩ := of_bounds hk
      have hpl := primesL_len (s := s) h8
      obtain ⟨q2, q3⟩ := hc_hP4_2.elim (fun h => h.2) (fun h => absurd hk (by rw [h.1]; decide))
      subst q2 q3
      refine WC_region ?_
      refine WL_val (dd := some 35) rfl rfl rfl (r_move (v := x_hP4_2) rfl) ?_
      refine WL_val (dd := some 36) rfl rfl rfl (r_loadW rfl tb_ag24 rfl hm0_0) ?_
      refine WL_val (dd := some 37) rfl rfl rfl (r_move (v := .int .i64 _) rfl) ?_
      refine WL_call (dd := some 38) rfl rfl rfl (r_call2 tb_c27 (v0 := .agg #[_, _, _, _]) rfl (v1 := .int .i64 _) rfl) (C_drawkniferef09_All _ _ _ (by first | assumption | omega) (by first | assumption | omega)) (fun v7_3 W61 hE62 hP7_3 => ?_)
      have hsz63 := Below.size hB
      replace hB := below_ext hB hE62 (Nat.le_refl _)
      replace hm0_0 := hE62.at hm0_0
      replace ho_hP4_2 := hE62.ow ho_hP4_2
      clear hE62
      replace hP7_3 := OwT.mono hP7_3 hsz63
      clear hsz63
      refine WL_call (dd := some 39) rfl rfl rfl (r_call2 tb_c26 (v0 := x_hP4_2) rfl (v1 := v7_3) rfl) (C_drawkniferef09_Same _ _ _ _ _ ho_hP4_2.sl hP7_3.sl (by first | assumption | omega)) (fun v7_4 W64 hE65 hP7_4 => ?_)
      have hsz66 := Below.size hB
      replace hB := below_ext hB hE65 (Nat.le_refl _)
      replace hm0_0 := hE65.at hm0_0
      replace ho_hP4_2 := hE65.ow ho_hP4_2
      replace hP7_3 := hE65.ow hP7_3
      clear hE65
      clear hsz66
      obtain rfl := hP7_4
      refine WL_split (dd := some 40) rfl rfl rfl (r_move (v := .bool _) rfl) (fun hs7_5 => ?_) (fun hs7_5 => ?_)
      ·
        try with_reducible replace hs7_5 := of_decide_eq_true hs7_5
        refine WL_val (dd := some 41) rfl rfl rfl (r_move (v := .int .i64 _) rfl) ?_
        refine WL_val (dd := some 42) rfl rfl rfl (r_eql rfl rfl) ?_
        refine WL_val (dd := some 43) rfl rfl rfl (r_pick_t rfl (v := .bool _) rfl) ?_
        refine WL_split (dd := some 44) rfl rfl rfl (r_move (v := .bool _) rfl) (fun hs7_9 => ?_) (fun hs7_9 => ?_)
        ·
          try with_reducible replace hs7_9 := of_decide_eq_true hs7_9
          refine WL_call (dd := some 45) rfl rfl rfl (r_call0 tb_c24) (C_drawknifelaw09_knows _) (fun v7_10 W67 hE68 hP7_10 => ?_)
          have hsz69 := Below.size hB
          replace hB := below_ext hB hE68 (Nat.le_refl _)
          replace hm0_0 := hE68.at hm0_0
          replace ho_hP4_2 := hE68.ow ho_hP4_2
          replace hP7_3 := hE68.ow hP7_3
          clear hE68
          clear hsz69
          obtain rfl := hP7_10
          refine WL_val (dd := some 46) rfl rfl rfl (r_pick_t rfl (v := .bool _) rfl) ?_
          refine WL_val (dd := some 4) rfl rfl rfl (r_assign (v := .bool _) rfl) ?_
          refine WL_nil ?_
          refine hK60 _ _ ?_
          clear hK60 K59
          refine WC_ret ?_
          repeat (first | refine thenQ_ret ?_ | refine blockQ_ret ?_)
          refine ret_t (v := .bool _) rfl ?_
          refine ⟨hB, ?_⟩
          rfl
        ·
          try with_reducible replace hs7_9 := of_decide_eq_false hs7_9
          exact absurd rfl hs7_9
      ·
        try with_reducible replace hs7_5 := of_decide_eq_false hs7_5
        exact absurd rfl hs7_5

set_option maxRecDepth 10000 in
theorem C_drawknifelaw09_PrimeHolds (s : Nat) (n : Int) (c : Cb) (w : World) (hc : c.m < 256 ∧ c.v < 256) :
    Fn Try.prog 4 #[setV s, .int .i64 n, .agg #[.int .u8 (c.m : Int), .int .u8 (c.v : Int)]] w fun v w' => v = .bool true := by
  refine Fn_intro (n := 126) Try.func4 rfl rfl (Nat.le_of_ble_eq_true rfl) ?_
  have hB : Below w.heap.size w w := Below.refl _ _
  refine WC_seq (fun K1 hK2 => ?_)
  refine WC_region ?_
  refine WL_step (dd := some 3) rfl rfl rfl (Y_box (c := #[_, _, _, _]) rfl rfl (fun b0_0 W3 hb4 hE5 hm0_0 => ?_))
  have lo_b0_0 : w.heap.size ≤ b0_0 := hb4 ▸ Below.size hB
  clear hb4
  replace hB := below_ext hB hE5 (Nat.le_refl _)
  clear hE5
  refine WL_step (dd := some 5) rfl rfl rfl (Y_box (c := #[_, _]) rfl rfl (fun b0_1 W6 hb7 hE8 hm0_1 => ?_))
  have lo_b0_1 : w.heap.size ≤ b0_1 := hb7 ▸ Below.size hB
  clear hb7
  replace hB := below_ext hB hE8 (Nat.le_refl _)
  replace hm0_0 := hE8.at hm0_0
  clear hE8
  refine WL_val (dd := some 6) rfl rfl rfl (r_assign (v := .bool false) rfl) ?_
  refine WL_nil ?_
  refine hK2 _ _ ?_
  clear hK2 K1
  refine WC_seq (fun K9 hK10 => ?_)
  refine WC_seq (fun K11 hK12 => ?_)
  refine WC_region ?_
  refine WL_val (dd := some 14) rfl rfl rfl (r_loadW rfl tb_ag24 rfl hm0_0) ?_
  refine WL_val (dd := some 15) rfl rfl rfl (r_move (v := .int .i64 _) rfl) ?_
  refine WL_call (dd := some 16) rfl rfl rfl (r_call2 tb_c23 (v0 := .agg #[_, _, _, _]) rfl (v1 := .int .i64 _) rfl) (C_drawkniferef09_Of _ _ _) (fun v1_2 W13 hE14 hP1_2 => ?_)
  have hsz15 := Below.size hB
  replace hB := below_ext hB hE14 (Nat.le_refl _)
  replace hm0_0 := hE14.at hm0_0
  replace hm0_1 := hE14.at hm0_1
  clear hE14
  clear hsz15
  obtain rfl := hP1_2
  refine WL_val (dd := some 17) rfl rfl rfl (r_not rfl) ?_
  refine WL_nil ?_
  refine hK12 _ _ ?_
  clear hK12 K11
  refine WC_cond (b := _) rfl (fun hc0 => ?_) (fun hc0 => ?_)
  ·
    try with_reducible replace hc0 := of_decide_eq_true hc0
    refine WC_seq (fun K16 hK17 => ?_)
    refine WC_region ?_
    refine WL_call (dd := some 18) rfl rfl rfl (r_call0 tb_c24) (C_drawknifelaw09_knows _) (fun v2_0 W18 hE19 hP2_0 => ?_)
    have hsz20 := Below.size hB
    replace hB := below_ext hB hE19 (Nat.le_refl _)
    replace hm0_0 := hE19.at hm0_0
    replace hm0_1 := hE19.at hm0_1
    clear hE19
    clear hsz20
    obtain rfl := hP2_0
    refine WL_val (dd := some 6) rfl rfl rfl (r_assign (v := .bool _) rfl) ?_
    refine WL_nil ?_
    refine hK17 _ _ ?_
    clear hK17 K16
    refine WC_ret ?_
    repeat (first | refine thenQ_ret ?_ | refine blockQ_ret ?_)
    try clear hK10 K9
    refine ret_t (v := .bool _) rfl ?_
    refine ⟨hB, ?_⟩
    rfl
  ·
    try with_reducible replace hc0 := of_decide_eq_false hc0
    refine WC_skip ?_
    refine hK10 _ _ ?_
    clear hK10 K9
    refine WC_seq (fun K21 hK22 => ?_)
    refine WC_region ?_
    refine WL_val (dd := some 20) rfl rfl rfl (r_loadW rfl tb_ag24 rfl hm0_0) ?_
    refine WL_val (dd := some 21) rfl rfl rfl (r_move (v := .int .i64 _) rfl) ?_
    refine WL_call (dd := some 22) rfl rfl rfl (r_call2 tb_c25 (v0 := .agg #[_, _, _, _]) rfl (v1 := .int .i64 _) rfl) (C_prime_All _ _ _) (fun v3_2 W23 hE24 hP3_2 => ?_)
    have hsz25 := Below.size hB
    replace hB := below_ext hB hE24 (Nat.le_refl _)
    replace hm0_0 := hE24.at hm0_0
    replace hm0_1 := hE24.at hm0_1
    clear hE24
    obtain ⟨x_hP3_2, er_hP3_2, l_hP3_2, rfl, ho_hP3_2, hc_hP3_2⟩ := all_res hP3_2
    replace ho_hP3_2 := OwT.mono ho_hP3_2 hsz25
    clear hsz25
    refine WL_val (dd := some 19) rfl rfl rfl (r_move (v := .tuple #[x_hP3_2, .int .i64 _]) rfl) ?_
    refine WL_val (dd := some 23) rfl rfl rfl (r_ext2_0 (h := rfl)) ?_
    refine WL_val (dd := some 24) rfl rfl rfl (r_ext2_1 (h := rfl)) ?_
    refine WL_val (dd := some 7) rfl rfl rfl (r_assign (v := x_hP3_2) rfl) ?_
    refine WL_val (dd := some 8) rfl rfl rfl (r_assign (v := .int .i64 _) rfl) ?_
    refine WL_nil ?_
    refine hK22 _ _ ?_
    clear hK22 K21
    refine WC_seq (fun K26 hK27 => ?_)
    have hk : ofB s n = true := by simpa using hc0
    obtain ⟨h0, h8⟩ := of_bounds hk
    have hpl := primesL_len (s := s) h8
    obtain ⟨q2, q3⟩ := hc_hP3_2.elim (fun h => h.2) (fun h => absurd hk (by rw [h.1]; decide))
    subst q2 q3
    refine WC_region ?_
    refine WL_step (dd := some 9) rfl rfl rfl (Y_alloc tb_z24 rfl (fun b4_0 W28 hb29 hE30 hm4_0 => ?_))
    have lo_b4_0 : w.heap.size ≤ b4_0 := hb29 ▸ Below.size hB
    have ne_b0_0_b4_0 : b0_0 ≠ b4_0 := Nat.ne_of_lt (hb29 ▸ hm0_0.lt)
    clear hb29
    replace hB := below_ext hB hE30 (Nat.le_refl _)
    replace hm0_0 := hE30.at hm0_0
    replace hm0_1 := hE30.at hm0_1
    replace ho_hP3_2 := hE30.ow ho_hP3_2
    clear hE30
    replace hm4_0 : At W28 b4_0 #[wv 0 0, wv 0 1, wv 0 2, wv 0 3] 24 := hm4_0
    refine WL_nil ?_
    refine hK27 _ _ ?_
    clear hK27 K26
    refine WC_seq (fun K31 hK32 => ?_)
    refine WC_region ?_
    refine WL_val (dd := some 10) rfl rfl rfl (r_assign (v := .bool false) rfl) ?_
    refine WL_nil ?_
    refine hK32 _ _ ?_
    clear hK32 K31
    refine WC_seq (fun K33 hK34 => ?_)
    refine WC_seq (fun K35 hK36 => ?_)
    refine WC_region ?_
    refine WL_val (dd := some 11) rfl rfl rfl (r_assign (v := .int .i64 0) rfl) ?_
    refine WL_nil ?_
    refine hK36 _ _ ?_
    clear hK36 K35
    refine WC_block ?_
    refine WC_loop (σ := (Nat)) [6, 10, 11, 12, 13, 25, 26, 27, 28, 29, 30, 31, 32, 33, 34, 35, 36, 37, 38, 39, 40, 41, 42, 43, 44, 45, 46, 47, 48, 49, 50, 51, 52, 53, 54, 55, 56, 57, 58, 59, 60, 61, 62, 63, 64, 65, 66, 67, 68, 69, 70, 71, 72, 73, 74, 75, 76, 77, 78, 79, 80, 81, 82, 83, 84, 85, 86, 87, 88, 89, 90, 91, 92, 93, 94, 95, 96, 97, 98, 99, 100, 101, 102, 103, 104, 105] (fun i => [(11, .int .i64 (i : Int)), (10, .bool (heldTo (primesL s n) c i))]) (fun i W => (Below w.heap.size w W) ∧ (At W b0_0 _ 24) ∧ (At W b0_1 _ 34) ∧ (OwT encC 2 34 W w.heap.size x_hP3_2 _) ∧ (At W b4_0 #[wv (ptsU (primesL s n) n.toNat i) 0, wv (ptsU (primesL s n) n.toNat i) 1, wv (ptsU (primesL s n) n.toNat i) 2, wv (ptsU (primesL s n) n.toNat i) 3] 24) ∧ (i ≤ (primesL s n).length) ∧ (True)) (fun i => (primesL s n).length - i) (0) ⟨rfl, rfl, trivial⟩ ⟨hB, hm0_0, hm0_1, ho_hP3_2, hm4_0, (Nat.zero_le _), trivial⟩ ?_
    clear hB hm0_0 hm0_1 ho_hP3_2 hm4_0
    rintro i g38 W37 ⟨hB, hm0_0, hm0_1, ho_hP3_2, hm4_0, hi, _⟩ J39 hJ40
    refine WC_seq (fun K41 hK42 => ?_)
    refine WC_seq (fun K43 hK44 => ?_)
    refine WC_region ?_
    refine WL_val (dd := some 25) rfl rfl rfl (r_move (v := .int .i64 _) rfl) ?_
    refine WL_val (dd := some 26) rfl rfl rfl (r_move (v := x_hP3_2) rfl) ?_
    refine WL_val (dd := some 27) rfl rfl rfl (r_lenS (v := x_hP3_2) rfl ho_hP3_2.sl tb_el27) ?_
    refine WL_val (dd := some 28) rfl rfl rfl (r_lss rfl rfl) ?_
    refine WL_nil ?_
    refine hK44 _ _ ?_
    clear hK44 K43
    refine WC_cond (b := _) rfl (fun hc1 => ?_) (fun hc1 => ?_)
    ·
      try with_reducible replace hc1 := of_decide_eq_true hc1
      refine WC_skip ?_
      refine hK42 _ _ ?_
      clear hK42 K41
      refine WC_seq (fun K45 hK46 => ?_)
      refine WC_block ?_
      refine WC_seq (fun K47 hK48 => ?_)
      refine WC_seq (fun K49 hK50 => ?_)
      have hpi : primeB ((primesL s n).getD i ⟨0, 0⟩).m ((primesL s n).getD i ⟨0, 0⟩).v s n = true := prime_at (by omega)
      have hri := right_lt (prime_right hpi)
      have hp8 := two_pow_le h8
      refine WC_draw Ext tb_mix (fun W51 hE52 => ?_)
      replace hB := below_ext hB hE52 (Nat.le_refl _)
      replace hm0_0 := hE52.at hm0_0
      replace hm0_1 := hE52.at hm0_1
      replace ho_hP3_2 := hE52.ow ho_hP3_2
      replace hm4_0 := hE52.at hm4_0
      have hS := Ext.refl W51
      refine WT_take (dd := some 31) 0 rfl (by kernel_rfl) (by kernel_rfl) (by kernel_rfl) rfl rfl rfl (fun _wq _hq => r_move (v := x_hP3_2) rfl) hS ?_
      refine WT_take (dd := some 32) 1 rfl (by kernel_rfl) (by kernel_rfl) (by kernel_rfl) rfl rfl rfl (fun _wq _hq => r_move (v := .int .i64 _) rfl) hS ?_
      refine WT_take (dd := some 33) 2 rfl (by kernel_rfl) (by kernel_rfl) (by kernel_rfl) rfl rfl rfl (fun _wq hq => r_idxS (v := x_hP3_2) rfl ((hq.ow ho_hP3_2)).sl rfl tb_el27 (by omega) (by first | omega | (simp only [flagsTo_len, litsTo_len, firstF_len, ptF_len]; omega))) hS ?_
      refine WT_take (dd := some 34) 3 rfl (by kernel_rfl) (by kernel_rfl) (by kernel_rfl) rfl rfl rfl (fun _wq hq => r_load2 rfl tb_ag34 (SlT.cell ((hq.ow ho_hP3_2)).sl encC_len ⟨0, 0⟩ (by omega) (by first | omega | (simp only [flagsTo_len, litsTo_len, firstF_len, ptF_len]; omega)) 0 rfl) (SlT.cell ((hq.ow ho_hP3_2)).sl encC_len ⟨0, 0⟩ (by omega) (by first | omega | (simp only [flagsTo_len, litsTo_len, firstF_len, ptF_len]; omega)) 1 rfl)) hS ?_
      refine WT_take (dd := some 35) 4 rfl (by kernel_rfl) (by kernel_rfl) (by kernel_rfl) rfl rfl rfl (fun _wq hq => r_loadW rfl tb_ag24 rfl (hq.at hm0_0)) hS ?_
      refine WT_take (dd := some 36) 5 rfl (by kernel_rfl) (by kernel_rfl) (by kernel_rfl) rfl rfl rfl (fun _wq _hq => r_move (v := .int .i64 _) rfl) hS ?_
      refine WT_one (dd := some 37) 6 (by kernel_rfl) rfl rfl rfl rfl (Yd.call (r_call3 tb_c28 (v0 := .agg #[_, _]) rfl (v1 := .agg #[_, _, _, _]) rfl (v2 := .int .i64 _) rfl) (C_drawkniferef09_Prime _ _ _ _ _ (by show ((primesL s n).getD i ⟨0, 0⟩).m < 256; omega) (by show ((primesL s n).getD i ⟨0, 0⟩).v < 256; omega)) (fun v9_6 W53 hE54 hP9_6 => ⟨.inl (hS.trans hE54), ?_⟩))
      have hsz55 := Below.size hB
      have sv56_hB := hB
      have sv56_hm0_0 := hm0_0
      have sv56_hm0_1 := hm0_1
      have sv56_ho_hP3_2 := ho_hP3_2
      have sv56_hm4_0 := hm4_0
      replace hB := below_ext hB hE54 (Nat.le_refl _)
      replace hm0_0 := hE54.at hm0_0
      replace hm0_1 := hE54.at hm0_1
      replace ho_hP3_2 := hE54.ow ho_hP3_2
      replace hm4_0 := hE54.at hm4_0
      replace hS := hS.trans hE54
      clear hE54
      clear hsz55
      obtain rfl := hP9_6
      refine WT_take (dd := some 38) 7 rfl (by kernel_rfl) (by kernel_rfl) (by kernel_rfl) rfl rfl rfl (fun _wq _hq => r_not rfl) hS ?_
      refine WT_split (dd := some 39) 8 rfl (by kernel_rfl) (by kernel_rfl) (by kernel_rfl) rfl rfl rfl (fun wq hq => r_move (v := .bool _) rfl) hS (fun hs9_8 => ?_) (fun hs9_8 => ?_)
      ·
        try with_reducible replace hs9_8 := of_decide_eq_true hs9_8
        exact absurd (show primeB ((primesL s n).getD i ⟨0, 0⟩).m ((primesL s n).getD i ⟨0, 0⟩).v s n = true from hpi) (by simpa using hs9_8)
      ·
        try with_reducible replace hs9_8 := of_decide_eq_false hs9_8
        refine WT_take (dd := some 40) 9 rfl (by kernel_rfl) (by kernel_rfl) (by kernel_rfl) rfl rfl rfl (fun _wq _hq => r_move (v := .int .i64 _) rfl) hS ?_
        refine WT_take (dd := some 41) 10 rfl (by kernel_rfl) (by kernel_rfl) (by kernel_rfl) rfl rfl rfl (fun _wq _hq => r_gtr rfl rfl) hS ?_
        refine WT_split (dd := some 42) 11 rfl (by kernel_rfl) (by kernel_rfl) (by kernel_rfl) rfl rfl rfl (fun wq hq => r_move (v := .bool _) rfl) hS (fun hs9_11 => ?_) (fun hs9_11 => ?_)
        ·
          try with_reducible replace hs9_11 := of_decide_eq_true hs9_11
          refine WT_take (dd := some 43) 12 rfl (by kernel_rfl) (by kernel_rfl) (by kernel_rfl) rfl rfl rfl (fun _wq _hq => r_move (v := x_hP3_2) rfl) hS ?_
          refine WT_take (dd := some 44) 13 rfl (by kernel_rfl) (by kernel_rfl) (by kernel_rfl) rfl rfl rfl (fun _wq _hq => r_move (v := .int .i64 _) rfl) hS ?_
          refine WT_take (dd := some 45) 14 rfl (by kernel_rfl) (by kernel_rfl) (by kernel_rfl) rfl rfl rfl (fun _wq _hq => r_subI rfl rfl (by omega) (by omega)) hS ?_
          refine WT_take (dd := some 46) 15 rfl (by kernel_rfl) (by kernel_rfl) (by kernel_rfl) rfl rfl rfl (fun _wq hq => r_idxS (v := x_hP3_2) rfl ((hq.ow sv56_ho_hP3_2)).sl rfl tb_el27 (by omega) (by first | omega | (simp only [flagsTo_len, litsTo_len, firstF_len, ptF_len]; omega))) hS ?_
          refine WT_take (dd := some 47) 16 rfl (by kernel_rfl) (by kernel_rfl) (by kernel_rfl) rfl rfl rfl (fun _wq _hq => r_fieldAddr (b := _) (o := _) rfl tb_fo34_0) hS ?_
          refine WT_take (dd := some 48) 17 rfl (by kernel_rfl) (by kernel_rfl) (by kernel_rfl) rfl rfl rfl (fun _wq hq => r_load1 (v := .int .u8 _) rfl tb_sc5 (SlT.cell ((hq.ow sv56_ho_hP3_2)).sl encC_len ⟨0, 0⟩ (by omega) (by first | omega | (simp only [flagsTo_len, litsTo_len, firstF_len, ptF_len]; omega)) 0 rfl)) hS ?_
          refine WT_take (dd := some 49) 18 rfl (by kernel_rfl) (by kernel_rfl) (by kernel_rfl) rfl rfl rfl (fun _wq _hq => r_move (v := x_hP3_2) rfl) hS ?_
          refine WT_take (dd := some 50) 19 rfl (by kernel_rfl) (by kernel_rfl) (by kernel_rfl) rfl rfl rfl (fun _wq _hq => r_move (v := .int .i64 _) rfl) hS ?_
          refine WT_take (dd := some 51) 20 rfl (by kernel_rfl) (by kernel_rfl) (by kernel_rfl) rfl rfl rfl (fun _wq hq => r_idxS (v := x_hP3_2) rfl ((hq.ow sv56_ho_hP3_2)).sl rfl tb_el27 (by omega) (by first | omega | (simp only [flagsTo_len, litsTo_len, firstF_len, ptF_len]; omega))) hS ?_
          refine WT_take (dd := some 52) 21 rfl (by kernel_rfl) (by kernel_rfl) (by kernel_rfl) rfl rfl rfl (fun _wq _hq => r_fieldAddr (b := _) (o := _) rfl tb_fo34_0) hS ?_
          refine WT_take (dd := some 53) 22 rfl (by kernel_rfl) (by kernel_rfl) (by kernel_rfl) rfl rfl rfl (fun _wq hq => r_load1 (v := .int .u8 _) rfl tb_sc5 (SlT.cell ((hq.ow sv56_ho_hP3_2)).sl encC_len ⟨0, 0⟩ (by omega) (by first | omega | (simp only [flagsTo_len, litsTo_len, firstF_len, ptF_len]; omega)) 0 rfl)) hS ?_
          refine WT_take (dd := some 54) 23 rfl (by kernel_rfl) (by kernel_rfl) (by kernel_rfl) rfl rfl rfl (fun _wq _hq => r_gtr rfl rfl) hS ?_
          refine WT_split (dd := some 55) 24 rfl (by kernel_rfl) (by kernel_rfl) (by kernel_rfl) rfl rfl rfl (fun wq hq => r_move (v := .bool _) rfl) hS (fun hs9_24 => ?_) (fun hs9_24 => ?_)
          ·
            try with_reducible replace hs9_24 := of_decide_eq_true hs9_24
            exact (rise_no1 (by omega) (by omega) hs9_24).elim
          ·
            try with_reducible replace hs9_24 := of_decide_eq_false hs9_24
            refine WT_take (dd := some 56) 25 rfl (by kernel_rfl) (by kernel_rfl) (by kernel_rfl) rfl rfl rfl (fun _wq _hq => r_move (v := x_hP3_2) rfl) hS ?_
            refine WT_take (dd := some 57) 26 rfl (by kernel_rfl) (by kernel_rfl) (by kernel_rfl) rfl rfl rfl (fun _wq _hq => r_move (v := .int .i64 _) rfl) hS ?_
            refine WT_take (dd := some 58) 27 rfl (by kernel_rfl) (by kernel_rfl) (by kernel_rfl) rfl rfl rfl (fun _wq _hq => r_subI rfl rfl (by omega) (by omega)) hS ?_
            refine WT_take (dd := some 59) 28 rfl (by kernel_rfl) (by kernel_rfl) (by kernel_rfl) rfl rfl rfl (fun _wq hq => r_idxS (v := x_hP3_2) rfl ((hq.ow sv56_ho_hP3_2)).sl rfl tb_el27 (by omega) (by first | omega | (simp only [flagsTo_len, litsTo_len, firstF_len, ptF_len]; omega))) hS ?_
            refine WT_take (dd := some 60) 29 rfl (by kernel_rfl) (by kernel_rfl) (by kernel_rfl) rfl rfl rfl (fun _wq _hq => r_fieldAddr (b := _) (o := _) rfl tb_fo34_0) hS ?_
            refine WT_take (dd := some 61) 30 rfl (by kernel_rfl) (by kernel_rfl) (by kernel_rfl) rfl rfl rfl (fun _wq hq => r_load1 (v := .int .u8 _) rfl tb_sc5 (SlT.cell ((hq.ow sv56_ho_hP3_2)).sl encC_len ⟨0, 0⟩ (by omega) (by first | omega | (simp only [flagsTo_len, litsTo_len, firstF_len, ptF_len]; omega)) 0 rfl)) hS ?_
            refine WT_take (dd := some 62) 31 rfl (by kernel_rfl) (by kernel_rfl) (by kernel_rfl) rfl rfl rfl (fun _wq _hq => r_move (v := x_hP3_2) rfl) hS ?_
            refine WT_take (dd := some 63) 32 rfl (by kernel_rfl) (by kernel_rfl) (by kernel_rfl) rfl rfl rfl (fun _wq _hq => r_move (v := .int .i64 _) rfl) hS ?_
            refine WT_take (dd := some 64) 33 rfl (by kernel_rfl) (by kernel_rfl) (by kernel_rfl) rfl rfl rfl (fun _wq hq => r_idxS (v := x_hP3_2) rfl ((hq.ow sv56_ho_hP3_2)).sl rfl tb_el27 (by omega) (by first | omega | (simp only [flagsTo_len, litsTo_len, firstF_len, ptF_len]; omega))) hS ?_
            refine WT_take (dd := some 65) 34 rfl (by kernel_rfl) (by kernel_rfl) (by kernel_rfl) rfl rfl rfl (fun _wq _hq => r_fieldAddr (b := _) (o := _) rfl tb_fo34_0) hS ?_
            refine WT_take (dd := some 66) 35 rfl (by kernel_rfl) (by kernel_rfl) (by kernel_rfl) rfl rfl rfl (fun _wq hq => r_load1 (v := .int .u8 _) rfl tb_sc5 (SlT.cell ((hq.ow sv56_ho_hP3_2)).sl encC_len ⟨0, 0⟩ (by omega) (by first | omega | (simp only [flagsTo_len, litsTo_len, firstF_len, ptF_len]; omega)) 0 rfl)) hS ?_
            refine WT_take (dd := some 67) 36 rfl (by kernel_rfl) (by kernel_rfl) (by kernel_rfl) rfl rfl rfl (fun _wq _hq => r_eql rfl rfl) hS ?_
            refine WT_split (dd := some 68) 37 rfl (by kernel_rfl) (by kernel_rfl) (by kernel_rfl) rfl rfl rfl (fun wq hq => r_move (v := .bool _) rfl) hS (fun hs9_37 => ?_) (fun hs9_37 => ?_)
            ·
              try with_reducible replace hs9_37 := of_decide_eq_true hs9_37
              refine WT_take (dd := some 69) 38 rfl (by kernel_rfl) (by kernel_rfl) (by kernel_rfl) rfl rfl rfl (fun _wq _hq => r_move (v := x_hP3_2) rfl) hS ?_
              refine WT_take (dd := some 70) 39 rfl (by kernel_rfl) (by kernel_rfl) (by kernel_rfl) rfl rfl rfl (fun _wq _hq => r_move (v := .int .i64 _) rfl) hS ?_
              refine WT_take (dd := some 71) 40 rfl (by kernel_rfl) (by kernel_rfl) (by kernel_rfl) rfl rfl rfl (fun _wq _hq => r_subI rfl rfl (by omega) (by omega)) hS ?_
              refine WT_take (dd := some 72) 41 rfl (by kernel_rfl) (by kernel_rfl) (by kernel_rfl) rfl rfl rfl (fun _wq hq => r_idxS (v := x_hP3_2) rfl ((hq.ow sv56_ho_hP3_2)).sl rfl tb_el27 (by omega) (by first | omega | (simp only [flagsTo_len, litsTo_len, firstF_len, ptF_len]; omega))) hS ?_
              refine WT_take (dd := some 73) 42 rfl (by kernel_rfl) (by kernel_rfl) (by kernel_rfl) rfl rfl rfl (fun _wq _hq => r_fieldAddr (b := _) (o := _) rfl tb_fo34_1) hS ?_
              refine WT_take (dd := some 74) 43 rfl (by kernel_rfl) (by kernel_rfl) (by kernel_rfl) rfl rfl rfl (fun _wq hq => r_load1 (v := .int .u8 _) rfl tb_sc5 (SlT.cell ((hq.ow sv56_ho_hP3_2)).sl encC_len ⟨0, 0⟩ (by omega) (by first | omega | (simp only [flagsTo_len, litsTo_len, firstF_len, ptF_len]; omega)) 1 rfl)) hS ?_
              refine WT_take (dd := some 75) 44 rfl (by kernel_rfl) (by kernel_rfl) (by kernel_rfl) rfl rfl rfl (fun _wq _hq => r_move (v := x_hP3_2) rfl) hS ?_
              refine WT_take (dd := some 76) 45 rfl (by kernel_rfl) (by kernel_rfl) (by kernel_rfl) rfl rfl rfl (fun _wq _hq => r_move (v := .int .i64 _) rfl) hS ?_
              refine WT_take (dd := some 77) 46 rfl (by kernel_rfl) (by kernel_rfl) (by kernel_rfl) rfl rfl rfl (fun _wq hq => r_idxS (v := x_hP3_2) rfl ((hq.ow sv56_ho_hP3_2)).sl rfl tb_el27 (by omega) (by first | omega | (simp only [flagsTo_len, litsTo_len, firstF_len, ptF_len]; omega))) hS ?_
              refine WT_take (dd := some 78) 47 rfl (by kernel_rfl) (by kernel_rfl) (by kernel_rfl) rfl rfl rfl (fun _wq _hq => r_fieldAddr (b := _) (o := _) rfl tb_fo34_1) hS ?_
              refine WT_take (dd := some 79) 48 rfl (by kernel_rfl) (by kernel_rfl) (by kernel_rfl) rfl rfl rfl (fun _wq hq => r_load1 (v := .int .u8 _) rfl tb_sc5 (SlT.cell ((hq.ow sv56_ho_hP3_2)).sl encC_len ⟨0, 0⟩ (by omega) (by first | omega | (simp only [flagsTo_len, litsTo_len, firstF_len, ptF_len]; omega)) 1 rfl)) hS ?_
              refine WT_take (dd := some 80) 49 rfl (by kernel_rfl) (by kernel_rfl) (by kernel_rfl) rfl rfl rfl (fun _wq _hq => r_geq rfl rfl) hS ?_
              refine WT_take (dd := some 81) 50 rfl (by kernel_rfl) (by kernel_rfl) (by kernel_rfl) rfl rfl rfl (fun _wq _hq => r_pick_t rfl (v := .bool _) rfl) hS ?_
              refine WT_take (dd := some 82) 51 rfl (by kernel_rfl) (by kernel_rfl) (by kernel_rfl) rfl rfl rfl (fun _wq _hq => r_pick_f rfl (v := .bool _) rfl) hS ?_
              refine WT_take (dd := some 83) 52 rfl (by kernel_rfl) (by kernel_rfl) (by kernel_rfl) rfl rfl rfl (fun _wq _hq => r_pick_t rfl (v := .bool _) rfl) hS ?_
              refine WT_take (dd := some 84) 53 rfl (by kernel_rfl) (by kernel_rfl) (by kernel_rfl) rfl rfl rfl (fun _wq _hq => r_pick_f rfl (v := .bool _) rfl) hS ?_
              refine WT_done (by kernel_rfl) ?_
              try clear sv56_hB sv56_hm0_0 sv56_hm0_1 sv56_ho_hP3_2 sv56_hm4_0
              refine hK50 _ _ ?_
              clear hK50 K49
              refine WC_cond (b := _) rfl (fun hc2 => ?_) (fun hc2 => ?_)
              ·
                try with_reducible replace hc2 := of_decide_eq_true hc2
                exact (rise_no2 (by omega) (by omega) hs9_37 hc2).elim
              ·
                try with_reducible replace hc2 := of_decide_eq_false hc2
                refine WC_skip ?_
                refine hK48 _ _ ?_
                clear hK48 K47
                refine WC_seq (fun K57 hK58 => ?_)
                refine WC_region ?_
                refine WL_val (dd := some 86) rfl rfl rfl (r_move (v := x_hP3_2) rfl) ?_
                refine WL_val (dd := some 87) rfl rfl rfl (r_move (v := .int .i64 _) rfl) ?_
                refine WL_val (dd := some 88) rfl rfl rfl (r_idxS (v := x_hP3_2) rfl ho_hP3_2.sl rfl tb_el27 (by omega) (by first | omega | (simp only [flagsTo_len, litsTo_len, firstF_len, ptF_len]; omega))) ?_
                refine WL_val (dd := some 89) rfl rfl rfl (r_load2 rfl tb_ag34 (SlT.cell ho_hP3_2.sl encC_len ⟨0, 0⟩ (by omega) (by first | omega | (simp only [flagsTo_len, litsTo_len, firstF_len, ptF_len]; omega)) 0 rfl) (SlT.cell ho_hP3_2.sl encC_len ⟨0, 0⟩ (by omega) (by first | omega | (simp only [flagsTo_len, litsTo_len, firstF_len, ptF_len]; omega)) 1 rfl)) ?_
                refine WL_val (dd := some 90) rfl rfl rfl (r_move (v := .int .i64 _) rfl) ?_
                refine WL_call (dd := some 91) rfl rfl rfl (r_call2 tb_c29 (v0 := .agg #[_, _]) rfl (v1 := .int .i64 _) rfl) (C_cube_Points _ _ _ _ (by show ((primesL s n).getD i ⟨0, 0⟩).m < 256; omega) (by show ((primesL s n).getD i ⟨0, 0⟩).v < 256; omega)) (fun v11_5 W59 hE60 hP11_5 => ?_)
                have hsz61 := Below.size hB
                replace hB := below_ext hB hE60 (Nat.le_refl _)
                replace hm0_0 := hE60.at hm0_0
                replace hm0_1 := hE60.at hm0_1
                replace ho_hP3_2 := hE60.ow ho_hP3_2
                replace hm4_0 := hE60.at hm4_0
                clear hE60
                simp only [Int.toNat_natCast] at hP11_5
                rw [if_pos (prime_right (show primeB ((primesL s n).getD i ⟨0, 0⟩).m ((primesL s n).getD i ⟨0, 0⟩).v s n = true from hpi))] at hP11_5
                obtain rfl := hP11_5
                clear hsz61
                refine WL_val (dd := some 85) rfl rfl rfl (r_move (v := .tuple #[.agg #[_, _, _, _], .int .i64 _]) rfl) ?_
                refine WL_val (dd := some 92) rfl rfl rfl (r_ext2_0 (h := rfl)) ?_
                refine WL_val (dd := some 93) rfl rfl rfl (r_ext2_1 (h := rfl)) ?_
                refine WL_step (dd := some 12) rfl rfl rfl (Y_alloc tb_z24 rfl (fun b11_9 W62 hb63 hE64 hm11_9 => ?_))
                have lo_b11_9 : w.heap.size ≤ b11_9 := hb63 ▸ Below.size hB
                have ne_b0_0_b11_9 : b0_0 ≠ b11_9 := Nat.ne_of_lt (hb63 ▸ hm0_0.lt)
                have ne_b4_0_b11_9 : b4_0 ≠ b11_9 := Nat.ne_of_lt (hb63 ▸ hm4_0.lt)
                clear hb63
                replace hB := below_ext hB hE64 (Nat.le_refl _)
                replace hm0_0 := hE64.at hm0_0
                replace hm0_1 := hE64.at hm0_1
                replace ho_hP3_2 := hE64.ow ho_hP3_2
                replace hm4_0 := hE64.at hm4_0
                clear hE64
                replace hm11_9 : At W62 b11_9 #[wv 0 0, wv 0 1, wv 0 2, wv 0 3] 24 := hm11_9
                refine WL_step (dd := none) rfl rfl rfl (Y_storeW rfl rfl tb_ag24 rfl hm11_9 rfl (by rfl) (fun W65 hG66 hm67 => ?_))
                replace hB := below_grown hB hG66 (Nat.le_refl _) (fun j hj => by cases hj; exact lo_b11_9)
                replace hm0_0 := At.grownNe hm0_0 ne_b0_0_b11_9 hG66
                replace hm0_1 := At.grownAt hm0_1 hm11_9 hG66 (by decide)
                replace ho_hP3_2 := OwT.grownAt ho_hP3_2 hm11_9 hG66 (by decide)
                replace hm4_0 := At.grownNe hm4_0 ne_b4_0_b11_9 hG66
                clear hG66 hm11_9
                have hm11_9 := hm67
                clear hm67
                refine WL_val (dd := some 13) rfl rfl rfl (r_assign (v := .int .i64 _) rfl) ?_
                refine WL_nil ?_
                refine hK58 _ _ ?_
                clear hK58 K57
                refine WC_seq (fun K68 hK69 => ?_)
                refine WC_region ?_
                refine WL_val (dd := some 94) rfl rfl rfl (r_loadW rfl tb_ag24 rfl hm4_0) ?_
                refine WL_val (dd := some 95) rfl rfl rfl (r_loadW rfl tb_ag24 rfl hm11_9) ?_
                refine WL_call (dd := some 96) rfl rfl rfl (r_call2 tb_c30 (v0 := .agg #[_, _, _, _]) rfl (v1 := .agg #[_, _, _, _]) rfl) (C_set_Or _ _ _) (fun v12_2 W70 hE71 hP12_2 => ?_)
                have hsz72 := Below.size hB
                replace hB := below_ext hB hE71 (Nat.le_refl _)
                replace hm0_0 := hE71.at hm0_0
                replace hm0_1 := hE71.at hm0_1
                replace ho_hP3_2 := hE71.ow ho_hP3_2
                replace hm4_0 := hE71.at hm4_0
                replace hm11_9 := hE71.at hm11_9
                clear hE71
                clear hsz72
                obtain rfl := hP12_2
                refine WL_step (dd := none) rfl rfl rfl (Y_storeW rfl rfl tb_ag24 rfl hm4_0 rfl (by rfl) (fun W73 hG74 hm75 => ?_))
                replace hB := below_grown hB hG74 (Nat.le_refl _) (fun j hj => by cases hj; exact lo_b4_0)
                replace hm0_0 := At.grownNe hm0_0 ne_b0_0_b4_0 hG74
                replace hm0_1 := At.grownAt hm0_1 hm4_0 hG74 (by decide)
                replace ho_hP3_2 := OwT.grownAt ho_hP3_2 hm4_0 hG74 (by decide)
                replace hm11_9 := At.grownNe hm11_9 (Ne.symm ne_b4_0_b11_9) hG74
                clear hG74 hm4_0
                have hm4_0 := hm75
                clear hm75
                refine WL_nil ?_
                refine hK69 _ _ ?_
                clear hK69 K68
                refine WC_draw Ext tb_mix (fun W76 hE77 => ?_)
                replace hB := below_ext hB hE77 (Nat.le_refl _)
                replace hm0_0 := hE77.at hm0_0
                replace hm0_1 := hE77.at hm0_1
                replace ho_hP3_2 := hE77.ow ho_hP3_2
                replace hm4_0 := hE77.at hm4_0
                replace hm11_9 := hE77.at hm11_9
                have hS := Ext.refl W76
                refine WT_take (dd := some 97) 0 rfl (by kernel_rfl) (by kernel_rfl) (by kernel_rfl) rfl rfl rfl (fun _wq _hq => r_move (v := .bool _) rfl) hS ?_
                refine WT_split (dd := some 98) 1 rfl (by kernel_rfl) (by kernel_rfl) (by kernel_rfl) rfl rfl rfl (fun wq hq => r_move (v := .bool _) rfl) hS (fun hs13_1 => ?_) (fun hs13_1 => ?_)
                ·
                  try with_reducible replace hs13_1 := of_decide_eq_true hs13_1
                  refine WT_pass (dd := some 99) 2 rfl (by kernel_rfl) (by kernel_rfl) (by kernel_rfl) rfl rfl rfl hS ?_
                  refine WT_pass (dd := some 100) 3 rfl (by kernel_rfl) (by kernel_rfl) (by kernel_rfl) rfl rfl rfl hS ?_
                  refine WT_pass (dd := some 101) 4 rfl (by kernel_rfl) (by kernel_rfl) (by kernel_rfl) rfl rfl rfl hS ?_
                  refine WT_pass (dd := some 102) 5 rfl (by kernel_rfl) (by kernel_rfl) (by kernel_rfl) rfl rfl rfl hS ?_
                  refine WT_pass (dd := some 103) 6 rfl (by kernel_rfl) (by kernel_rfl) (by kernel_rfl) rfl rfl rfl hS ?_
                  refine WT_pass (dd := some 104) 7 rfl (by kernel_rfl) (by kernel_rfl) (by kernel_rfl) rfl rfl rfl hS ?_
                  refine WT_take (dd := some 105) 8 rfl (by kernel_rfl) (by kernel_rfl) (by kernel_rfl) rfl rfl rfl (fun _wq _hq => r_pick_t rfl (v := .bool true) rfl) hS ?_
                  refine WT_take (dd := some 10) 9 rfl (by kernel_rfl) (by kernel_rfl) (by kernel_rfl) rfl rfl rfl (fun _wq _hq => r_assign (v := .bool true) rfl) hS ?_
                  refine WT_done (by kernel_rfl) ?_
                  refine hK46 _ _ ?_
                  clear hK46 K45
                  refine WC_region ?_
                  refine WL_val (dd := some 29) rfl rfl rfl (r_move (v := .int .i64 _) rfl) ?_
                  refine WL_val (dd := some 30) rfl rfl rfl (r_addI rfl rfl (by omega) (by omega)) ?_
                  refine WL_val (dd := some 11) rfl rfl rfl (r_assign (v := .int .i64 _) rfl) ?_
                  refine WL_nil ?_
                  refine hJ40 _ _ (i + 1) ?_ ?_ ?_ ?_
                  · repeat (first | exact agree.mask _ _ _ | refine agree.updo ?_ rfl _ | refine agree.updL ?_ _ rfl | refine agree.maskS rfl ?_)
                  · exact ⟨rfl, (by first | exact congrArg Value.bool (held_t hs13_1) | exact congrArg Value.bool (held_f hs13_1)), trivial⟩
                  · exact ⟨hB, hm0_0, hm0_1, ho_hP3_2, (by exact hm4_0), (by omega), trivial⟩
                  · first | omega | (dsimp only; omega)
                ·
                  try with_reducible replace hs13_1 := of_decide_eq_false hs13_1
                  refine WT_take (dd := some 99) 2 rfl (by kernel_rfl) (by kernel_rfl) (by kernel_rfl) rfl rfl rfl (fun _wq _hq => r_move (v := x_hP3_2) rfl) hS ?_
                  refine WT_take (dd := some 100) 3 rfl (by kernel_rfl) (by kernel_rfl) (by kernel_rfl) rfl rfl rfl (fun _wq _hq => r_move (v := .int .i64 _) rfl) hS ?_
                  refine WT_take (dd := some 101) 4 rfl (by kernel_rfl) (by kernel_rfl) (by kernel_rfl) rfl rfl rfl (fun _wq hq => r_idxS (v := x_hP3_2) rfl ((hq.ow ho_hP3_2)).sl rfl tb_el27 (by omega) (by first | omega | (simp only [flagsTo_len, litsTo_len, firstF_len, ptF_len]; omega))) hS ?_
                  refine WT_take (dd := some 102) 5 rfl (by kernel_rfl) (by kernel_rfl) (by kernel_rfl) rfl rfl rfl (fun _wq hq => r_load2 rfl tb_ag34 (SlT.cell ((hq.ow ho_hP3_2)).sl encC_len ⟨0, 0⟩ (by omega) (by first | omega | (simp only [flagsTo_len, litsTo_len, firstF_len, ptF_len]; omega)) 0 rfl) (SlT.cell ((hq.ow ho_hP3_2)).sl encC_len ⟨0, 0⟩ (by omega) (by first | omega | (simp only [flagsTo_len, litsTo_len, firstF_len, ptF_len]; omega)) 1 rfl)) hS ?_
                  refine WT_take (dd := some 103) 6 rfl (by kernel_rfl) (by kernel_rfl) (by kernel_rfl) rfl rfl rfl (fun _wq hq => r_loadW rfl tb_ag34 rfl (hq.at hm0_1)) hS ?_
                  refine WT_one (dd := some 104) 7 (by kernel_rfl) rfl rfl rfl rfl (Yd.call (r_call2 tb_c31 (v0 := .agg #[_, _]) rfl (v1 := .agg #[_, _]) rfl) (C_cube_Holds _ _ _ _ _ (by show ((primesL s n).getD i ⟨0, 0⟩).m < 256; omega) (by show ((primesL s n).getD i ⟨0, 0⟩).v < 256; omega) hc.1 hc.2) (fun v13_7 W78 hE79 hP13_7 => ⟨.inl (hS.trans hE79), ?_⟩))
                  have hsz80 := Below.size hB
                  have sv81_hB := hB
                  have sv81_hm0_0 := hm0_0
                  have sv81_hm0_1 := hm0_1
                  have sv81_ho_hP3_2 := ho_hP3_2
                  have sv81_hm4_0 := hm4_0
                  have sv81_hm11_9 := hm11_9
                  replace hB := below_ext hB hE79 (Nat.le_refl _)
                  replace hm0_0 := hE79.at hm0_0
                  replace hm0_1 := hE79.at hm0_1
                  replace ho_hP3_2 := hE79.ow ho_hP3_2
                  replace hm4_0 := hE79.at hm4_0
                  replace hm11_9 := hE79.at hm11_9
                  replace hS := hS.trans hE79
                  clear hE79
                  clear hsz80
                  obtain rfl := hP13_7
                  refine WT_take (dd := some 105) 8 rfl (by kernel_rfl) (by kernel_rfl) (by kernel_rfl) rfl rfl rfl (fun _wq _hq => r_pick_f rfl (v := .bool _) rfl) hS ?_
                  refine WT_take (dd := some 10) 9 rfl (by kernel_rfl) (by kernel_rfl) (by kernel_rfl) rfl rfl rfl (fun _wq _hq => r_assign (v := .bool _) rfl) hS ?_
                  refine WT_done (by kernel_rfl) ?_
                  try clear sv81_hB sv81_hm0_0 sv81_hm0_1 sv81_ho_hP3_2 sv81_hm4_0 sv81_hm11_9
                  refine hK46 _ _ ?_
                  clear hK46 K45
                  refine WC_region ?_
                  refine WL_val (dd := some 29) rfl rfl rfl (r_move (v := .int .i64 _) rfl) ?_
                  refine WL_val (dd := some 30) rfl rfl rfl (r_addI rfl rfl (by omega) (by omega)) ?_
                  refine WL_val (dd := some 11) rfl rfl rfl (r_assign (v := .int .i64 _) rfl) ?_
                  refine WL_nil ?_
                  refine hJ40 _ _ (i + 1) ?_ ?_ ?_ ?_
                  · repeat (first | exact agree.mask _ _ _ | refine agree.updo ?_ rfl _ | refine agree.updL ?_ _ rfl | refine agree.maskS rfl ?_)
                  · exact ⟨rfl, (by first | exact congrArg Value.bool (held_t hs13_1) | exact congrArg Value.bool (held_f hs13_1)), trivial⟩
                  · exact ⟨hB, hm0_0, hm0_1, ho_hP3_2, (by exact hm4_0), (by omega), trivial⟩
                  · first | omega | (dsimp only; omega)
            ·
              try with_reducible replace hs9_37 := of_decide_eq_false hs9_37
              refine WT_pass (dd := some 69) 38 rfl (by kernel_rfl) (by kernel_rfl) (by kernel_rfl) rfl rfl rfl hS ?_
              refine WT_pass (dd := some 70) 39 rfl (by kernel_rfl) (by kernel_rfl) (by kernel_rfl) rfl rfl rfl hS ?_
              refine WT_pass (dd := some 71) 40 rfl (by kernel_rfl) (by kernel_rfl) (by kernel_rfl) rfl rfl rfl hS ?_
              refine WT_pass (dd := some 72) 41 rfl (by kernel_rfl) (by kernel_rfl) (by kernel_rfl) rfl rfl rfl hS ?_
              refine WT_pass (dd := some 73) 42 rfl (by kernel_rfl) (by kernel_rfl) (by kernel_rfl) rfl rfl rfl hS ?_
              refine WT_pass (dd := some 74) 43 rfl (by kernel_rfl) (by kernel_rfl) (by kernel_rfl) rfl rfl rfl hS ?_
              refine WT_pass (dd := some 75) 44 rfl (by kernel_rfl) (by kernel_rfl) (by kernel_rfl) rfl rfl rfl hS ?_
              refine WT_pass (dd := some 76) 45 rfl (by kernel_rfl) (by kernel_rfl) (by kernel_rfl) rfl rfl rfl hS ?_
              refine WT_pass (dd := some 77) 46 rfl (by kernel_rfl) (by kernel_rfl) (by kernel_rfl) rfl rfl rfl hS ?_
              refine WT_pass (dd := some 78) 47 rfl (by kernel_rfl) (by kernel_rfl) (by kernel_rfl) rfl rfl rfl hS ?_
              refine WT_pass (dd := some 79) 48 rfl (by kernel_rfl) (by kernel_rfl) (by kernel_rfl) rfl rfl rfl hS ?_
              refine WT_pass (dd := some 80) 49 rfl (by kernel_rfl) (by kernel_rfl) (by kernel_rfl) rfl rfl rfl hS ?_
              refine WT_take (dd := some 81) 50 rfl (by kernel_rfl) (by kernel_rfl) (by kernel_rfl) rfl rfl rfl (fun _wq _hq => r_pick_f rfl (v := .bool false) rfl) hS ?_
              refine WT_take (dd := some 82) 51 rfl (by kernel_rfl) (by kernel_rfl) (by kernel_rfl) rfl rfl rfl (fun _wq _hq => r_pick_f rfl (v := .bool false) rfl) hS ?_
              refine WT_take (dd := some 83) 52 rfl (by kernel_rfl) (by kernel_rfl) (by kernel_rfl) rfl rfl rfl (fun _wq _hq => r_pick_t rfl (v := .bool false) rfl) hS ?_
              refine WT_take (dd := some 84) 53 rfl (by kernel_rfl) (by kernel_rfl) (by kernel_rfl) rfl rfl rfl (fun _wq _hq => r_pick_f rfl (v := .bool false) rfl) hS ?_
              refine WT_done (by kernel_rfl) ?_
              try clear sv56_hB sv56_hm0_0 sv56_hm0_1 sv56_ho_hP3_2 sv56_hm4_0
              refine hK50 _ _ ?_
              clear hK50 K49
              refine WC_cond_false rfl ?_
              refine WC_skip ?_
              refine hK48 _ _ ?_
              clear hK48 K47
              refine WC_seq (fun K82 hK83 => ?_)
              refine WC_region ?_
              refine WL_val (dd := some 86) rfl rfl rfl (r_move (v := x_hP3_2) rfl) ?_
              refine WL_val (dd := some 87) rfl rfl rfl (r_move (v := .int .i64 _) rfl) ?_
              refine WL_val (dd := some 88) rfl rfl rfl (r_idxS (v := x_hP3_2) rfl ho_hP3_2.sl rfl tb_el27 (by omega) (by first | omega | (simp only [flagsTo_len, litsTo_len, firstF_len, ptF_len]; omega))) ?_
              refine WL_val (dd := some 89) rfl rfl rfl (r_load2 rfl tb_ag34 (SlT.cell ho_hP3_2.sl encC_len ⟨0, 0⟩ (by omega) (by first | omega | (simp only [flagsTo_len, litsTo_len, firstF_len, ptF_len]; omega)) 0 rfl) (SlT.cell ho_hP3_2.sl encC_len ⟨0, 0⟩ (by omega) (by first | omega | (simp only [flagsTo_len, litsTo_len, firstF_len, ptF_len]; omega)) 1 rfl)) ?_
              refine WL_val (dd := some 90) rfl rfl rfl (r_move (v := .int .i64 _) rfl) ?_
              refine WL_call (dd := some 91) rfl rfl rfl (r_call2 tb_c29 (v0 := .agg #[_, _]) rfl (v1 := .int .i64 _) rfl) (C_cube_Points _ _ _ _ (by show ((primesL s n).getD i ⟨0, 0⟩).m < 256; omega) (by show ((primesL s n).getD i ⟨0, 0⟩).v < 256; omega)) (fun v11_5 W84 hE85 hP11_5 => ?_)
              have hsz86 := Below.size hB
              replace hB := below_ext hB hE85 (Nat.le_refl _)
              replace hm0_0 := hE85.at hm0_0
              replace hm0_1 := hE85.at hm0_1
              replace ho_hP3_2 := hE85.ow ho_hP3_2
              replace hm4_0 := hE85.at hm4_0
              clear hE85
              simp only [Int.toNat_natCast] at hP11_5
              rw [if_pos (prime_right (show primeB ((primesL s n).getD i ⟨0, 0⟩).m ((primesL s n).getD i ⟨0, 0⟩).v s n = true from hpi))] at hP11_5
              obtain rfl := hP11_5
              clear hsz86
              refine WL_val (dd := some 85) rfl rfl rfl (r_move (v := .tuple #[.agg #[_, _, _, _], .int .i64 _]) rfl) ?_
              refine WL_val (dd := some 92) rfl rfl rfl (r_ext2_0 (h := rfl)) ?_
              refine WL_val (dd := some 93) rfl rfl rfl (r_ext2_1 (h := rfl)) ?_
              refine WL_step (dd := some 12) rfl rfl rfl (Y_alloc tb_z24 rfl (fun b11_9 W87 hb88 hE89 hm11_9 => ?_))
              have lo_b11_9 : w.heap.size ≤ b11_9 := hb88 ▸ Below.size hB
              have ne_b0_0_b11_9 : b0_0 ≠ b11_9 := Nat.ne_of_lt (hb88 ▸ hm0_0.lt)
              have ne_b4_0_b11_9 : b4_0 ≠ b11_9 := Nat.ne_of_lt (hb88 ▸ hm4_0.lt)
              clear hb88
              replace hB := below_ext hB hE89 (Nat.le_refl _)
              replace hm0_0 := hE89.at hm0_0
              replace hm0_1 := hE89.at hm0_1
              replace ho_hP3_2 := hE89.ow ho_hP3_2
              replace hm4_0 := hE89.at hm4_0
              clear hE89
              replace hm11_9 : At W87 b11_9 #[wv 0 0, wv 0 1, wv 0 2, wv 0 3] 24 := hm11_9
              refine WL_step (dd := none) rfl rfl rfl (Y_storeW rfl rfl tb_ag24 rfl hm11_9 rfl (by rfl) (fun W90 hG91 hm92 => ?_))
              replace hB := below_grown hB hG91 (Nat.le_refl _) (fun j hj => by cases hj; exact lo_b11_9)
              replace hm0_0 := At.grownNe hm0_0 ne_b0_0_b11_9 hG91
              replace hm0_1 := At.grownAt hm0_1 hm11_9 hG91 (by decide)
              replace ho_hP3_2 := OwT.grownAt ho_hP3_2 hm11_9 hG91 (by decide)
              replace hm4_0 := At.grownNe hm4_0 ne_b4_0_b11_9 hG91
              clear hG91 hm11_9
              have hm11_9 := hm92
              clear hm92
              refine WL_val (dd := some 13) rfl rfl rfl (r_assign (v := .int .i64 _) rfl) ?_
              refine WL_nil ?_
              refine hK83 _ _ ?_
              clear hK83 K82
              refine WC_seq (fun K93 hK94 => ?_)
              refine WC_region ?_
              refine WL_val (dd := some 94) rfl rfl rfl (r_loadW rfl tb_ag24 rfl hm4_0) ?_
              refine WL_val (dd := some 95) rfl rfl rfl (r_loadW rfl tb_ag24 rfl hm11_9) ?_
              refine WL_call (dd := some 96) rfl rfl rfl (r_call2 tb_c30 (v0 := .agg #[_, _, _, _]) rfl (v1 := .agg #[_, _, _, _]) rfl) (C_set_Or _ _ _) (fun v12_2 W95 hE96 hP12_2 => ?_)
              have hsz97 := Below.size hB
              replace hB := below_ext hB hE96 (Nat.le_refl _)
              replace hm0_0 := hE96.at hm0_0
              replace hm0_1 := hE96.at hm0_1
              replace ho_hP3_2 := hE96.ow ho_hP3_2
              replace hm4_0 := hE96.at hm4_0
              replace hm11_9 := hE96.at hm11_9
              clear hE96
              clear hsz97
              obtain rfl := hP12_2
              refine WL_step (dd := none) rfl rfl rfl (Y_storeW rfl rfl tb_ag24 rfl hm4_0 rfl (by rfl) (fun W98 hG99 hm100 => ?_))
              replace hB := below_grown hB hG99 (Nat.le_refl _) (fun j hj => by cases hj; exact lo_b4_0)
              replace hm0_0 := At.grownNe hm0_0 ne_b0_0_b4_0 hG99
              replace hm0_1 := At.grownAt hm0_1 hm4_0 hG99 (by decide)
              replace ho_hP3_2 := OwT.grownAt ho_hP3_2 hm4_0 hG99 (by decide)
              replace hm11_9 := At.grownNe hm11_9 (Ne.symm ne_b4_0_b11_9) hG99
              clear hG99 hm4_0
              have hm4_0 := hm100
              clear hm100
              refine WL_nil ?_
              refine hK94 _ _ ?_
              clear hK94 K93
              refine WC_draw Ext tb_mix (fun W101 hE102 => ?_)
              replace hB := below_ext hB hE102 (Nat.le_refl _)
              replace hm0_0 := hE102.at hm0_0
              replace hm0_1 := hE102.at hm0_1
              replace ho_hP3_2 := hE102.ow ho_hP3_2
              replace hm4_0 := hE102.at hm4_0
              replace hm11_9 := hE102.at hm11_9
              have hS := Ext.refl W101
              refine WT_take (dd := some 97) 0 rfl (by kernel_rfl) (by kernel_rfl) (by kernel_rfl) rfl rfl rfl (fun _wq _hq => r_move (v := .bool _) rfl) hS ?_
              refine WT_split (dd := some 98) 1 rfl (by kernel_rfl) (by kernel_rfl) (by kernel_rfl) rfl rfl rfl (fun wq hq => r_move (v := .bool _) rfl) hS (fun hs13_1 => ?_) (fun hs13_1 => ?_)
              ·
                try with_reducible replace hs13_1 := of_decide_eq_true hs13_1
                refine WT_pass (dd := some 99) 2 rfl (by kernel_rfl) (by kernel_rfl) (by kernel_rfl) rfl rfl rfl hS ?_
                refine WT_pass (dd := some 100) 3 rfl (by kernel_rfl) (by kernel_rfl) (by kernel_rfl) rfl rfl rfl hS ?_
                refine WT_pass (dd := some 101) 4 rfl (by kernel_rfl) (by kernel_rfl) (by kernel_rfl) rfl rfl rfl hS ?_
                refine WT_pass (dd := some 102) 5 rfl (by kernel_rfl) (by kernel_rfl) (by kernel_rfl) rfl rfl rfl hS ?_
                refine WT_pass (dd := some 103) 6 rfl (by kernel_rfl) (by kernel_rfl) (by kernel_rfl) rfl rfl rfl hS ?_
                refine WT_pass (dd := some 104) 7 rfl (by kernel_rfl) (by kernel_rfl) (by kernel_rfl) rfl rfl rfl hS ?_
                refine WT_take (dd := some 105) 8 rfl (by kernel_rfl) (by kernel_rfl) (by kernel_rfl) rfl rfl rfl (fun _wq _hq => r_pick_t rfl (v := .bool true) rfl) hS ?_
                refine WT_take (dd := some 10) 9 rfl (by kernel_rfl) (by kernel_rfl) (by kernel_rfl) rfl rfl rfl (fun _wq _hq => r_assign (v := .bool true) rfl) hS ?_
                refine WT_done (by kernel_rfl) ?_
                refine hK46 _ _ ?_
                clear hK46 K45
                refine WC_region ?_
                refine WL_val (dd := some 29) rfl rfl rfl (r_move (v := .int .i64 _) rfl) ?_
                refine WL_val (dd := some 30) rfl rfl rfl (r_addI rfl rfl (by omega) (by omega)) ?_
                refine WL_val (dd := some 11) rfl rfl rfl (r_assign (v := .int .i64 _) rfl) ?_
                refine WL_nil ?_
                refine hJ40 _ _ (i + 1) ?_ ?_ ?_ ?_
                · repeat (first | exact agree.mask _ _ _ | refine agree.updo ?_ rfl _ | refine agree.updL ?_ _ rfl | refine agree.maskS rfl ?_)
                · exact ⟨rfl, (by first | exact congrArg Value.bool (held_t hs13_1) | exact congrArg Value.bool (held_f hs13_1)), trivial⟩
                · exact ⟨hB, hm0_0, hm0_1, ho_hP3_2, (by exact hm4_0), (by omega), trivial⟩
                · first | omega | (dsimp only; omega)
              ·
                try with_reducible replace hs13_1 := of_decide_eq_false hs13_1
                refine WT_take (dd := some 99) 2 rfl (by kernel_rfl) (by kernel_rfl) (by kernel_rfl) rfl rfl rfl (fun _wq _hq => r_move (v := x_hP3_2) rfl) hS ?_
                refine WT_take (dd := some 100) 3 rfl (by kernel_rfl) (by kernel_rfl) (by kernel_rfl) rfl rfl rfl (fun _wq _hq => r_move (v := .int .i64 _) rfl) hS ?_
                refine WT_take (dd := some 101) 4 rfl (by kernel_rfl) (by kernel_rfl) (by kernel_rfl) rfl rfl rfl (fun _wq hq => r_idxS (v := x_hP3_2) rfl ((hq.ow ho_hP3_2)).sl rfl tb_el27 (by omega) (by first | omega | (simp only [flagsTo_len, litsTo_len, firstF_len, ptF_len]; omega))) hS ?_
                refine WT_take (dd := some 102) 5 rfl (by kernel_rfl) (by kernel_rfl) (by kernel_rfl) rfl rfl rfl (fun _wq hq => r_load2 rfl tb_ag34 (SlT.cell ((hq.ow ho_hP3_2)).sl encC_len ⟨0, 0⟩ (by omega) (by first | omega | (simp only [flagsTo_len, litsTo_len, firstF_len, ptF_len]; omega)) 0 rfl) (SlT.cell ((hq.ow ho_hP3_2)).sl encC_len ⟨0, 0⟩ (by omega) (by first | omega | (simp only [flagsTo_len, litsTo_len, firstF_len, ptF_len]; omega)) 1 rfl)) hS ?_
                refine WT_take (dd := some 103) 6 rfl (by kernel_rfl) (by kernel_rfl) (by kernel_rfl) rfl rfl rfl (fun _wq hq => r_loadW rfl tb_ag34 rfl (hq.at hm0_1)) hS ?_
                refine WT_one (dd := some 104) 7 (by kernel_rfl) rfl rfl rfl rfl (Yd.call (r_call2 tb_c31 (v0 := .agg #[_, _]) rfl (v1 := .agg #[_, _]) rfl) (C_cube_Holds _ _ _ _ _ (by show ((primesL s n).getD i ⟨0, 0⟩).m < 256; omega) (by show ((primesL s n).getD i ⟨0, 0⟩).v < 256; omega) hc.1 hc.2) (fun v13_7 W103 hE104 hP13_7 => ⟨.inl (hS.trans hE104), ?_⟩))
                have hsz105 := Below.size hB
                have sv106_hB := hB
                have sv106_hm0_0 := hm0_0
                have sv106_hm0_1 := hm0_1
                have sv106_ho_hP3_2 := ho_hP3_2
                have sv106_hm4_0 := hm4_0
                have sv106_hm11_9 := hm11_9
                replace hB := below_ext hB hE104 (Nat.le_refl _)
                replace hm0_0 := hE104.at hm0_0
                replace hm0_1 := hE104.at hm0_1
                replace ho_hP3_2 := hE104.ow ho_hP3_2
                replace hm4_0 := hE104.at hm4_0
                replace hm11_9 := hE104.at hm11_9
                replace hS := hS.trans hE104
                clear hE104
                clear hsz105
                obtain rfl := hP13_7
                refine WT_take (dd := some 105) 8 rfl (by kernel_rfl) (by kernel_rfl) (by kernel_rfl) rfl rfl rfl (fun _wq _hq => r_pick_f rfl (v := .bool _) rfl) hS ?_
                refine WT_take (dd := some 10) 9 rfl (by kernel_rfl) (by kernel_rfl) (by kernel_rfl) rfl rfl rfl (fun _wq _hq => r_assign (v := .bool _) rfl) hS ?_
                refine WT_done (by kernel_rfl) ?_
                try clear sv106_hB sv106_hm0_0 sv106_hm0_1 sv106_ho_hP3_2 sv106_hm4_0 sv106_hm11_9
                refine hK46 _ _ ?_
                clear hK46 K45
                refine WC_region ?_
                refine WL_val (dd := some 29) rfl rfl rfl (r_move (v := .int .i64 _) rfl) ?_
                refine WL_val (dd := some 30) rfl rfl rfl (r_addI rfl rfl (by omega) (by omega)) ?_
                refine WL_val (dd := some 11) rfl rfl rfl (r_assign (v := .int .i64 _) rfl) ?_
                refine WL_nil ?_
                refine hJ40 _ _ (i + 1) ?_ ?_ ?_ ?_
                · repeat (first | exact agree.mask _ _ _ | refine agree.updo ?_ rfl _ | refine agree.updL ?_ _ rfl | refine agree.maskS rfl ?_)
                · exact ⟨rfl, (by first | exact congrArg Value.bool (held_t hs13_1) | exact congrArg Value.bool (held_f hs13_1)), trivial⟩
                · exact ⟨hB, hm0_0, hm0_1, ho_hP3_2, (by exact hm4_0), (by omega), trivial⟩
                · first | omega | (dsimp only; omega)
        ·
          try with_reducible replace hs9_11 := of_decide_eq_false hs9_11
          refine WT_pass (dd := some 43) 12 rfl (by kernel_rfl) (by kernel_rfl) (by kernel_rfl) rfl rfl rfl hS ?_
          refine WT_pass (dd := some 44) 13 rfl (by kernel_rfl) (by kernel_rfl) (by kernel_rfl) rfl rfl rfl hS ?_
          refine WT_pass (dd := some 45) 14 rfl (by kernel_rfl) (by kernel_rfl) (by kernel_rfl) rfl rfl rfl hS ?_
          refine WT_pass (dd := some 46) 15 rfl (by kernel_rfl) (by kernel_rfl) (by kernel_rfl) rfl rfl rfl hS ?_
          refine WT_pass (dd := some 47) 16 rfl (by kernel_rfl) (by kernel_rfl) (by kernel_rfl) rfl rfl rfl hS ?_
          refine WT_pass (dd := some 48) 17 rfl (by kernel_rfl) (by kernel_rfl) (by kernel_rfl) rfl rfl rfl hS ?_
          refine WT_pass (dd := some 49) 18 rfl (by kernel_rfl) (by kernel_rfl) (by kernel_rfl) rfl rfl rfl hS ?_
          refine WT_pass (dd := some 50) 19 rfl (by kernel_rfl) (by kernel_rfl) (by kernel_rfl) rfl rfl rfl hS ?_
          refine WT_pass (dd := some 51) 20 rfl (by kernel_rfl) (by kernel_rfl) (by kernel_rfl) rfl rfl rfl hS ?_
          refine WT_pass (dd := some 52) 21 rfl (by kernel_rfl) (by kernel_rfl) (by kernel_rfl) rfl rfl rfl hS ?_
          refine WT_pass (dd := some 53) 22 rfl (by kernel_rfl) (by kernel_rfl) (by kernel_rfl) rfl rfl rfl hS ?_
          refine WT_pass (dd := some 54) 23 rfl (by kernel_rfl) (by kernel_rfl) (by kernel_rfl) rfl rfl rfl hS ?_
          refine WT_pass (dd := some 55) 24 rfl (by kernel_rfl) (by kernel_rfl) (by kernel_rfl) rfl rfl rfl hS ?_
          refine WT_pass (dd := some 56) 25 rfl (by kernel_rfl) (by kernel_rfl) (by kernel_rfl) rfl rfl rfl hS ?_
          refine WT_pass (dd := some 57) 26 rfl (by kernel_rfl) (by kernel_rfl) (by kernel_rfl) rfl rfl rfl hS ?_
          refine WT_pass (dd := some 58) 27 rfl (by kernel_rfl) (by kernel_rfl) (by kernel_rfl) rfl rfl rfl hS ?_
          refine WT_pass (dd := some 59) 28 rfl (by kernel_rfl) (by kernel_rfl) (by kernel_rfl) rfl rfl rfl hS ?_
          refine WT_pass (dd := some 60) 29 rfl (by kernel_rfl) (by kernel_rfl) (by kernel_rfl) rfl rfl rfl hS ?_
          refine WT_pass (dd := some 61) 30 rfl (by kernel_rfl) (by kernel_rfl) (by kernel_rfl) rfl rfl rfl hS ?_
          refine WT_pass (dd := some 62) 31 rfl (by kernel_rfl) (by kernel_rfl) (by kernel_rfl) rfl rfl rfl hS ?_
          refine WT_pass (dd := some 63) 32 rfl (by kernel_rfl) (by kernel_rfl) (by kernel_rfl) rfl rfl rfl hS ?_
          refine WT_pass (dd := some 64) 33 rfl (by kernel_rfl) (by kernel_rfl) (by kernel_rfl) rfl rfl rfl hS ?_
          refine WT_pass (dd := some 65) 34 rfl (by kernel_rfl) (by kernel_rfl) (by kernel_rfl) rfl rfl rfl hS ?_
          refine WT_pass (dd := some 66) 35 rfl (by kernel_rfl) (by kernel_rfl) (by kernel_rfl) rfl rfl rfl hS ?_
          refine WT_pass (dd := some 67) 36 rfl (by kernel_rfl) (by kernel_rfl) (by kernel_rfl) rfl rfl rfl hS ?_
          refine WT_pass (dd := some 68) 37 rfl (by kernel_rfl) (by kernel_rfl) (by kernel_rfl) rfl rfl rfl hS ?_
          refine WT_pass (dd := some 69) 38 rfl (by kernel_rfl) (by kernel_rfl) (by kernel_rfl) rfl rfl rfl hS ?_
          refine WT_pass (dd := some 70) 39 rfl (by kernel_rfl) (by kernel_rfl) (by kernel_rfl) rfl rfl rfl hS ?_
          refine WT_pass (dd := some 71) 40 rfl (by kernel_rfl) (by kernel_rfl) (by kernel_rfl) rfl rfl rfl hS ?_
          refine WT_pass (dd := some 72) 41 rfl (by kernel_rfl) (by kernel_rfl) (by kernel_rfl) rfl rfl rfl hS ?_
          refine WT_pass (dd := some 73) 42 rfl (by kernel_rfl) (by kernel_rfl) (by kernel_rfl) rfl rfl rfl hS ?_
          refine WT_pass (dd := some 74) 43 rfl (by kernel_rfl) (by kernel_rfl) (by kernel_rfl) rfl rfl rfl hS ?_
          refine WT_pass (dd := some 75) 44 rfl (by kernel_rfl) (by kernel_rfl) (by kernel_rfl) rfl rfl rfl hS ?_
          refine WT_pass (dd := some 76) 45 rfl (by kernel_rfl) (by kernel_rfl) (by kernel_rfl) rfl rfl rfl hS ?_
          refine WT_pass (dd := some 77) 46 rfl (by kernel_rfl) (by kernel_rfl) (by kernel_rfl) rfl rfl rfl hS ?_
          refine WT_pass (dd := some 78) 47 rfl (by kernel_rfl) (by kernel_rfl) (by kernel_rfl) rfl rfl rfl hS ?_
          refine WT_pass (dd := some 79) 48 rfl (by kernel_rfl) (by kernel_rfl) (by kernel_rfl) rfl rfl rfl hS ?_
          refine WT_pass (dd := some 80) 49 rfl (by kernel_rfl) (by kernel_rfl) (by kernel_rfl) rfl rfl rfl hS ?_
          refine WT_pass (dd := some 81) 50 rfl (by kernel_rfl) (by kernel_rfl) (by kernel_rfl) rfl rfl rfl hS ?_
          refine WT_pass (dd := some 82) 51 rfl (by kernel_rfl) (by kernel_rfl) (by kernel_rfl) rfl rfl rfl hS ?_
          refine WT_take (dd := some 83) 52 rfl (by kernel_rfl) (by kernel_rfl) (by kernel_rfl) rfl rfl rfl (fun _wq _hq => r_pick_f rfl (v := .bool false) rfl) hS ?_
          refine WT_take (dd := some 84) 53 rfl (by kernel_rfl) (by kernel_rfl) (by kernel_rfl) rfl rfl rfl (fun _wq _hq => r_pick_f rfl (v := .bool false) rfl) hS ?_
          refine WT_done (by kernel_rfl) ?_
          try clear sv56_hB sv56_hm0_0 sv56_hm0_1 sv56_ho_hP3_2 sv56_hm4_0
          refine hK50 _ _ ?_
          clear hK50 K49
          refine WC_cond_false rfl ?_
          refine WC_skip ?_
          refine hK48 _ _ ?_
          clear hK48 K47
          refine WC_seq (fun K107 hK108 => ?_)
          refine WC_region ?_
          refine WL_val (dd := some 86) rfl rfl rfl (r_move (v := x_hP3_2) rfl) ?_
          refine WL_val (dd := some 87) rfl rfl rfl (r_move (v := .int .i64 _) rfl) ?_
          refine WL_val (dd := some 88) rfl rfl rfl (r_idxS (v := x_hP3_2) rfl ho_hP3_2.sl rfl tb_el27 (by omega) (by first | omega | (simp only [flagsTo_len, litsTo_len, firstF_len, ptF_len]; omega))) ?_
          refine WL_val (dd := some 89) rfl rfl rfl (r_load2 rfl tb_ag34 (SlT.cell ho_hP3_2.sl encC_len ⟨0, 0⟩ (by omega) (by first | omega | (simp only [flagsTo_len, litsTo_len, firstF_len, ptF_len]; omega)) 0 rfl) (SlT.cell ho_hP3_2.sl encC_len ⟨0, 0⟩ (by omega) (by first | omega | (simp only [flagsTo_len, litsTo_len, firstF_len, ptF_len]; omega)) 1 rfl)) ?_
          refine WL_val (dd := some 90) rfl rfl rfl (r_move (v := .int .i64 _) rfl) ?_
          refine WL_call (dd := some 91) rfl rfl rfl (r_call2 tb_c29 (v0 := .agg #[_, _]) rfl (v1 := .int .i64 _) rfl) (C_cube_Points _ _ _ _ (by show ((primesL s n).getD i ⟨0, 0⟩).m < 256; omega) (by show ((primesL s n).getD i ⟨0, 0⟩).v < 256; omega)) (fun v11_5 W109 hE110 hP11_5 => ?_)
          have hsz111 := Below.size hB
          replace hB := below_ext hB hE110 (Nat.le_refl _)
          replace hm0_0 := hE110.at hm0_0
          replace hm0_1 := hE110.at hm0_1
          replace ho_hP3_2 := hE110.ow ho_hP3_2
          replace hm4_0 := hE110.at hm4_0
          clear hE110
          simp only [Int.toNat_natCast] at hP11_5
          rw [if_pos (prime_right (show primeB ((primesL s n).getD i ⟨0, 0⟩).m ((primesL s n).getD i ⟨0, 0⟩).v s n = true from hpi))] at hP11_5
          obtain rfl := hP11_5
          clear hsz111
          refine WL_val (dd := some 85) rfl rfl rfl (r_move (v := .tuple #[.agg #[_, _, _, _], .int .i64 _]) rfl) ?_
          refine WL_val (dd := some 92) rfl rfl rfl (r_ext2_0 (h := rfl)) ?_
          refine WL_val (dd := some 93) rfl rfl rfl (r_ext2_1 (h := rfl)) ?_
          refine WL_step (dd := some 12) rfl rfl rfl (Y_alloc tb_z24 rfl (fun b11_9 W112 hb113 hE114 hm11_9 => ?_))
          have lo_b11_9 : w.heap.size ≤ b11_9 := hb113 ▸ Below.size hB
          have ne_b0_0_b11_9 : b0_0 ≠ b11_9 := Nat.ne_of_lt (hb113 ▸ hm0_0.lt)
          have ne_b4_0_b11_9 : b4_0 ≠ b11_9 := Nat.ne_of_lt (hb113 ▸ hm4_0.lt)
          clear hb113
          replace hB := below_ext hB hE114 (Nat.le_refl _)
          replace hm0_0 := hE114.at hm0_0
          replace hm0_1 := hE114.at hm0_1
          replace ho_hP3_2 := hE114.ow ho_hP3_2
          replace hm4_0 := hE114.at hm4_0
          clear hE114
          replace hm11_9 : At W112 b11_9 #[wv 0 0, wv 0 1, wv 0 2, wv 0 3] 24 := hm11_9
          refine WL_step (dd := none) rfl rfl rfl (Y_storeW rfl rfl tb_ag24 rfl hm11_9 rfl (by rfl) (fun W115 hG116 hm117 => ?_))
          replace hB := below_grown hB hG116 (Nat.le_refl _) (fun j hj => by cases hj; exact lo_b11_9)
          replace hm0_0 := At.grownNe hm0_0 ne_b0_0_b11_9 hG116
          replace hm0_1 := At.grownAt hm0_1 hm11_9 hG116 (by decide)
          replace ho_hP3_2 := OwT.grownAt ho_hP3_2 hm11_9 hG116 (by decide)
          replace hm4_0 := At.grownNe hm4_0 ne_b4_0_b11_9 hG116
          clear hG116 hm11_9
          have hm11_9 := hm117
          clear hm117
          refine WL_val (dd := some 13) rfl rfl rfl (r_assign (v := .int .i64 _) rfl) ?_
          refine WL_nil ?_
          refine hK108 _ _ ?_
          clear hK108 K107
          refine WC_seq (fun K118 hK119 => ?_)
          refine WC_region ?_
          refine WL_val (dd := some 94) rfl rfl rfl (r_loadW rfl tb_ag24 rfl hm4_0) ?_
          refine WL_val (dd := some 95) rfl rfl rfl (r_loadW rfl tb_ag24 rfl hm11_9) ?_
          refine WL_call (dd := some 96) rfl rfl rfl (r_call2 tb_c30 (v0 := .agg #[_, _, _, _]) rfl (v1 := .agg #[_, _, _, _]) rfl) (C_set_Or _ _ _) (fun v12_2 W120 hE121 hP12_2 => ?_)
          have hsz122 := Below.size hB
          replace hB := below_ext hB hE121 (Nat.le_refl _)
          replace hm0_0 := hE121.at hm0_0
          replace hm0_1 := hE121.at hm0_1
          replace ho_hP3_2 := hE121.ow ho_hP3_2
          replace hm4_0 := hE121.at hm4_0
          replace hm11_9 := hE121.at hm11_9
          clear hE121
          clear hsz122
          obtain rfl := hP12_2
          refine WL_step (dd := none) rfl rfl rfl (Y_storeW rfl rfl tb_ag24 rfl hm4_0 rfl (by rfl) (fun W123 hG124 hm125 => ?_))
          replace hB := below_grown hB hG124 (Nat.le_refl _) (fun j hj => by cases hj; exact lo_b4_0)
          replace hm0_0 := At.grownNe hm0_0 ne_b0_0_b4_0 hG124
          replace hm0_1 := At.grownAt hm0_1 hm4_0 hG124 (by decide)
          replace ho_hP3_2 := OwT.grownAt ho_hP3_2 hm4_0 hG124 (by decide)
          replace hm11_9 := At.grownNe hm11_9 (Ne.symm ne_b4_0_b11_9) hG124
          clear hG124 hm4_0
          have hm4_0 := hm125
          clear hm125
          refine WL_nil ?_
          refine hK119 _ _ ?_
          clear hK119 K118
          refine WC_draw Ext tb_mix (fun W126 hE127 => ?_)
          replace hB := below_ext hB hE127 (Nat.le_refl _)
          replace hm0_0 := hE127.at hm0_0
          replace hm0_1 := hE127.at hm0_1
          replace ho_hP3_2 := hE127.ow ho_hP3_2
          replace hm4_0 := hE127.at hm4_0
          replace hm11_9 := hE127.at hm11_9
          have hS := Ext.refl W126
          refine WT_take (dd := some 97) 0 rfl (by kernel_rfl) (by kernel_rfl) (by kernel_rfl) rfl rfl rfl (fun _wq _hq => r_move (v := .bool _) rfl) hS ?_
          refine WT_split (dd := some 98) 1 rfl (by kernel_rfl) (by kernel_rfl) (by kernel_rfl) rfl rfl rfl (fun wq hq => r_move (v := .bool _) rfl) hS (fun hs13_1 => ?_) (fun hs13_1 => ?_)
          ·
            try with_reducible replace hs13_1 := of_decide_eq_true hs13_1
            refine WT_pass (dd := some 99) 2 rfl (by kernel_rfl) (by kernel_rfl) (by kernel_rfl) rfl rfl rfl hS ?_
            refine WT_pass (dd := some 100) 3 rfl (by kernel_rfl) (by kernel_rfl) (by kernel_rfl) rfl rfl rfl hS ?_
            refine WT_pass (dd := some 101) 4 rfl (by kernel_rfl) (by kernel_rfl) (by kernel_rfl) rfl rfl rfl hS ?_
            refine WT_pass (dd := some 102) 5 rfl (by kernel_rfl) (by kernel_rfl) (by kernel_rfl) rfl rfl rfl hS ?_
            refine WT_pass (dd := some 103) 6 rfl (by kernel_rfl) (by kernel_rfl) (by kernel_rfl) rfl rfl rfl hS ?_
            refine WT_pass (dd := some 104) 7 rfl (by kernel_rfl) (by kernel_rfl) (by kernel_rfl) rfl rfl rfl hS ?_
            refine WT_take (dd := some 105) 8 rfl (by kernel_rfl) (by kernel_rfl) (by kernel_rfl) rfl rfl rfl (fun _wq _hq => r_pick_t rfl (v := .bool true) rfl) hS ?_
            refine WT_take (dd := some 10) 9 rfl (by kernel_rfl) (by kernel_rfl) (by kernel_rfl) rfl rfl rfl (fun _wq _hq => r_assign (v := .bool true) rfl) hS ?_
            refine WT_done (by kernel_rfl) ?_
            refine hK46 _ _ ?_
            clear hK46 K45
            refine WC_region ?_
            refine WL_val (dd := some 29) rfl rfl rfl (r_move (v := .int .i64 _) rfl) ?_
            refine WL_val (dd := some 30) rfl rfl rfl (r_addI rfl rfl (by omega) (by omega)) ?_
            refine WL_val (dd := some 11) rfl rfl rfl (r_assign (v := .int .i64 _) rfl) ?_
            refine WL_nil ?_
            refine hJ40 _ _ (i + 1) ?_ ?_ ?_ ?_
            · repeat (first | exact agree.mask _ _ _ | refine agree.updo ?_ rfl _ | refine agree.updL ?_ _ rfl | refine agree.maskS rfl ?_)
            · exact ⟨rfl, (by first | exact congrArg Value.bool (held_t hs13_1) | exact congrArg Value.bool (held_f hs13_1)), trivial⟩
            · exact ⟨hB, hm0_0, hm0_1, ho_hP3_2, (by exact hm4_0), (by omega), trivial⟩
            · first | omega | (dsimp only; omega)
          ·
            try with_reducible replace hs13_1 := of_decide_eq_false hs13_1
            refine WT_take (dd := some 99) 2 rfl (by kernel_rfl) (by kernel_rfl) (by kernel_rfl) rfl rfl rfl (fun _wq _hq => r_move (v := x_hP3_2) rfl) hS ?_
            refine WT_take (dd := some 100) 3 rfl (by kernel_rfl) (by kernel_rfl) (by kernel_rfl) rfl rfl rfl (fun _wq _hq => r_move (v := .int .i64 _) rfl) hS ?_
            refine WT_take (dd := some 101) 4 rfl (by kernel_rfl) (by kernel_rfl) (by kernel_rfl) rfl rfl rfl (fun _wq hq => r_idxS (v := x_hP3_2) rfl ((hq.ow ho_hP3_2)).sl rfl tb_el27 (by omega) (by first | omega | (simp only [flagsTo_len, litsTo_len, firstF_len, ptF_len]; omega))) hS ?_
            refine WT_take (dd := some 102) 5 rfl (by kernel_rfl) (by kernel_rfl) (by kernel_rfl) rfl rfl rfl (fun _wq hq => r_load2 rfl tb_ag34 (SlT.cell ((hq.ow ho_hP3_2)).sl encC_len ⟨0, 0⟩ (by omega) (by first | omega | (simp only [flagsTo_len, litsTo_len, firstF_len, ptF_len]; omega)) 0 rfl) (SlT.cell ((hq.ow ho_hP3_2)).sl encC_len ⟨0, 0⟩ (by omega) (by first | omega | (simp only [flagsTo_len, litsTo_len, firstF_len, ptF_len]; omega)) 1 rfl)) hS ?_
            refine WT_take (dd := some 103) 6 rfl (by kernel_rfl) (by kernel_rfl) (by kernel_rfl) rfl rfl rfl (fun _wq hq => r_loadW rfl tb_ag34 rfl (hq.at hm0_1)) hS ?_
            refine WT_one (dd := some 104) 7 (by kernel_rfl) rfl rfl rfl rfl (Yd.call (r_call2 tb_c31 (v0 := .agg #[_, _]) rfl (v1 := .agg #[_, _]) rfl) (C_cube_Holds _ _ _ _ _ (by show ((primesL s n).getD i ⟨0, 0⟩).m < 256; omega) (by show ((primesL s n).getD i ⟨0, 0⟩).v < 256; omega) hc.1 hc.2) (fun v13_7 W128 hE129 hP13_7 => ⟨.inl (hS.trans hE129), ?_⟩))
            have hsz130 := Below.size hB
            have sv131_hB := hB
            have sv131_hm0_0 := hm0_0
            have sv131_hm0_1 := hm0_1
            have sv131_ho_hP3_2 := ho_hP3_2
            have sv131_hm4_0 := hm4_0
            have sv131_hm11_9 := hm11_9
            replace hB := below_ext hB hE129 (Nat.le_refl _)
            replace hm0_0 := hE129.at hm0_0
            replace hm0_1 := hE129.at hm0_1
            replace ho_hP3_2 := hE129.ow ho_hP3_2
            replace hm4_0 := hE129.at hm4_0
            replace hm11_9 := hE129.at hm11_9
            replace hS := hS.trans hE129
            clear hE129
            clear hsz130
            obtain rfl := hP13_7
            refine WT_take (dd := some 105) 8 rfl (by kernel_rfl) (by kernel_rfl) (by kernel_rfl) rfl rfl rfl (fun _wq _hq => r_pick_f rfl (v := .bool _) rfl) hS ?_
            refine WT_take (dd := some 10) 9 rfl (by kernel_rfl) (by kernel_rfl) (by kernel_rfl) rfl rfl rfl (fun _wq _hq => r_assign (v := .bool _) rfl) hS ?_
            refine WT_done (by kernel_rfl) ?_
            try clear sv131_hB sv131_hm0_0 sv131_hm0_1 sv131_ho_hP3_2 sv131_hm4_0 sv131_hm11_9
            refine hK46 _ _ ?_
            clear hK46 K45
            refine WC_region ?_
            refine WL_val (dd := some 29) rfl rfl rfl (r_move (v := .int .i64 _) rfl) ?_
            refine WL_val (dd := some 30) rfl rfl rfl (r_addI rfl rfl (by omega) (by omega)) ?_
            refine WL_val (dd := some 11) rfl rfl rfl (r_assign (v := .int .i64 _) rfl) ?_
            refine WL_nil ?_
            refine hJ40 _ _ (i + 1) ?_ ?_ ?_ ?_
            · repeat (first | exact agree.mask _ _ _ | refine agree.updo ?_ rfl _ | refine agree.updL ?_ _ rfl | refine agree.maskS rfl ?_)
            · exact ⟨rfl, (by first | exact congrArg Value.bool (held_t hs13_1) | exact congrArg Value.bool (held_f hs13_1)), trivial⟩
            · exact ⟨hB, hm0_0, hm0_1, ho_hP3_2, (by exact hm4_0), (by omega), trivial⟩
            · first | omega | (dsimp only; omega)
    ·
      try with_reducible replace hc1 := of_decide_eq_false hc1
      refine WC_exit ?_
      refine hK34 _ _ ?_
      clear hK42 K41
      clear hJ40 J39
      clear hK34 K33
      refine WC_seq (fun K132 hK133 => ?_)
      refine WC_region ?_
      refine WL_val (dd := some 106) rfl rfl rfl (r_move (v := .int .i64 _) rfl) ?_
      refine WL_val (dd := some 107) rfl rfl rfl (r_eql rfl rfl) ?_
      refine WL_split (dd := some 108) rfl rfl rfl (r_move (v := .bool _) rfl) (fun hs14_2 => ?_) (fun hs14_2 => ?_)
      ·
        try with_reducible replace hs14_2 := of_decide_eq_true hs14_2
        refine WL_val (dd := some 109) rfl rfl rfl (r_loadW rfl tb_ag24 rfl hm4_0) ?_
        refine WL_val (dd := some 110) rfl rfl rfl (r_loadW rfl tb_ag24 rfl hm0_0) ?_
        refine WL_val (dd := some 111) rfl rfl rfl (tb_eq24 rfl rfl) ?_
        refine WL_val (dd := some 112) rfl rfl rfl (r_pick_t rfl (v := .bool _) rfl) ?_
        refine WL_split (dd := some 113) rfl rfl rfl (r_move (v := .bool _) rfl) (fun hs14_7 => ?_) (fun hs14_7 => ?_)
        ·
          try with_reducible replace hs14_7 := of_decide_eq_true hs14_7
          refine WL_val (dd := some 114) rfl rfl rfl (r_move (v := .bool _) rfl) ?_
          refine WL_split (dd := some 115) rfl rfl rfl (r_move (v := .bool _) rfl) (fun hs14_9 => ?_) (fun hs14_9 => ?_)
          ·
            try with_reducible replace hs14_9 := of_decide_eq_true hs14_9
            refine WL_skip (dd := some 116) rfl rfl rfl ?_
            refine WL_skip (dd := some 117) rfl rfl rfl ?_
            refine WL_skip (dd := some 118) rfl rfl rfl ?_
            refine WL_skip (dd := some 119) rfl rfl rfl ?_
            refine WL_skip (dd := some 120) rfl rfl rfl ?_
            refine WL_val (dd := some 121) rfl rfl rfl (r_pick_t rfl (v := .bool true) rfl) ?_
            refine WL_val (dd := some 122) rfl rfl rfl (r_pick_t rfl (v := .bool true) rfl) ?_
            refine WL_val (dd := some 123) rfl rfl rfl (r_move (v := .bool true) rfl) ?_
            refine WL_call (dd := some 124) rfl rfl rfl (r_call0 tb_c24) (C_drawknifelaw09_knows _) (fun v14_18 W134 hE135 hP14_18 => ?_)
            have hsz136 := Below.size hB
            replace hB := below_ext hB hE135 (Nat.le_refl _)
            replace hm0_0 := hE135.at hm0_0
            replace hm0_1 := hE135.at hm0_1
            replace ho_hP3_2 := hE135.ow ho_hP3_2
            replace hm4_0 := hE135.at hm4_0
            clear hE135
            clear hsz136
            obtain rfl := hP14_18
            refine WL_val (dd := some 125) rfl rfl rfl (r_pick_t rfl (v := .bool _) rfl) ?_
            refine WL_val (dd := some 6) rfl rfl rfl (r_assign (v := .bool _) rfl) ?_
            refine WL_nil ?_
            refine hK133 _ _ ?_
            clear hK133 K132
            refine WC_ret ?_
            repeat (first | refine thenQ_ret ?_ | refine blockQ_ret ?_)
            refine ret_t (v := .bool _) rfl ?_
            refine ⟨hB, ?_⟩
            rfl
          ·
            try with_reducible replace hs14_9 := of_decide_eq_false hs14_9
            refine WL_val (dd := some 116) rfl rfl rfl (r_loadW rfl tb_ag34 rfl hm0_1) ?_
            refine WL_val (dd := some 117) rfl rfl rfl (r_loadW rfl tb_ag24 rfl hm0_0) ?_
            refine WL_val (dd := some 118) rfl rfl rfl (r_move (v := .int .i64 _) rfl) ?_
            refine WL_call (dd := some 119) rfl rfl rfl (r_call3 tb_c32 (v0 := .agg #[_, _]) rfl (v1 := .agg #[_, _, _, _]) rfl (v2 := .int .i64 _) rfl) (C_drawkniferef09_Within _ _ _ _ _ (by first | assumption | omega) (by first | assumption | omega)) (fun v14_13 W137 hE138 hP14_13 => ?_)
            have hsz139 := Below.size hB
            replace hB := below_ext hB hE138 (Nat.le_refl _)
            replace hm0_0 := hE138.at hm0_0
            replace hm0_1 := hE138.at hm0_1
            replace ho_hP3_2 := hE138.ow ho_hP3_2
            replace hm4_0 := hE138.at hm4_0
            clear hE138
            clear hsz139
            obtain rfl := hP14_13
            refine WL_val (dd := some 120) rfl rfl rfl (r_not rfl) ?_
            refine WL_val (dd := some 121) rfl rfl rfl (r_pick_f rfl (v := .bool _) rfl) ?_
            refine WL_val (dd := some 122) rfl rfl rfl (r_pick_t rfl (v := .bool _) rfl) ?_
            refine WL_split (dd := some 123) rfl rfl rfl (r_move (v := .bool _) rfl) (fun hs14_17 => ?_) (fun hs14_17 => ?_)
            ·
              try with_reducible replace hs14_17 := of_decide_eq_true hs14_17
              refine WL_call (dd := some 124) rfl rfl rfl (r_call0 tb_c24) (C_drawknifelaw09_knows _) (fun v14_18 W140 hE141 hP14_18 => ?_)
              have hsz142 := Below.size hB
              replace hB := below_ext hB hE141 (Nat.le_refl _)
              replace hm0_0 := hE141.at hm0_0
              replace hm0_1 := hE141.at hm0_1
              replace ho_hP3_2 := hE141.ow ho_hP3_2
              replace hm4_0 := hE141.at hm4_0
              clear hE141
              clear hsz142
              obtain rfl := hP14_18
              refine WL_val (dd := some 125) rfl rfl rfl (r_pick_t rfl (v := .bool _) rfl) ?_
              refine WL_val (dd := some 6) rfl rfl rfl (r_assign (v := .bool _) rfl) ?_
              refine WL_nil ?_
              refine hK133 _ _ ?_
              clear hK133 K132
              refine WC_ret ?_
              repeat (first | refine thenQ_ret ?_ | refine blockQ_ret ?_)
              refine ret_t (v := .bool _) rfl ?_
              refine ⟨hB, ?_⟩
              rfl
            ·
              try with_reducible replace hs14_17 := of_decide_eq_false hs14_17
              exact (held_no (by omega) hs14_9 hs14_17).elim
        ·
          try with_reducible replace hs14_7 := of_decide_eq_false hs14_7
          exact absurd (union_same hk (by omega)) hs14_7
      ·
        try with_reducible replace hs14_2 := of_decide_eq_false hs14_2
        exact absurd rfl hs14_2

end Go.Proofs.Ytdbcijijhhbkaaa
