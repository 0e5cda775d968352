/-
  The walks of the statements about primes.
-/
import Derived.Test.YtdbcijijhhbkaaaProg
import Derived.Test.YtdbcijijhhbkaaaWAll
namespace Go.Proofs.Ytdbcijijhhbkaaa
open Go Go.RowKit

theorem tb_build24_0 {f : Nat → Value} {w : World} {d : Option Nat} {ty : TypeId} {ps : String} {af : Array Edge} {g : Option (Nat × Bool)} {x0 : Operand} {c0_0 : Value} (h0 : evF f x0 = c0_0) (k0 : c0_0.cells = #[c0_0]) :
    (execOp (evF f) ⟨d, .build 24 #[(0, x0)], ty, ps, af, g⟩).run Try.prog w = .ok (.value (.agg #[c0_0, .int .u64 0, .int .u64 0, .int .u64 0])) w := by
  obtain ⟨i0, hi0, hz0⟩ := Option.bind_eq_some_iff.1 (show (Try.prog.info? 24).bind (·.zero) = _ from tb_z24)
  obtain ⟨j22, hj22, hs22⟩ := Option.map_eq_some_iff.1 tb_size22
  simp [execOp, h0, k0, Instr.build, zeroValue, typeInfo, sizeOf, hi0, hz0, run_underlying Try.underlying24, Instr.fill, cells_agg, hj22, hs22]
theorem tb_c25 : callB Try.prog 25 = true := by kernel_rfl
theorem tb_c79 : callB Try.prog 79 = true := by kernel_rfl
theorem tb_c80 : callB Try.prog 80 = true := by kernel_rfl
theorem tb_c23 : callB Try.prog 23 = true := by kernel_rfl
theorem tb_c24 : callB Try.prog 24 = true := by kernel_rfl
theorem tb_c27 : callB Try.prog 27 = true := by kernel_rfl
theorem tb_c26 : callB Try.prog 26 = true := by kernel_rfl

theorem C_drawknifelaw09_knows  (w : World) :
    Fn Try.prog 24 #[] w fun v w' => v = .bool true := by
  refine Fn_intro (n := 51) Try.func24 rfl rfl (Nat.le_of_ble_eq_true rfl) ?_
  have hB : Below w.heap.size w w := Below.refl _ _
  refine WC_seq (fun K1 hK2 => ?_)
  refine WC_region ?_
  refine WL_val (dd := some 0) rfl rfl rfl (r_assign (v := .bool false) rfl) ?_
  refine WL_nil ?_
  refine hK2 _ _ ?_
  clear hK2 K1
  refine WC_seq (fun K3 hK4 => ?_)
  refine WC_region ?_
  refine WL_val (dd := some 6) (v := setV 14) rfl rfl rfl (tb_build24_0 (h0 := rfl) (k0 := rfl) (c0_0 := .int .u64 14)) ?_
  refine WL_call (dd := some 7) rfl rfl rfl (r_call2 tb_c25 (v0 := .agg #[_, _, _, _]) rfl (v1 := .int .i64 2) rfl) (C_prime_All 14 2 _) (fun v1_1 W5 hE6 hP1_1 => ?_)
  have hsz7 := Below.size hB
  replace hB := below_ext hB hE6 (Nat.le_refl _)
  clear hE6
  obtain ⟨x_hP1_1, er_hP1_1, l_hP1_1, rfl, ho_hP1_1, hc_hP1_1⟩ := all_res hP1_1
  replace ho_hP1_1 := OwT.mono ho_hP1_1 hsz7
  obtain ⟨her, hle⟩ : er_hP1_1 = 0 ∧ l_hP1_1 = primesL 14 2 := hc_hP1_1.elim (fun h => h.2) (fun h => absurd h.1 (by decide +kernel))
  rw [primesL_knows] at hle
  subst her hle
  clear hsz7
  refine WL_val (dd := some 5) rfl rfl rfl (r_move (v := .tuple #[x_hP1_1, .int .i64 _]) rfl) ?_
  refine WL_val (dd := some 8) rfl rfl rfl (r_ext2_0 (h := rfl)) ?_
  refine WL_val (dd := some 9) rfl rfl rfl (r_ext2_1 (h := rfl)) ?_
  refine WL_val (dd := some 1) rfl rfl rfl (r_assign (v := x_hP1_1) rfl) ?_
  refine WL_val (dd := some 2) rfl rfl rfl (r_assign (v := .int .i64 _) rfl) ?_
  refine WL_nil ?_
  refine hK4 _ _ ?_
  clear hK4 K3
  refine WC_seq (fun K8 hK9 => ?_)
  refine WC_region ?_
  refine WL_val (dd := some 11) rfl rfl rfl (tb_build34_0_1 (h0 := rfl) (k0 := rfl) (h1 := rfl) (k1 := rfl) (c0_0 := .int .u8 3) (c1_0 := .int .u8 3)) ?_
  refine WL_val (dd := some 12) (v := setV 14) rfl rfl rfl (tb_build24_0 (h0 := rfl) (k0 := rfl) (c0_0 := .int .u64 14)) ?_
  refine WL_call (dd := some 13) rfl rfl rfl (r_call3 tb_c79 (v0 := .agg #[_, _]) rfl (v1 := .agg #[_, _, _, _]) rfl (v2 := .int .i64 2) rfl) (C_prime_Grow ⟨3, 3⟩ 14 2 _ (by decide +kernel)) (fun v2_2 W10 hE11 hP2_2 => ?_)
  have hsz12 := Below.size hB
  replace hB := below_ext hB hE11 (Nat.le_refl _)
  replace ho_hP1_1 := hE11.ow ho_hP1_1
  clear hE11
  obtain rfl := grow_res hP2_2 (by decide +kernel)
  clear hsz12
  refine WL_val (dd := some 10) rfl rfl rfl (r_move (v := .tuple #[.agg #[_, _], .int .i64 _]) rfl) ?_
  refine WL_val (dd := some 14) rfl rfl rfl (r_ext2_0 (h := rfl)) ?_
  refine WL_val (dd := some 15) rfl rfl rfl (r_ext2_1 (h := rfl)) ?_
  refine WL_step (dd := some 3) rfl rfl rfl (Y_alloc tb_z34 rfl (fun b2_6 W13 hb14 hE15 hm2_6 => ?_))
  have lo_b2_6 : w.heap.size ≤ b2_6 := hb14 ▸ Below.size hB
  have no16 := OwT.neB (b := b2_6) ho_hP1_1 (Nat.le_of_eq hb14.symm)
  clear hb14
  replace hB := below_ext hB hE15 (Nat.le_refl _)
  replace ho_hP1_1 := hE15.ow ho_hP1_1
  clear hE15
  refine WL_step (dd := none) rfl rfl rfl (Y_storeW rfl rfl tb_ag34 rfl hm2_6 rfl (by rfl) (fun W17 hG18 hm19 => ?_))
  replace hB := below_grown hB hG18 (Nat.le_refl _) (fun j hj => by cases hj; exact lo_b2_6)
  replace ho_hP1_1 := OwT.grownAtNe ho_hP1_1 no16 hG18
  clear hG18 hm2_6
  have hm2_6 := hm19
  clear hm19
  refine WL_val (dd := some 4) rfl rfl rfl (r_assign (v := .int .i64 _) rfl) ?_
  refine WL_nil ?_
  refine hK9 _ _ ?_
  clear hK9 K8
  refine WC_seq (fun K20 hK21 => ?_)
  refine WC_region ?_
  refine WL_val (dd := some 16) rfl rfl rfl (r_move (v := x_hP1_1) rfl) ?_
  refine WL_val (dd := some 17) rfl rfl rfl (r_lenS (v := x_hP1_1) rfl ho_hP1_1.sl tb_el27) ?_
  refine WL_val (dd := some 18) rfl rfl rfl (r_eql rfl rfl) ?_
  refine WL_split (dd := some 19) rfl rfl rfl (r_move (v := .bool _) rfl) (fun hs3_3 => ?_) (fun hs3_3 => ?_)
  ·
    try with_reducible replace hs3_3 := of_decide_eq_true hs3_3
    refine WL_val (dd := some 20) rfl rfl rfl (r_move (v := x_hP1_1) rfl) ?_
    refine WL_val (dd := some 21) rfl rfl rfl (r_idxS (j := 0) (v := x_hP1_1) rfl ho_hP1_1.sl rfl tb_el27 (by omega) (by first | omega | (simp only [flagsTo_len, litsTo_len, firstF_len, ptF_len]; omega))) ?_
    refine WL_val (dd := some 22) rfl rfl rfl (r_load2 rfl tb_ag34 (SlT.cell (j := 0) ho_hP1_1.sl encC_len ⟨0, 0⟩ (by omega) (by first | omega | (simp only [flagsTo_len, litsTo_len, firstF_len, ptF_len]; omega)) 0 rfl) (SlT.cell (j := 0) ho_hP1_1.sl encC_len ⟨0, 0⟩ (by omega) (by first | omega | (simp only [flagsTo_len, litsTo_len, firstF_len, ptF_len]; omega)) 1 rfl)) ?_
    refine WL_val (dd := some 23) rfl rfl rfl (tb_build34_0_1 (h0 := rfl) (k0 := rfl) (h1 := rfl) (k1 := rfl) (c0_0 := .int .u8 1) (c1_0 := .int .u8 1)) ?_
    refine WL_val (dd := some 24) rfl rfl rfl (tb_eq34 rfl rfl) ?_
    refine WL_val (dd := some 25) rfl rfl rfl (r_pick_t rfl (v := .bool _) rfl) ?_
    refine WL_split (dd := some 26) rfl rfl rfl (r_move (v := .bool _) rfl) (fun hs3_10 => ?_) (fun hs3_10 => ?_)
    ·
      try with_reducible replace hs3_10 := of_decide_eq_true hs3_10
      refine WL_val (dd := some 27) rfl rfl rfl (r_move (v := x_hP1_1) rfl) ?_
      refine WL_val (dd := some 28) rfl rfl rfl (r_idxS (j := 1) (v := x_hP1_1) rfl ho_hP1_1.sl rfl tb_el27 (by omega) (by first | omega | (simp only [flagsTo_len, litsTo_len, firstF_len, ptF_len]; omega))) ?_
      refine WL_val (dd := some 29) rfl rfl rfl (r_load2 rfl tb_ag34 (SlT.cell (j := 1) ho_hP1_1.sl encC_len ⟨0, 0⟩ (by omega) (by first | omega | (simp only [flagsTo_len, litsTo_len, firstF_len, ptF_len]; omega)) 0 rfl) (SlT.cell (j := 1) ho_hP1_1.sl encC_len ⟨0, 0⟩ (by omega) (by first | omega | (simp only [flagsTo_len, litsTo_len, firstF_len, ptF_len]; omega)) 1 rfl)) ?_
      refine WL_val (dd := some 30) rfl rfl rfl (tb_build34_0_1 (h0 := rfl) (k0 := rfl) (h1 := rfl) (k1 := rfl) (c0_0 := .int .u8 2) (c1_0 := .int .u8 2)) ?_
      refine WL_val (dd := some 31) rfl rfl rfl (tb_eq34 rfl rfl) ?_
      refine WL_val (dd := some 32) rfl rfl rfl (r_pick_t rfl (v := .bool _) rfl) ?_
      refine WL_split (dd := some 33) rfl rfl rfl (r_move (v := .bool _) rfl) (fun hs3_17 => ?_) (fun hs3_17 => ?_)
      ·
        try with_reducible replace hs3_17 := of_decide_eq_true hs3_17
        refine WL_val (dd := some 34) rfl rfl rfl (r_move (v := .int .i64 _) rfl) ?_
        refine WL_val (dd := some 35) rfl rfl rfl (r_eql rfl rfl) ?_
        refine WL_val (dd := some 36) rfl rfl rfl (r_pick_t rfl (v := .bool _) rfl) ?_
        refine WL_split (dd := some 37) rfl rfl rfl (r_move (v := .bool _) rfl) (fun hs3_21 => ?_) (fun hs3_21 => ?_)
        ·
          try with_reducible replace hs3_21 := of_decide_eq_true hs3_21
          refine WL_val (dd := some 38) rfl rfl rfl (r_loadW rfl tb_ag34 rfl hm2_6) ?_
          refine WL_val (dd := some 39) rfl rfl rfl (tb_build34_0_1 (h0 := rfl) (k0 := rfl) (h1 := rfl) (k1 := rfl) (c0_0 := .int .u8 2) (c1_0 := .int .u8 2)) ?_
          refine WL_val (dd := some 40) rfl rfl rfl (tb_eq34 rfl rfl) ?_
          refine WL_val (dd := some 41) rfl rfl rfl (r_pick_t rfl (v := .bool _) rfl) ?_
          refine WL_split (dd := some 42) rfl rfl rfl (r_move (v := .bool _) rfl) (fun hs3_26 => ?_) (fun hs3_26 => ?_)
          ·
            try with_reducible replace hs3_26 := of_decide_eq_true hs3_26
            refine WL_val (dd := some 43) rfl rfl rfl (r_move (v := .int .i64 _) rfl) ?_
            refine WL_val (dd := some 44) rfl rfl rfl (r_eql rfl rfl) ?_
            refine WL_val (dd := some 45) rfl rfl rfl (r_pick_t rfl (v := .bool _) rfl) ?_
            refine WL_split (dd := some 46) rfl rfl rfl (r_move (v := .bool _) rfl) (fun hs3_30 => ?_) (fun hs3_30 => ?_)
            ·
              try with_reducible replace hs3_30 := of_decide_eq_true hs3_30
              refine WL_val (dd := some 47) rfl rfl rfl (r_loadW rfl tb_ag34 rfl hm2_6) ?_
              refine WL_val (dd := some 48) (v := setV 14) rfl rfl rfl (tb_build24_0 (h0 := rfl) (k0 := rfl) (c0_0 := .int .u64 14)) ?_
              refine WL_call (dd := some 49) rfl rfl rfl (r_call3 tb_c80 (v0 := .agg #[_, _]) rfl (v1 := .agg #[_, _, _, _]) rfl (v2 := .int .i64 2) rfl) (C_prime_Prime _ _ 14 2 _ (by decide +kernel) (by decide +kernel)) (fun v3_33 W22 hE23 hP3_33 => ?_)
              have hsz24 := Below.size hB
              replace hB := below_ext hB hE23 (Nat.le_refl _)
              replace ho_hP1_1 := hE23.ow ho_hP1_1
              replace hm2_6 := hE23.at hm2_6
              clear hE23
              clear hsz24
              obtain rfl := hP3_33
              refine WL_val (dd := some 50) rfl rfl rfl (r_pick_t rfl (v := .bool _) rfl) ?_
              refine WL_val (dd := some 0) rfl rfl rfl (r_assign (v := .bool _) rfl) ?_
              refine WL_nil ?_
              refine hK21 _ _ ?_
              clear hK21 K20
              refine WC_ret ?_
              repeat (first | refine thenQ_ret ?_ | refine blockQ_ret ?_)
              refine ret_t (v := .bool _) rfl ?_
              refine ⟨hB, ?_⟩
              exact congrArg Value.bool (by decide +kernel)
            ·
              try with_reducible replace hs3_30 := of_decide_eq_false hs3_30
              first | exact absurd (by decide +kernel) hs3_30 | exact absurd hs3_30 (by decide +kernel)
          ·
            try with_reducible replace hs3_26 := of_decide_eq_false hs3_26
            first | exact absurd (by decide +kernel) hs3_26 | exact absurd hs3_26 (by decide +kernel)
        ·
          try with_reducible replace hs3_21 := of_decide_eq_false hs3_21
          first | exact absurd (by decide +kernel) hs3_21 | exact absurd hs3_21 (by decide +kernel)
      ·
        try with_reducible replace hs3_17 := of_decide_eq_false hs3_17
        first | exact absurd (by decide +kernel) hs3_17 | exact absurd hs3_17 (by decide +kernel)
    ·
      try with_reducible replace hs3_10 := of_decide_eq_false hs3_10
      first | exact absurd (by decide +kernel) hs3_10 | exact absurd hs3_10 (by decide +kernel)
  ·
    try with_reducible replace hs3_3 := of_decide_eq_false hs3_3
    first | exact absurd (by decide +kernel) hs3_3 | exact absurd hs3_3 (by decide +kernel)

theorem C_drawknifelaw09_PrimeAll (s : Nat) (n : Int) (w : World) :
    Fn Try.prog 3 #[setV s, .int .i64 n] w fun v w' => v = .bool true := by
  refine Fn_intro (n := 47) Try.func3 rfl rfl (Nat.le_of_ble_eq_true rfl) ?_
  have hB : Below w.heap.size w w := Below.refl _ _
  refine WC_seq (fun K1 hK2 => ?_)
  refine WC_region ?_
  refine WL_step (dd := some 2) rfl rfl rfl (Y_box (c := #[_, _, _, _]) rfl rfl (fun b0_0 W3 hb4 hE5 hm0_0 => ?_))
  have lo_b0_0 : w.heap.size ≤ b0_0 := hb4 ▸ Below.size hB
  clear hb4
  replace hB := below_ext hB hE5 (Nat.le_refl _)
  clear hE5
  refine WL_val (dd := some 4) rfl rfl rfl (r_assign (v := .bool false) rfl) ?_
  refine WL_nil ?_
  refine hK2 _ _ ?_
  clear hK2 K1
  refine WC_seq (fun K6 hK7 => ?_)
  refine WC_region ?_
  refine WL_val (dd := some 8) rfl rfl rfl (r_loadW rfl tb_ag24 rfl hm0_0) ?_
  refine WL_val (dd := some 9) rfl rfl rfl (r_move (v := .int .i64 _) rfl) ?_
  refine WL_call (dd := some 10) rfl rfl rfl (r_call2 tb_c23 (v0 := .agg #[_, _, _, _]) rfl (v1 := .int .i64 _) rfl) (C_drawkniferef09_Of _ _ _) (fun v1_2 W8 hE9 hP1_2 => ?_)
  have hsz10 := Below.size hB
  replace hB := below_ext hB hE9 (Nat.le_refl _)
  replace hm0_0 := hE9.at hm0_0
  clear hE9
  clear hsz10
  obtain rfl := hP1_2
  refine WL_val (dd := some 5) rfl rfl rfl (r_assign (v := .bool _) rfl) ?_
  refine WL_nil ?_
  refine hK7 _ _ ?_
  clear hK7 K6
  refine WC_seq (fun K11 hK12 => ?_)
  refine WC_seq (fun K13 hK14 => ?_)
  refine WC_region ?_
  refine WL_val (dd := some 11) rfl rfl rfl (r_move (v := .bool _) rfl) ?_
  refine WL_split (dd := some 12) rfl rfl rfl (r_move (v := .bool _) rfl) (fun hs2_1 => ?_) (fun hs2_1 => ?_)
  ·
    try with_reducible replace hs2_1 := of_decide_eq_true hs2_1
    refine WL_val (dd := some 13) rfl rfl rfl (r_move (v := .int .i64 _) rfl) ?_
    refine WL_val (dd := some 14) rfl rfl rfl (r_gtr rfl rfl) ?_
    refine WL_val (dd := some 15) rfl rfl rfl (r_pick_t rfl (v := .bool _) rfl) ?_
    refine WL_nil ?_
    refine hK14 _ _ ?_
    clear hK14 K13
    refine WC_cond (b := _) rfl (fun hc0 => ?_) (fun hc0 => ?_)
    ·
      try with_reducible replace hc0 := of_decide_eq_true hc0
      refine WC_seq (fun K15 hK16 => ?_)
      refine WC_region ?_
      refine WL_call (dd := some 16) rfl rfl rfl (r_call0 tb_c24) (C_drawknifelaw09_knows _) (fun v3_0 W17 hE18 hP3_0 => ?_)
      have hsz19 := Below.size hB
      replace hB := below_ext hB hE18 (Nat.le_refl _)
      replace hm0_0 := hE18.at hm0_0
      clear hE18
      clear hsz19
      obtain rfl := hP3_0
      refine WL_val (dd := some 4) rfl rfl rfl (r_assign (v := .bool _) rfl) ?_
      refine WL_nil ?_
      refine hK16 _ _ ?_
      clear hK16 K15
      refine WC_ret ?_
      repeat (first | refine thenQ_ret ?_ | refine blockQ_ret ?_)
      try clear hK12 K11
      refine ret_t (v := .bool _) rfl ?_
      refine ⟨hB, ?_⟩
      rfl
    ·
      try with_reducible replace hc0 := of_decide_eq_false hc0
      refine WC_skip ?_
      refine hK12 _ _ ?_
      clear hK12 K11
      refine WC_seq (fun K20 hK21 => ?_)
      refine WC_region ?_
      refine WL_val (dd := some 18) rfl rfl rfl (r_loadW rfl tb_ag24 rfl hm0_0) ?_
      refine WL_val (dd := some 19) rfl rfl rfl (r_move (v := .int .i64 _) rfl) ?_
      refine WL_call (dd := some 20) rfl rfl rfl (r_call2 tb_c25 (v0 := .agg #[_, _, _, _]) rfl (v1 := .int .i64 _) rfl) (C_prime_All _ _ _) (fun v4_2 W22 hE23 hP4_2 => ?_)
      have hsz24 := Below.size hB
      replace hB := below_ext hB hE23 (Nat.le_refl _)
      replace hm0_0 := hE23.at hm0_0
      clear hE23
      obtain ⟨x_hP4_2, er_hP4_2, l_hP4_2, rfl, ho_hP4_2, hc_hP4_2⟩ := all_res hP4_2
      replace ho_hP4_2 := OwT.mono ho_hP4_2 hsz24
      clear hsz24
      refine WL_val (dd := some 17) rfl rfl rfl (r_move (v := .tuple #[x_hP4_2, .int .i64 _]) rfl) ?_
      refine WL_val (dd := some 21) rfl rfl rfl (r_ext2_0 (h := rfl)) ?_
      refine WL_val (dd := some 22) rfl rfl rfl (r_ext2_1 (h := rfl)) ?_
      refine WL_val (dd := some 6) rfl rfl rfl (r_assign (v := x_hP4_2) rfl) ?_
      refine WL_val (dd := some 7) rfl rfl rfl (r_assign (v := .int .i64 _) rfl) ?_
      refine WL_nil ?_
      refine hK21 _ _ ?_
      clear hK21 K20
      refine WC_seq (fun K25 hK26 => ?_)
      refine WC_seq (fun K27 hK28 => ?_)
      refine WC_region ?_
      refine WL_val (dd := some 23) rfl rfl rfl (r_move (v := .bool _) rfl) ?_
      refine WL_val (dd := some 24) rfl rfl rfl (r_not rfl) ?_
      refine WL_nil ?_
      refine hK28 _ _ ?_
      clear hK28 K27
      refine WC_cond (b := _) rfl (fun hc1 => ?_) (fun hc1 => ?_)
      ·
        try with_reducible replace hc1 := of_decide_eq_true hc1
        refine WC_seq (fun K29 hK30 => ?_)
        have hk : ofB s n = false := by simpa using hc1
        obtain ⟨q2, q3⟩ := hc_hP4_2.elim (fun h => absurd h.1 (by rw [hk]; decide)) (fun h => h.2)
        subst q2 q3
        refine WC_region ?_
        refine WL_val (dd := some 25) rfl rfl rfl (r_move (v := x_hP4_2) rfl) ?_
        refine WL_val (dd := some 26) rfl rfl rfl (r_lenS (v := x_hP4_2) rfl ho_hP4_2.sl tb_el27) ?_
        refine WL_val (dd := some 27) rfl rfl rfl (r_eql rfl rfl) ?_
        refine WL_split (dd := some 28) rfl rfl rfl (r_move (v := .bool _) rfl) (fun hs6_3 => ?_) (fun hs6_3 => ?_)
        ·
          try with_reducible replace hs6_3 := of_decide_eq_true hs6_3
          refine WL_val (dd := some 29) rfl rfl rfl (r_move (v := .int .i64 _) rfl) ?_
          refine WL_val (dd := some 30) rfl rfl rfl (r_eql rfl rfl) ?_
          refine WL_val (dd := some 31) rfl rfl rfl (r_pick_t rfl (v := .bool _) rfl) ?_
          refine WL_split (dd := some 32) rfl rfl rfl (r_move (v := .bool _) rfl) (fun hs6_7 => ?_) (fun hs6_7 => ?_)
          ·
            try with_reducible replace hs6_7 := of_decide_eq_true hs6_7
            refine WL_call (dd := some 33) rfl rfl rfl (r_call0 tb_c24) (C_drawknifelaw09_knows _) (fun v6_8 W31 hE32 hP6_8 => ?_)
            have hsz33 := Below.size hB
            replace hB := below_ext hB hE32 (Nat.le_refl _)
            replace hm0_0 := hE32.at hm0_0
            replace ho_hP4_2 := hE32.ow ho_hP4_2
            clear hE32
            clear hsz33
            obtain rfl := hP6_8
            refine WL_val (dd := some 34) rfl rfl rfl (r_pick_t rfl (v := .bool _) rfl) ?_
            refine WL_val (dd := some 4) rfl rfl rfl (r_assign (v := .bool _) rfl) ?_
            refine WL_nil ?_
            refine hK30 _ _ ?_
            clear hK30 K29
            refine WC_ret ?_
            repeat (first | refine thenQ_ret ?_ | refine blockQ_ret ?_)
            try clear hK26 K25
            refine ret_t (v := .bool _) rfl ?_
            refine ⟨hB, ?_⟩
            rfl
          ·
            try with_reducible replace hs6_7 := of_decide_eq_false hs6_7
            exact absurd rfl hs6_7
        ·
          try with_reducible replace hs6_3 := of_decide_eq_false hs6_3
          exact absurd rfl hs6_3
      ·
        try with_reducible replace hc1 := of_decide_eq_false hc1
        refine WC_skip ?_
        refine hK26 _ _ ?_
        clear hK26 K25
        refine WC_seq (fun K34 hK35 => ?_)
        have hk : ofB s n = true := by simpa using hc1
        obtain ⟨h0, h8⟩ := of_bounds hk
        have hpl := primesL_len (s := s) h8
        obtain ⟨q2, q3⟩ := hc_hP4_2.elim (fun h => h.2) (fun h => absurd hk (by rw [h.1]; decide))
        subst q2 q3
        refine WC_region ?_
        refine WL_val (dd := some 35) rfl rfl rfl (r_move (v := x_hP4_2) rfl) ?_
        refine WL_val (dd := some 36) rfl rfl rfl (r_loadW rfl tb_ag24 rfl hm0_0) ?_
        refine WL_val (dd := some 37) rfl rfl rfl (r_move (v := .int .i64 _) rfl) ?_
        refine WL_call (dd := some 38) rfl rfl rfl (r_call2 tb_c27 (v0 := .agg #[_, _, _, _]) rfl (v1 := .int .i64 _) rfl) (C_drawkniferef09_All _ _ _ (by first | assumption | omega) (by first | assumption | omega)) (fun v7_3 W36 hE37 hP7_3 => ?_)
        have hsz38 := Below.size hB
        replace hB := below_ext hB hE37 (Nat.le_refl _)
        replace hm0_0 := hE37.at hm0_0
        replace ho_hP4_2 := hE37.ow ho_hP4_2
        clear hE37
        replace hP7_3 := OwT.mono hP7_3 hsz38
        clear hsz38
        refine WL_call (dd := some 39) rfl rfl rfl (r_call2 tb_c26 (v0 := x_hP4_2) rfl (v1 := v7_3) rfl) (C_drawkniferef09_Same _ _ _ _ _ ho_hP4_2.sl hP7_3.sl (by first | assumption | omega)) (fun v7_4 W39 hE40 hP7_4 => ?_)
        have hsz41 := Below.size hB
        replace hB := below_ext hB hE40 (Nat.le_refl _)
        replace hm0_0 := hE40.at hm0_0
        replace ho_hP4_2 := hE40.ow ho_hP4_2
        replace hP7_3 := hE40.ow hP7_3
        clear hE40
        clear hsz41
        obtain rfl := hP7_4
        refine WL_split (dd := some 40) rfl rfl rfl (r_move (v := .bool _) rfl) (fun hs7_5 => ?_) (fun hs7_5 => ?_)
        ·
          try with_reducible replace hs7_5 := of_decide_eq_true hs7_5
          refine WL_val (dd := some 41) rfl rfl rfl (r_move (v := .int .i64 _) rfl) ?_
          refine WL_val (dd := some 42) rfl rfl rfl (r_eql rfl rfl) ?_
          refine WL_val (dd := some 43) rfl rfl rfl (r_pick_t rfl (v := .bool _) rfl) ?_
          refine WL_split (dd := some 44) rfl rfl rfl (r_move (v := .bool _) rfl) (fun hs7_9 => ?_) (fun hs7_9 => ?_)
          ·
            try with_reducible replace hs7_9 := of_decide_eq_true hs7_9
            refine WL_call (dd := some 45) rfl rfl rfl (r_call0 tb_c24) (C_drawknifelaw09_knows _) (fun v7_10 W42 hE43 hP7_10 => ?_)
            have hsz44 := Below.size hB
            replace hB := below_ext hB hE43 (Nat.le_refl _)
            replace hm0_0 := hE43.at hm0_0
            replace ho_hP4_2 := hE43.ow ho_hP4_2
            replace hP7_3 := hE43.ow hP7_3
            clear hE43
            clear hsz44
            obtain rfl := hP7_10
            refine WL_val (dd := some 46) rfl rfl rfl (r_pick_t rfl (v := .bool _) rfl) ?_
            refine WL_val (dd := some 4) rfl rfl rfl (r_assign (v := .bool _) rfl) ?_
            refine WL_nil ?_
            refine hK35 _ _ ?_
            clear hK35 K34
            refine WC_ret ?_
            repeat (first | refine thenQ_ret ?_ | refine blockQ_ret ?_)
            refine ret_t (v := .bool _) rfl ?_
            refine ⟨hB, ?_⟩
            rfl
          ·
            try with_reducible replace hs7_9 := of_decide_eq_false hs7_9
            exact absurd rfl hs7_9
        ·
          try with_reducible replace hs7_5 := of_decide_eq_false hs7_5
          exact absurd rfl hs7_5
  ·
    try with_reducible replace hs2_1 := of_decide_eq_false hs2_1
    refine WL_skip (dd := some 13) rfl rfl rfl ?_
    refine WL_skip (dd := some 14) rfl rfl rfl ?_
    refine WL_val (dd := some 15) rfl rfl rfl (r_pick_f rfl (v := .bool false) rfl) ?_
    refine WL_nil ?_
    refine hK14 _ _ ?_
    clear hK14 K13
    refine WC_cond_false rfl ?_
    refine WC_skip ?_
    refine hK12 _ _ ?_
    clear hK12 K11
    refine WC_seq (fun K45 hK46 => ?_)
    refine WC_region ?_
    refine WL_val (dd := some 18) rfl rfl rfl (r_loadW rfl tb_ag24 rfl hm0_0) ?_
    refine WL_val (dd := some 19) rfl rfl rfl (r_move (v := .int .i64 _) rfl) ?_
    refine WL_call (dd := some 20) rfl rfl rfl (r_call2 tb_c25 (v0 := .agg #[_, _, _, _]) rfl (v1 := .int .i64 _) rfl) (C_prime_All _ _ _) (fun v4_2 W47 hE48 hP4_2 => ?_)
    have hsz49 := Below.size hB
    replace hB := below_ext hB hE48 (Nat.le_refl _)
    replace hm0_0 := hE48.at hm0_0
    clear hE48
    obtain ⟨x_hP4_2, er_hP4_2, l_hP4_2, rfl, ho_hP4_2, hc_hP4_2⟩ := all_res hP4_2
    replace ho_hP4_2 := OwT.mono ho_hP4_2 hsz49
    clear hsz49
    refine WL_val (dd := some 17) rfl rfl rfl (r_move (v := .tuple #[x_hP4_2, .int .i64 _]) rfl) ?_
    refine WL_val (dd := some 21) rfl rfl rfl (r_ext2_0 (h := rfl)) ?_
    refine WL_val (dd := some 22) rfl rfl rfl (r_ext2_1 (h := rfl)) ?_
    refine WL_val (dd := some 6) rfl rfl rfl (r_assign (v := x_hP4_2) rfl) ?_
    refine WL_val (dd := some 7) rfl rfl rfl (r_assign (v := .int .i64 _) rfl) ?_
    refine WL_nil ?_
    refine hK46 _ _ ?_
    clear hK46 K45
    refine WC_seq (fun K50 hK51 => ?_)
    refine WC_seq (fun K52 hK53 => ?_)
    refine WC_region ?_
    refine WL_val (dd := some 23) rfl rfl rfl (r_move (v := .bool _) rfl) ?_
    refine WL_val (dd := some 24) rfl rfl rfl (r_not rfl) ?_
    refine WL_nil ?_
    refine hK53 _ _ ?_
    clear hK53 K52
    refine WC_cond (b := _) rfl (fun hc1 => ?_) (fun hc1 => ?_)
    ·
      try with_reducible replace hc1 := of_decide_eq_true hc1
      refine WC_seq (fun K54 hK55 => ?_)
      have hk : ofB s n = false := by simpa using hc1
      obtain ⟨q2, q3⟩ := hc_hP4_2.elim (fun h => absurd h.1 (by rw [hk]; decide)) (fun h => h.2)
      subst q2 q3
      refine WC_region ?_
      refine WL_val (dd := some 25) rfl rfl rfl (r_move (v := x_hP4_2) rfl) ?_
      refine WL_val (dd := some 26) rfl rfl rfl (r_lenS (v := x_hP4_2) rfl ho_hP4_2.sl tb_el27) ?_
      refine WL_val (dd := some 27) rfl rfl rfl (r_eql rfl rfl) ?_
      refine WL_split (dd := some 28) rfl rfl rfl (r_move (v := .bool _) rfl) (fun hs6_3 => ?_) (fun hs6_3 => ?_)
      ·
        try with_reducible replace hs6_3 := of_decide_eq_true hs6_3
        refine WL_val (dd := some 29) rfl rfl rfl (r_move (v := .int .i64 _) rfl) ?_
        refine WL_val (dd := some 30) rfl rfl rfl (r_eql rfl rfl) ?_
        refine WL_val (dd := some 31) rfl rfl rfl (r_pick_t rfl (v := .bool _) rfl) ?_
        refine WL_split (dd := some 32) rfl rfl rfl (r_move (v := .bool _) rfl) (fun hs6_7 => ?_) (fun hs6_7 => ?_)
        ·
          try with_reducible replace hs6_7 := of_decide_eq_true hs6_7
          refine WL_call (dd := some 33) rfl rfl rfl (r_call0 tb_c24) (C_drawknifelaw09_knows _) (fun v6_8 W56 hE57 hP6_8 => ?_)
          have hsz58 := Below.size hB
          replace hB := below_ext hB hE57 (Nat.le_refl _)
          replace hm0_0 := hE57.at hm0_0
          replace ho_hP4_2 := hE57.ow ho_hP4_2
          clear hE57
          clear hsz58
          obtain rfl := hP6_8
          refine WL_val (dd := some 34) rfl rfl rfl (r_pick_t rfl (v := .bool _) rfl) ?_
          refine WL_val (dd := some 4) rfl rfl rfl (r_assign (v := .bool _) rfl) ?_
          refine WL_nil ?_
          refine hK55 _ _ ?_
          clear hK55 K54
          refine WC_ret ?_
          repeat (first | refine thenQ_ret ?_ | refine blockQ_ret ?_)
          try clear hK51 K50
          refine ret_t (v := .bool _) rfl ?_
          refine ⟨hB, ?_⟩
          rfl
        ·
          try with_reducible replace hs6_7 := of_decide_eq_false hs6_7
          exact absurd rfl hs6_7
      ·
        try with_reducible replace hs6_3 := of_decide_eq_false hs6_3
        exact absurd rfl hs6_3
    ·
      try with_reducible replace hc1 := of_decide_eq_false hc1
      refine WC_skip ?_
      refine hK51 _ _ ?_
      clear hK51 K50
      refine WC_seq (fun K59 hK60 => ?_)
      have hk : ofB s n = true := by simpa using hc1
      obtain ⟨h0, h8⟩ := of_bounds hk
      have hpl := primesL_len (s := s) h8
      obtain ⟨q2, q3⟩ := hc_hP4_2.elim (fun h => h.2) (fun h => absurd hk (by rw [h.1]; decide))
      subst q2 q3
      refine WC_region ?_
      refine WL_val (dd := some 35) rfl rfl rfl (r_move (v := x_hP4_2) rfl) ?_
      refine WL_val (dd := some 36) rfl rfl rfl (r_loadW rfl tb_ag24 rfl hm0_0) ?_
      refine WL_val (dd := some 37) rfl rfl rfl (r_move (v := .int .i64 _) rfl) ?_
      refine WL_call (dd := some 38) rfl rfl rfl (r_call2 tb_c27 (v0 := .agg #[_, _, _, _]) rfl (v1 := .int .i64 _) rfl) (C_drawkniferef09_All _ _ _ (by first | assumption | omega) (by first | assumption | omega)) (fun v7_3 W61 hE62 hP7_3 => ?_)
      have hsz63 := Below.size hB
      replace hB := below_ext hB hE62 (Nat.le_refl _)
      replace hm0_0 := hE62.at hm0_0
      replace ho_hP4_2 := hE62.ow ho_hP4_2
      clear hE62
      replace hP7_3 := OwT.mono hP7_3 hsz63
      clear hsz63
      refine WL_call (dd := some 39) rfl rfl rfl (r_call2 tb_c26 (v0 := x_hP4_2) rfl (v1 := v7_3) rfl) (C_drawkniferef09_Same _ _ _ _ _ ho_hP4_2.sl hP7_3.sl (by first | assumption | omega)) (fun v7_4 W64 hE65 hP7_4 => ?_)
      have hsz66 := Below.size hB
      replace hB := below_ext hB hE65 (Nat.le_refl _)
      replace hm0_0 := hE65.at hm0_0
      replace ho_hP4_2 := hE65.ow ho_hP4_2
      replace hP7_3 := hE65.ow hP7_3
      clear hE65
      clear hsz66
      obtain rfl := hP7_4
      refine WL_split (dd := some 40) rfl rfl rfl (r_move (v := .bool _) rfl) (fun hs7_5 => ?_) (fun hs7_5 => ?_)
      ·
        try with_reducible replace hs7_5 := of_decide_eq_true hs7_5
        refine WL_val (dd := some 41) rfl rfl rfl (r_move (v := .int .i64 _) rfl) ?_
        refine WL_val (dd := some 42) rfl rfl rfl (r_eql rfl rfl) ?_
        refine WL_val (dd := some 43) rfl rfl rfl (r_pick_t rfl (v := .bool _) rfl) ?_
        refine WL_split (dd := some 44) rfl rfl rfl (r_move (v := .bool _) rfl) (fun hs7_9 => ?_) (fun hs7_9 => ?_)
        ·
          try with_reducible replace hs7_9 := of_decide_eq_true hs7_9
          refine WL_call (dd := some 45) rfl rfl rfl (r_call0 tb_c24) (C_drawknifelaw09_knows _) (fun v7_10 W67 hE68 hP7_10 => ?_)
          have hsz69 := Below.size hB
          replace hB := below_ext hB hE68 (Nat.le_refl _)
          replace hm0_0 := hE68.at hm0_0
          replace ho_hP4_2 := hE68.ow ho_hP4_2
          replace hP7_3 := hE68.ow hP7_3
          clear hE68
          clear hsz69
          obtain rfl := hP7_10
          refine WL_val (dd := some 46) rfl rfl rfl (r_pick_t rfl (v := .bool _) rfl) ?_
          refine WL_val (dd := some 4) rfl rfl rfl (r_assign (v := .bool _) rfl) ?_
          refine WL_nil ?_
          refine hK60 _ _ ?_
          clear hK60 K59
          refine WC_ret ?_
          repeat (first | refine thenQ_ret ?_ | refine blockQ_ret ?_)
          refine ret_t (v := .bool _) rfl ?_
          refine ⟨hB, ?_⟩
          rfl
        ·
          try with_reducible replace hs7_9 := of_decide_eq_false hs7_9
          exact absurd rfl hs7_9
      ·
        try with_reducible replace hs7_5 := of_decide_eq_false hs7_5
        exact absurd rfl hs7_5

end Go.Proofs.Ytdbcijijhhbkaaa
