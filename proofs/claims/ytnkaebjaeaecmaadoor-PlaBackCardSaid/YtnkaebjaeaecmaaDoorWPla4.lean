/-
  The walks of texts that are written.
-/
import Derived.Test.YtnkaebjaeaecmaaDoorProg
import Derived.Test.YtnkaebjaeaecmaaDoorWPla3
import Derived.Test.YtnkaebjaeaecmaaDoorText
namespace Go.Proofs.YtnkaebjaeaecmaaDoor
set_option linter.unusedVariables false
set_option linter.unusedSimpArgs false
open Go Go.RowKit

theorem tb_z5 : zeroI Tryd.prog 5 = some (.int .u8 0) := by kernel_rfl
theorem tb_sc9 : scalarB Tryd.prog 9 = true := by kernel_rfl
theorem tb_c49 : callB Tryd.prog 49 = true := by kernel_rfl
theorem tb_c28 : callB Tryd.prog 28 = true := by kernel_rfl
theorem tb_c29 : callB Tryd.prog 29 = true := by kernel_rfl
theorem tb_c30 : callB Tryd.prog 30 = true := by kernel_rfl
theorem tb_ag24 : aggN Tryd.prog 24 = some 4 := by kernel_rfl
theorem tb_c11 : callB Tryd.prog 11 = true := by kernel_rfl
theorem tb_c25 : callB Tryd.prog 25 = true := by kernel_rfl
theorem tb_c26 : callB Tryd.prog 26 = true := by kernel_rfl

theorem C_cube_Text (m u : Nat) (n : Int) (w : World) (hm : m < 256) (hv : u < 256) :
    Fn Tryd.prog 26 #[.agg #[.int .u8 (m : Int), .int .u8 (u : Int)], .int .i64 n] w fun v w' => v = if rightB m u n = true then .tuple #[keyW (texC m u n.toNat), .int .i64 0] else .tuple #[keyW [], .int .i64 1] := by
  refine Fn_intro (n := 45) Tryd.func26 rfl rfl (Nat.le_of_ble_eq_true rfl) ?_
  have hB : Below w.heap.size w w := Below.refl _ _
  refine WC_seq (fun K1 hK2 => ?_)
  refine WC_region ?_
  refine WL_step (dd := some 2) rfl rfl rfl (Y_box (c := #[_, _]) rfl rfl (fun b0_0 W3 hb4 hE5 hm0_0 => ?_))
  have lo_b0_0 : w.heap.size ≤ b0_0 := hb4 ▸ (Below.size hB)
  clear hb4
  replace hB := below_ext hB hE5 (Nat.le_refl _)
  clear hE5
  refine WL_val (dd := some 4) rfl rfl rfl (r_assign (v := .string _) rfl) ?_
  refine WL_val (dd := some 5) rfl rfl rfl (r_assign (v := .int .i64 0) rfl) ?_
  refine WL_nil ?_
  refine hK2 _ _ ?_
  clear hK2 K1
  refine WC_seq (fun K6 hK7 => ?_)
  refine WC_seq (fun K8 hK9 => ?_)
  refine WC_region ?_
  refine WL_val (dd := some 8) rfl rfl rfl (r_loadW rfl tb_ag42 rfl hm0_0) ?_
  refine WL_val (dd := some 9) rfl rfl rfl (r_move (v := .int .i64 _) rfl) ?_
  refine WL_call (dd := some 10) rfl rfl rfl (r_call2 tb_c27 (v0 := .agg #[_, _]) rfl (v1 := .int .i64 _) rfl) (C_cube_Right _ _ _ _ (by first | assumption | omega) (by first | assumption | omega)) (fun v1_2 W10 hE11 hP1_2 => ?_)
  have hsz12 := (Below.size hB)
  replace hB := below_ext hB hE11 (Nat.le_refl _)
  replace hm0_0 := hE11.at hm0_0
  clear hE11
  clear hsz12
  obtain rfl := hP1_2
  refine WL_val (dd := some 11) rfl rfl rfl (r_not rfl) ?_
  refine WL_nil ?_
  refine hK9 _ _ ?_
  clear hK9 K8
  refine WC_cond (b := _) rfl (fun hc0 => ?_) (fun hc0 => ?_)
  ·
    try with_reducible replace hc0 := dec_t hc0
    refine WC_seq (fun K13 hK14 => ?_)
    refine WC_region ?_
    refine WL_val (dd := some 4) rfl rfl rfl (r_assign (v := .string _) rfl) ?_
    refine WL_val (dd := some 5) rfl rfl rfl (r_assign (v := .int .i64 1) rfl) ?_
    refine WL_nil ?_
    refine hK14 _ _ ?_
    clear hK14 K13
    refine WC_ret ?_
    repeat (first | refine thenQ_ret ?_ | refine blockQ_ret ?_)
    try clear hK7 K6
    refine ret_tt (v := .string _) rfl (v1 := .int .i64 1) rfl ?_
    refine ⟨hB, ?_⟩
    rw [if_neg (by simpa using hc0)]; rfl
  ·
    try with_reducible replace hc0 := dec_f hc0
    refine WC_skip ?_
    refine hK7 _ _ ?_
    clear hK7 K6
    refine WC_seq (fun K15 hK16 => ?_)
    have hr : rightB m u n = true := by simpa using hc0
    obtain ⟨hn0, hn8, hmn, hvm⟩ := rightB_iff.1 hr
    obtain ⟨q, rfl⟩ := Int.eq_ofNat_of_zero_le hn0
    have hq8 : q ≤ 8 := by omega
    refine WC_region ?_
    refine WL_val (dd := some 12) rfl rfl rfl (r_move (v := .int .i64 _) rfl) ?_
    refine WL_step (dd := some 13) rfl rfl rfl (Y_make (n := q) (N := w.heap.size) rfl rfl tb_el85 tb_z5 (by omega) (by simp [maxLen]; omega) (Below.size hB) (fun v3_1 W17 hE18 ho3_1 => ?_))
    replace ho3_1 := OwT.made encY_len 0 rfl (by decide) ho3_1
    replace hB := below_ext hB hE18 (Nat.le_refl _)
    replace hm0_0 := hE18.at hm0_0
    clear hE18
    rw [texI_zero m u q] at ho3_1
    refine WL_val (dd := some 6) rfl rfl rfl (r_assign (v := v3_1) rfl) ?_
    refine WL_nil ?_
    refine hK16 _ _ ?_
    clear hK16 K15
    refine WC_seq (fun K19 hK20 => ?_)
    refine WC_seq (fun K21 hK22 => ?_)
    refine WC_region ?_
    refine WL_val (dd := some 14) rfl rfl rfl (r_move (v := v3_1) rfl) ?_
    refine WL_val (dd := some 15) rfl rfl rfl (r_lenS (v := v3_1) rfl ho3_1.sl tb_el85) ?_
    refine WL_val (dd := some 16) rfl rfl rfl (r_move (v := .int .i64 0) rfl) ?_
    refine WL_nil ?_
    refine hK22 _ _ ?_
    clear hK22 K21
    refine WC_block ?_
    refine WC_loop (σ := (Nat)) [7, 16, 17, 18, 19, 20, 21, 22, 23, 24, 25, 26, 27, 28, 29, 30, 31, 32, 33, 34, 35, 36, 37, 38, 39, 40, 41, 42] (fun k => [(16, .int .i64 (k : Int))]) (fun k W => (Below w.heap.size w W) ∧ (At W b0_0 _ 42) ∧ (OwT encY 1 5 W w.heap.size v3_1 (texI m u q k)) ∧ (k ≤ q) ∧ (True)) (fun k => q - k) (0) ⟨rfl, trivial⟩ ⟨hB, hm0_0, ho3_1, (Nat.zero_le _), trivial⟩ ?_
    clear hB hm0_0 ho3_1
    rintro k g24 W23 ⟨hB, hm0_0, ho, hk, _⟩ J25 hJ26
    refine WC_seq (fun K27 hK28 => ?_)
    refine WC_region ?_
    refine WL_val (dd := some 17) rfl rfl rfl (r_lss rfl rfl) ?_
    refine WL_nil ?_
    refine hK28 _ _ ?_
    clear hK28 K27
    refine WC_seq (fun K29 hK30 => ?_)
    refine WC_cond (b := _) rfl (fun hc1 => ?_) (fun hc1 => ?_)
    ·
      try with_reducible replace hc1 := dec_t hc1
      refine WC_skip ?_
      refine hK30 _ _ ?_
      clear hK30 K29
      refine WC_seq (fun K31 hK32 => ?_)
      refine WC_block ?_
      refine WC_seq (fun K33 hK34 => ?_)
      rw [texI_len] at hc1
      refine WC_region ?_
      refine WL_val (dd := some 18) rfl rfl rfl (r_move (v := .int .i64 _) rfl) ?_
      refine WL_val (dd := some 7) rfl rfl rfl (r_assign (v := .int .i64 _) rfl) ?_
      refine WL_nil ?_
      refine hK34 _ _ ?_
      clear hK34 K33
      refine WC_block ?_
      refine WC_seq (fun K35 hK36 => ?_)
      have hdm := Nat.lt_of_le_of_lt (Nat.div_le_self m (2 ^ k)) hm
      refine WC_region ?_
      refine WL_val (dd := some 23) rfl rfl rfl (r_fieldAddr (b := _) (o := _) rfl tb_fo42_0) ?_
      refine WL_val (dd := some 24) rfl rfl rfl (r_load1 (v := .int .u8 _) rfl tb_sc5 (At.cell hm0_0 rfl)) ?_
      refine WL_val (dd := some 25) rfl rfl rfl (r_move (v := .int .i64 _) rfl) ?_
      refine WL_val (dd := some 26) rfl rfl rfl (r_shr rfl rfl (by omega) (by simp only [IntKind.bits]; omega)) ?_
      refine WL_val (dd := some 27) rfl rfl rfl (r_and (n := 1) rfl rfl rfl (by simp only [topN]; simp only [Int.toNat_natCast]; omega) (by first | assumption | (simp only [topN]; omega) | (simp only [topN]; decide))) ?_
      refine WL_val (dd := some 28) rfl rfl rfl (r_eql rfl rfl) ?_
      refine WL_val (dd := some 22) rfl rfl rfl (r_assign (v := .bool _) rfl) ?_
      refine WL_nil ?_
      refine hK36 _ _ ?_
      clear hK36 K35
      refine WC_cond (b := _) rfl (fun hc2 => ?_) (fun hc2 => ?_)
      ·
        try with_reducible replace hc2 := dec_t hc2
        refine WC_region ?_
        refine WL_val (dd := some 29) rfl rfl rfl (r_move (v := v3_1) rfl) ?_
        refine WL_val (dd := some 30) rfl rfl rfl (r_move (v := .int .i64 _) rfl) ?_
        refine WL_val (dd := some 31) rfl rfl rfl (r_idxS (v := v3_1) rfl ho.sl rfl tb_el85 (by omega) (by first | omega | (simp only [dashL_len, kindsL_len, lits_len8, texI_len]; omega))) ?_
        refine WL_step (dd := none) rfl rfl rfl (Y_storeE (v := v3_1) (u := .int .u8 45) (a := 45) (j := _) rfl rfl (.inl ⟨tb_sc5, rfl⟩) encY_len rfl rfl ho (by omega) (by first | omega | (simp only [dashL_len, kindsL_len, lits_len8, texI_len]; omega)) (fun W37 hG38 hm39 => ?_))
        replace hB := below_grown hB hG38 (Nat.le_refl _) (fun j hj => (OwT.lt ho j hj))
        replace hm0_0 := At.grownOw hm0_0 ho hG38 (by decide)
        clear hG38 ho
        have ho := hm39
        clear hm39
        rw [Int.toNat_natCast, texI_set (by omega) (ch_dash (k := k) hc2)] at ho
        refine WL_nil ?_
        refine hK32 _ _ ?_
        clear hK32 K31
        refine WC_region ?_
        refine WL_val (dd := some 42) rfl rfl rfl (r_addI rfl rfl (by omega) (by omega)) ?_
        refine WL_val (dd := some 16) rfl rfl rfl (r_move (v := .int .i64 _) rfl) ?_
        refine WL_nil ?_
        refine hJ26 _ _ (k + 1) ?_ ?_ ?_ ?_
        · repeat (first | exact agree.mask _ _ _ | refine agree.updo ?_ rfl _ | refine agree.updL ?_ _ rfl | refine agree.maskS rfl ?_)
        · exact ⟨rfl, trivial⟩
        · exact ⟨hB, hm0_0, (by exact ho), (by omega), trivial⟩
        · omega
      ·
        try with_reducible replace hc2 := dec_f hc2
        refine WC_seq (fun K40 hK41 => ?_)
        have hdu := Nat.lt_of_le_of_lt (Nat.div_le_self u (2 ^ k)) hv
        refine WC_region ?_
        refine WL_val (dd := some 33) rfl rfl rfl (r_fieldAddr (b := _) (o := _) rfl tb_fo42_1) ?_
        refine WL_val (dd := some 34) rfl rfl rfl (r_load1 (v := .int .u8 _) rfl tb_sc5 (At.cell hm0_0 rfl)) ?_
        refine WL_val (dd := some 35) rfl rfl rfl (r_move (v := .int .i64 _) rfl) ?_
        refine WL_val (dd := some 36) rfl rfl rfl (r_shr rfl rfl (by omega) (by simp only [IntKind.bits]; omega)) ?_
        refine WL_val (dd := some 37) rfl rfl rfl (r_and (n := 1) rfl rfl rfl (by simp only [topN]; simp only [Int.toNat_natCast]; omega) (by first | assumption | (simp only [topN]; omega) | (simp only [topN]; decide))) ?_
        refine WL_val (dd := some 38) rfl rfl rfl (r_eql rfl rfl) ?_
        refine WL_val (dd := some 32) rfl rfl rfl (r_assign (v := .bool _) rfl) ?_
        refine WL_nil ?_
        refine hK41 _ _ ?_
        clear hK41 K40
        refine WC_cond (b := _) rfl (fun hc3 => ?_) (fun hc3 => ?_)
        ·
          try with_reducible replace hc3 := dec_t hc3
          refine WC_region ?_
          refine WL_val (dd := some 39) rfl rfl rfl (r_move (v := v3_1) rfl) ?_
          refine WL_val (dd := some 40) rfl rfl rfl (r_move (v := .int .i64 _) rfl) ?_
          refine WL_val (dd := some 41) rfl rfl rfl (r_idxS (v := v3_1) rfl ho.sl rfl tb_el85 (by omega) (by first | omega | (simp only [dashL_len, kindsL_len, lits_len8, texI_len]; omega))) ?_
          refine WL_step (dd := none) rfl rfl rfl (Y_storeE (v := v3_1) (u := .int .u8 48) (a := 48) (j := _) rfl rfl (.inl ⟨tb_sc5, rfl⟩) encY_len rfl rfl ho (by omega) (by first | omega | (simp only [dashL_len, kindsL_len, lits_len8, texI_len]; omega)) (fun W42 hG43 hm44 => ?_))
          replace hB := below_grown hB hG43 (Nat.le_refl _) (fun j hj => (OwT.lt ho j hj))
          replace hm0_0 := At.grownOw hm0_0 ho hG43 (by decide)
          clear hG43 ho
          have ho := hm44
          clear hm44
          rw [Int.toNat_natCast, texI_set (by omega) (ch_0 (k := k) hc2 hc3)] at ho
          refine WL_nil ?_
          refine hK32 _ _ ?_
          clear hK32 K31
          refine WC_region ?_
          refine WL_val (dd := some 42) rfl rfl rfl (r_addI rfl rfl (by omega) (by omega)) ?_
          refine WL_val (dd := some 16) rfl rfl rfl (r_move (v := .int .i64 _) rfl) ?_
          refine WL_nil ?_
          refine hJ26 _ _ (k + 1) ?_ ?_ ?_ ?_
          · repeat (first | exact agree.mask _ _ _ | refine agree.updo ?_ rfl _ | refine agree.updL ?_ _ rfl | refine agree.maskS rfl ?_)
          · exact ⟨rfl, trivial⟩
          · exact ⟨hB, hm0_0, (by exact ho), (by omega), trivial⟩
          · omega
        ·
          try with_reducible replace hc3 := dec_f hc3
          refine WC_region ?_
          refine WL_val (dd := some 19) rfl rfl rfl (r_move (v := v3_1) rfl) ?_
          refine WL_val (dd := some 20) rfl rfl rfl (r_move (v := .int .i64 _) rfl) ?_
          refine WL_val (dd := some 21) rfl rfl rfl (r_idxS (v := v3_1) rfl ho.sl rfl tb_el85 (by omega) (by first | omega | (simp only [dashL_len, kindsL_len, lits_len8, texI_len]; omega))) ?_
          refine WL_step (dd := none) rfl rfl rfl (Y_storeE (v := v3_1) (u := .int .u8 49) (a := 49) (j := _) rfl rfl (.inl ⟨tb_sc5, rfl⟩) encY_len rfl rfl ho (by omega) (by first | omega | (simp only [dashL_len, kindsL_len, lits_len8, texI_len]; omega)) (fun W45 hG46 hm47 => ?_))
          replace hB := below_grown hB hG46 (Nat.le_refl _) (fun j hj => (OwT.lt ho j hj))
          replace hm0_0 := At.grownOw hm0_0 ho hG46 (by decide)
          clear hG46 ho
          have ho := hm47
          clear hm47
          rw [Int.toNat_natCast, texI_set (by omega) (ch_1 (k := k) hc2 hc3)] at ho
          refine WL_nil ?_
          refine hK32 _ _ ?_
          clear hK32 K31
          refine WC_region ?_
          refine WL_val (dd := some 42) rfl rfl rfl (r_addI rfl rfl (by omega) (by omega)) ?_
          refine WL_val (dd := some 16) rfl rfl rfl (r_move (v := .int .i64 _) rfl) ?_
          refine WL_nil ?_
          refine hJ26 _ _ (k + 1) ?_ ?_ ?_ ?_
          · repeat (first | exact agree.mask _ _ _ | refine agree.updo ?_ rfl _ | refine agree.updL ?_ _ rfl | refine agree.maskS rfl ?_)
          · exact ⟨rfl, trivial⟩
          · exact ⟨hB, hm0_0, (by exact ho), (by omega), trivial⟩
          · omega
    ·
      try with_reducible replace hc1 := dec_f hc1
      refine WC_exit ?_
      refine hK20 _ _ ?_
      clear hK30 K29
      clear hJ26 J25
      clear hK20 K19
      refine WC_seq (fun K48 hK49 => ?_)
      refine WC_region ?_
      refine WL_val (dd := some 43) rfl rfl rfl (r_move (v := v3_1) rfl) ?_
      refine WL_val (dd := some 44) rfl rfl rfl (r_bytesStr (v := v3_1) rfl ho.sl Tryd.underlying85 Tryd.underlying5 Tryd.underlying9) ?_
      refine WL_val (dd := some 4) rfl rfl rfl (r_assign (v := keyW _) rfl) ?_
      refine WL_val (dd := some 5) rfl rfl rfl (r_assign (v := .int .i64 0) rfl) ?_
      refine WL_nil ?_
      refine hK49 _ _ ?_
      clear hK49 K48
      refine WC_ret ?_
      repeat (first | refine thenQ_ret ?_ | refine blockQ_ret ?_)
      refine ret_tt (v := keyW _) rfl (v1 := .int .i64 0) rfl ?_
      refine ⟨hB, ?_⟩
      have hkq : k = q := by rw [texI_len] at hc1; omega
      subst hkq
      rw [if_pos hr, texI_all]; rfl

theorem C_drawkniferef02_Text (m u : Nat) (n : Int) (w : World) (hm : m < 256) (hv : u < 256) (h0 : 0 ≤ n) (h8 : n ≤ 8) :
    Fn Tryd.prog 49 #[.agg #[.int .u8 (m : Int), .int .u8 (u : Int)], .int .i64 n] w fun v w' => v = keyW (texC m u n.toNat) := by
  refine Fn_intro (n := 25) Tryd.func49 rfl rfl (Nat.le_of_ble_eq_true rfl) ?_
  have hB : Below w.heap.size w w := Below.refl _ _
  obtain ⟨q, rfl⟩ := Int.eq_ofNat_of_zero_le h0
  have hq8 : q ≤ 8 := by omega
  refine WC_seq (fun K1 hK2 => ?_)
  refine WC_region ?_
  refine WL_step (dd := some 2) rfl rfl rfl (Y_box (c := #[_, _]) rfl rfl (fun b0_0 W3 hb4 hE5 hm0_0 => ?_))
  have lo_b0_0 : w.heap.size ≤ b0_0 := hb4 ▸ (Below.size hB)
  clear hb4
  replace hB := below_ext hB hE5 (Nat.le_refl _)
  clear hE5
  refine WL_val (dd := some 4) rfl rfl rfl (r_assign (v := .string _) rfl) ?_
  refine WL_nil ?_
  refine hK2 _ _ ?_
  clear hK2 K1
  refine WC_seq (fun K6 hK7 => ?_)
  refine WC_region ?_
  refine WL_val (dd := some 5) rfl rfl rfl (r_assign (v := .string _) rfl) ?_
  refine WL_nil ?_
  refine hK7 _ _ ?_
  clear hK7 K6
  refine WC_seq (fun K8 hK9 => ?_)
  refine WC_region ?_
  refine WL_val (dd := some 8) rfl rfl rfl (r_loadW rfl tb_ag42 rfl hm0_0) ?_
  refine WL_call (dd := some 9) rfl rfl rfl (r_call1 tb_c41 (v0 := .agg #[_, _]) rfl) (C_drawkniferef02_Literals _ _ _ (by first | assumption | omega) (by first | assumption | omega)) (fun v2_1 W10 hE11 hP2_1 => ?_)
  have hsz12 := (Below.size hB)
  replace hB := below_ext hB hE11 (Nat.le_refl _)
  replace hm0_0 := hE11.at hm0_0
  clear hE11
  replace hP2_1 := OwT.mono hP2_1 hsz12
  clear hsz12
  refine WL_val (dd := some 6) rfl rfl rfl (r_assign (v := v2_1) rfl) ?_
  refine WL_nil ?_
  refine hK9 _ _ ?_
  clear hK9 K8
  refine WC_seq (fun K13 hK14 => ?_)
  refine WC_seq (fun K15 hK16 => ?_)
  refine WC_region ?_
  refine WL_val (dd := some 7) rfl rfl rfl (r_assign (v := .int .i64 0) rfl) ?_
  refine WL_nil ?_
  refine hK16 _ _ ?_
  clear hK16 K15
  refine WC_block ?_
  refine WC_loop (σ := (Nat)) [5, 7, 10, 11, 12, 13, 14, 15, 16, 17, 18, 19, 20, 21, 22, 23] (fun k => [(7, .int .i64 (k : Int)), (5, keyW (texC m u k))]) (fun k W => (Below w.heap.size w W) ∧ (At W b0_0 _ 42) ∧ (OwT encI 1 3 W w.heap.size v2_1 _) ∧ (k ≤ q) ∧ (True)) (fun k => q - k) (0) ⟨rfl, rfl, trivial⟩ ⟨hB, hm0_0, hP2_1, (Nat.zero_le _), trivial⟩ ?_
  clear hB hm0_0 hP2_1
  rintro k g18 W17 ⟨hB, hm0_0, hP2_1, hk, _⟩ J19 hJ20
  refine WC_seq (fun K21 hK22 => ?_)
  refine WC_seq (fun K23 hK24 => ?_)
  refine WC_region ?_
  refine WL_val (dd := some 10) rfl rfl rfl (r_move (v := .int .i64 _) rfl) ?_
  refine WL_val (dd := some 11) rfl rfl rfl (r_move (v := .int .i64 _) rfl) ?_
  refine WL_val (dd := some 12) rfl rfl rfl (r_lss rfl rfl) ?_
  refine WL_nil ?_
  refine hK24 _ _ ?_
  clear hK24 K23
  refine WC_cond (b := _) rfl (fun hc0 => ?_) (fun hc0 => ?_)
  ·
    try with_reducible replace hc0 := dec_t hc0
    refine WC_skip ?_
    refine hK22 _ _ ?_
    clear hK22 K21
    refine WC_seq (fun K25 hK26 => ?_)
    refine WC_block ?_
    have hx : 0 ≤ (litsS m u).getD (k : Int).toNat 0 ∧ (litsS m u).getD (k : Int).toNat 0 < 3 := by
      rw [Int.toNat_natCast, lits_get8 (by omega)]
      have := lit_cases m u k
      omega
    have hdl : (dashL.getD ((litsS m u).getD (k : Int).toNat 0).toNat []).length ≤ 1 := by rw [dash_out hx]; exact Nat.le_refl 1
    refine WC_region ?_
    refine WL_val (dd := some 15) rfl rfl rfl (r_move (v := .string _) rfl) ?_
    refine WL_step (dd := some 16) rfl rfl rfl (Y_lit3w rfl rfl rfl tb_el59 tb_zs9 rfl rfl rfl (fun b6_1 W27 hb28 hE29 hm6_1 => ?_))
    have lo_b6_1 : w.heap.size ≤ b6_1 := hb28 ▸ (Below.size hB)
    clear hb28
    replace hB := below_ext hB hE29 (Nat.le_refl _)
    replace hm0_0 := hE29.at hm0_0
    replace hP2_1 := hE29.ow hP2_1
    clear hE29
    have ho6_1 : OwT encW 1 9 W27 w.heap.size (.slice (some ⟨b6_1, 0, none⟩) 3 3) dashL := own_row (l := dashL) hm6_1 lo_b6_1 encW_len (by decide)
    clear hm6_1
    refine WL_val (dd := some 17) rfl rfl rfl (r_move (v := v2_1) rfl) ?_
    refine WL_val (dd := some 18) rfl rfl rfl (r_move (v := .int .i64 _) rfl) ?_
    refine WL_val (dd := some 19) rfl rfl rfl (r_idxS (v := v2_1) rfl hP2_1.sl rfl tb_el43 (by omega) (by first | omega | (simp only [dashL_len, kindsL_len, lits_len8, texI_len]; omega))) ?_
    refine WL_val (dd := some 20) rfl rfl rfl (r_load1 (v := .int .i64 _) rfl tb_sc3 (SlT.cell hP2_1.sl encI_len 0 (by omega) (by first | omega | (simp only [dashL_len, kindsL_len, lits_len8, texI_len]; omega)) 0 rfl)) ?_
    refine WL_val (dd := some 21) rfl rfl rfl (r_idxS (v := .slice (some ⟨b6_1, 0, none⟩) 3 3) rfl ho6_1.sl rfl tb_el59 (by omega) (by first | omega | (simp only [dashL_len, kindsL_len, lits_len8, texI_len]; omega))) ?_
    refine WL_val (dd := some 22) rfl rfl rfl (r_load1 (v := .string _) rfl tb_sc9 (SlT.cell ho6_1.sl encW_len [] (by omega) (by first | omega | (simp only [dashL_len, kindsL_len, lits_len8, texI_len]; omega)) 0 rfl)) ?_
    refine WL_val (dd := some 23) rfl rfl rfl (r_addW rfl rfl (by rw [texC_len]; omega)) ?_
    refine WL_val (dd := some 5) rfl rfl rfl (r_assign (v := .string _) rfl) ?_
    refine WL_nil ?_
    refine hK26 _ _ ?_
    clear hK26 K25
    refine WC_region ?_
    refine WL_val (dd := some 13) rfl rfl rfl (r_move (v := .int .i64 _) rfl) ?_
    refine WL_val (dd := some 14) rfl rfl rfl (r_addI rfl rfl (by omega) (by omega)) ?_
    refine WL_val (dd := some 7) rfl rfl rfl (r_assign (v := .int .i64 _) rfl) ?_
    refine WL_nil ?_
    refine hJ20 _ _ (k + 1) ?_ ?_ ?_ ?_
    · repeat (first | exact agree.mask _ _ _ | refine agree.updo ?_ rfl _ | refine agree.updL ?_ _ rfl | refine agree.maskS rfl ?_)
    · exact ⟨rfl, tex_step (by omega), trivial⟩
    · exact ⟨hB, hm0_0, hP2_1, (by omega), trivial⟩
    · first | omega | (dsimp only; omega)
  ·
    try with_reducible replace hc0 := dec_f hc0
    refine WC_exit ?_
    refine hK14 _ _ ?_
    clear hK22 K21
    clear hJ20 J19
    clear hK14 K13
    refine WC_seq (fun K30 hK31 => ?_)
    refine WC_region ?_
    refine WL_val (dd := some 24) rfl rfl rfl (r_move (v := .string _) rfl) ?_
    refine WL_val (dd := some 4) rfl rfl rfl (r_assign (v := .string _) rfl) ?_
    refine WL_nil ?_
    refine hK31 _ _ ?_
    clear hK31 K30
    refine WC_ret ?_
    repeat (first | refine thenQ_ret ?_ | refine blockQ_ret ?_)
    refine ret_t (v := .string _) rfl ?_
    refine ⟨hB, ?_⟩
    obtain rfl : k = q := by omega
    rfl

theorem C_drawkniferef03_Line (m u : Nat) (n : Int) (ov : Value) (os : List Int) (w : World) (hm : m < 256) (hv : u < 256) (h0 : 0 ≤ n) (h8 : n ≤ 8) (hol : SlT encI 1 w ov os) (hov : ∀ x, x ∈ os → 0 ≤ x ∧ x < 3) (ho4 : os.length ≤ 4) :
    Fn Tryd.prog 30 #[.agg #[.int .u8 (m : Int), .int .u8 (u : Int), ov], .int .i64 n] w fun v w' => v = keyW (lineT m u n os) := by
  refine Fn_intro (n := 30) Tryd.func30 rfl rfl (Nat.le_of_ble_eq_true rfl) ?_
  have hB : Below w.heap.size w w := Below.refl _ _
  refine WC_seq (fun K1 hK2 => ?_)
  refine WC_region ?_
  refine WL_step (dd := some 2) rfl rfl rfl (Y_box (c := #[_, _, _]) rfl rfl (fun b0_0 W3 hb4 hE5 hm0_0 => ?_))
  have lo_b0_0 : w.heap.size ≤ b0_0 := hb4 ▸ (Below.size hB)
  clear hb4
  replace hB := below_ext hB hE5 (Nat.le_refl _)
  clear hE5
  refine WL_val (dd := some 4) rfl rfl rfl (r_assign (v := .string _) rfl) ?_
  refine WL_nil ?_
  refine hK2 _ _ ?_
  clear hK2 K1
  refine WC_seq (fun K6 hK7 => ?_)
  refine WC_region ?_
  refine WL_val (dd := some 7) rfl rfl rfl (r_fieldAddr (b := _) (o := _) rfl tb_fo45_0) ?_
  refine WL_val (dd := some 8) rfl rfl rfl (r_load2 rfl tb_ag42 (At.cell hm0_0 rfl) (At.cell hm0_0 rfl)) ?_
  refine WL_val (dd := some 9) rfl rfl rfl (r_move (v := .int .i64 _) rfl) ?_
  refine WL_call (dd := some 10) rfl rfl rfl (r_call2 tb_c49 (v0 := .agg #[_, _]) rfl (v1 := .int .i64 _) rfl) (C_drawkniferef02_Text _ _ _ _ (by first | assumption | omega) (by first | assumption | omega) (by first | assumption | omega) (by first | assumption | omega)) (fun v1_3 W8 hE9 hP1_3 => ?_)
  have hsz10 := (Below.size hB)
  replace hB := below_ext hB hE9 (Nat.le_refl _)
  replace hm0_0 := hE9.at hm0_0
  clear hE9
  obtain rfl := hP1_3
  clear hsz10
  refine WL_val (dd := some 11) rfl rfl rfl (r_addW rfl rfl (by simp only [List.length_append, List.length_cons, List.length_nil, texC_len]; omega)) ?_
  refine WL_val (dd := some 5) rfl rfl rfl (r_assign (v := .string _) rfl) ?_
  refine WL_nil ?_
  refine hK7 _ _ ?_
  clear hK7 K6
  refine WC_seq (fun K11 hK12 => ?_)
  refine WC_seq (fun K13 hK14 => ?_)
  refine WC_region ?_
  refine WL_val (dd := some 6) rfl rfl rfl (r_assign (v := .int .i64 0) rfl) ?_
  refine WL_nil ?_
  refine hK14 _ _ ?_
  clear hK14 K13
  refine WC_block ?_
  refine WC_loop (σ := (Nat)) [5, 6, 12, 13, 14, 15, 16, 17, 18, 19, 20, 21, 22, 23, 24, 25, 26, 27, 28] (fun k => [(6, .int .i64 (k : Int)), (5, keyW ((texC m u n.toNat ++ [32]) ++ outsT (os.take k)))]) (fun k W => (Below w.heap.size w W) ∧ (At W b0_0 _ 45) ∧ (k ≤ os.length) ∧ (True)) (fun k => os.length - k) (0) ⟨rfl, outs_0, trivial⟩ ⟨hB, hm0_0, (Nat.zero_le _), trivial⟩ ?_
  clear hB hm0_0
  rintro k g16 W15 ⟨hB, hm0_0, hk, _⟩ J17 hJ18
  refine WC_seq (fun K19 hK20 => ?_)
  refine WC_seq (fun K21 hK22 => ?_)
  refine WC_region ?_
  refine WL_val (dd := some 12) rfl rfl rfl (r_move (v := .int .i64 _) rfl) ?_
  refine WL_val (dd := some 13) rfl rfl rfl (r_fieldAddr (b := _) (o := _) rfl tb_fo45_1) ?_
  refine WL_val (dd := some 14) rfl rfl rfl (r_load1 (v := ov) rfl tb_sc43 (At.cell hm0_0 rfl)) ?_
  refine WL_val (dd := some 15) rfl rfl rfl (r_lenS (v := ov) rfl (Below.slT hB hol) tb_el43) ?_
  refine WL_val (dd := some 16) rfl rfl rfl (r_lss rfl rfl) ?_
  refine WL_nil ?_
  refine hK22 _ _ ?_
  clear hK22 K21
  refine WC_cond (b := _) rfl (fun hc0 => ?_) (fun hc0 => ?_)
  ·
    try with_reducible replace hc0 := dec_t hc0
    refine WC_skip ?_
    refine hK20 _ _ ?_
    clear hK20 K19
    refine WC_seq (fun K23 hK24 => ?_)
    refine WC_block ?_
    have hx : 0 ≤ os.getD (k : Int).toNat 0 ∧ os.getD (k : Int).toNat 0 < 3 := hov _ (getD_memL (d := 0) (show k < os.length by omega))
    have hdl : (dashL.getD (os.getD (k : Int).toNat 0).toNat []).length ≤ 1 := by rw [dash_out hx]; exact Nat.le_refl 1
    have hol2 := outs_len_k (os := os) (k := k)
    refine WC_region ?_
    refine WL_val (dd := some 19) rfl rfl rfl (r_move (v := .string _) rfl) ?_
    refine WL_step (dd := some 20) rfl rfl rfl (Y_lit3w rfl rfl rfl tb_el59 tb_zs9 rfl rfl rfl (fun b5_1 W25 hb26 hE27 hm5_1 => ?_))
    have lo_b5_1 : w.heap.size ≤ b5_1 := hb26 ▸ (Below.size hB)
    clear hb26
    replace hB := below_ext hB hE27 (Nat.le_refl _)
    replace hm0_0 := hE27.at hm0_0
    clear hE27
    have ho5_1 : OwT encW 1 9 W25 w.heap.size (.slice (some ⟨b5_1, 0, none⟩) 3 3) dashL := own_row (l := dashL) hm5_1 lo_b5_1 encW_len (by decide)
    clear hm5_1
    refine WL_val (dd := some 21) rfl rfl rfl (r_fieldAddr (b := _) (o := _) rfl tb_fo45_1) ?_
    refine WL_val (dd := some 22) rfl rfl rfl (r_load1 (v := ov) rfl tb_sc43 (At.cell hm0_0 rfl)) ?_
    refine WL_val (dd := some 23) rfl rfl rfl (r_move (v := .int .i64 _) rfl) ?_
    refine WL_val (dd := some 24) rfl rfl rfl (r_idxS (v := ov) rfl (Below.slT hB hol) rfl tb_el43 (by omega) (by first | omega | (simp only [dashL_len, kindsL_len, lits_len8, texI_len]; omega))) ?_
    refine WL_val (dd := some 25) rfl rfl rfl (r_load1 (v := .int .i64 _) rfl tb_sc3 (SlT.cell (Below.slT hB hol) encI_len 0 (by omega) (by first | omega | (simp only [dashL_len, kindsL_len, lits_len8, texI_len]; omega)) 0 rfl)) ?_
    refine WL_val (dd := some 26) rfl rfl rfl (r_idxS (v := .slice (some ⟨b5_1, 0, none⟩) 3 3) rfl ho5_1.sl rfl tb_el59 (by omega) (by first | omega | (simp only [dashL_len, kindsL_len, lits_len8, texI_len]; omega))) ?_
    refine WL_val (dd := some 27) rfl rfl rfl (r_load1 (v := .string _) rfl tb_sc9 (SlT.cell ho5_1.sl encW_len [] (by omega) (by first | omega | (simp only [dashL_len, kindsL_len, lits_len8, texI_len]; omega)) 0 rfl)) ?_
    refine WL_val (dd := some 28) rfl rfl rfl (r_addW rfl rfl (by simp only [List.length_append, List.length_cons, List.length_nil, texC_len]; omega)) ?_
    refine WL_val (dd := some 5) rfl rfl rfl (r_assign (v := .string _) rfl) ?_
    refine WL_nil ?_
    refine hK24 _ _ ?_
    clear hK24 K23
    refine WC_region ?_
    refine WL_val (dd := some 17) rfl rfl rfl (r_move (v := .int .i64 _) rfl) ?_
    refine WL_val (dd := some 18) rfl rfl rfl (r_addI rfl rfl (by omega) (by omega)) ?_
    refine WL_val (dd := some 6) rfl rfl rfl (r_assign (v := .int .i64 _) rfl) ?_
    refine WL_nil ?_
    refine hJ18 _ _ (k + 1) ?_ ?_ ?_ ?_
    · repeat (first | exact agree.mask _ _ _ | refine agree.updo ?_ rfl _ | refine agree.updL ?_ _ rfl | refine agree.maskS rfl ?_)
    · exact ⟨rfl, line_step (by omega) hx, trivial⟩
    · exact ⟨hB, hm0_0, (by omega), trivial⟩
    · first | omega | (dsimp only; omega)
  ·
    try with_reducible replace hc0 := dec_f hc0
    refine WC_exit ?_
    refine hK12 _ _ ?_
    clear hK20 K19
    clear hJ18 J17
    clear hK12 K11
    refine WC_seq (fun K28 hK29 => ?_)
    refine WC_region ?_
    refine WL_val (dd := some 29) rfl rfl rfl (r_move (v := .string _) rfl) ?_
    refine WL_val (dd := some 4) rfl rfl rfl (r_assign (v := .string _) rfl) ?_
    refine WL_nil ?_
    refine hK29 _ _ ?_
    clear hK29 K28
    refine WC_ret ?_
    repeat (first | refine thenQ_ret ?_ | refine blockQ_ret ?_)
    refine ret_t (v := .string _) rfl ?_
    refine ⟨hB, ?_⟩
    obtain rfl : k = os.length := by omega
    exact congrArg keyW (by rw [lineT, List.take_length])

theorem Digits_int (n : Int) (w : World) (h0 : 0 ≤ n) (hn : n < 100) : Fn Tryd.prog 28 #[.int .i64 n] w fun v _ => v = keyW (dig2 n.toNat) := by
  obtain ⟨q, rfl⟩ := Int.eq_ofNat_of_zero_le h0
  exact C_drawkniferef03_Digits q w (by omega)

theorem C_drawkniferef03_Print (T : Tb) (lv : Value) (vs : List LnV) (w : World) (hlv : SlT encLn 3 w lv vs) (hls : LsAt w vs T.ls) (hmb : ∀ i, i < T.ls.length → (T.ls.getD i ln0).c.m < 256 ∧ (T.ls.getD i ln0).c.v < 256) (hr : rightT T = true) :
    Fn Tryd.prog 14 #[.agg #[.int .i64 T.kind, .int .i64 T.ni, .int .i64 T.no, lv]] w fun v w' => v = keyW (printT T) := by
  refine Fn_intro (n := 48) Tryd.func14 rfl rfl (Nat.le_of_ble_eq_true rfl) ?_
  have hB : Below w.heap.size w w := Below.refl _ _
  have hle := hls.len
  obtain ⟨hk0, hk3, hi0, hi8, hno1, hno4, hl64⟩ := right_hd hr
  refine WC_seq (fun K1 hK2 => ?_)
  refine WC_region ?_
  refine WL_step (dd := some 1) rfl rfl rfl (Y_box (c := #[_, _, _, _]) rfl rfl (fun b0_0 W3 hb4 hE5 hm0_0 => ?_))
  have lo_b0_0 : w.heap.size ≤ b0_0 := hb4 ▸ (Below.size hB)
  clear hb4
  replace hB := below_ext hB hE5 (Nat.le_refl _)
  clear hE5
  refine WL_val (dd := some 2) rfl rfl rfl (r_assign (v := .string _) rfl) ?_
  refine WL_nil ?_
  refine hK2 _ _ ?_
  clear hK2 K1
  refine WC_seq (fun K6 hK7 => ?_)
  have hd1 := dig2_len T.ni.toNat
  have hd2 := dig2_len T.no.toNat
  have hd3 := dig2_len (vs.length : Int).toNat
  have hd4 := kinds_len T.kind.toNat
  refine WC_draw Ext tb_mix (fun W8 hE9 => ?_)
  replace hB := below_ext hB hE9 (Nat.le_refl _)
  replace hm0_0 := hE9.at hm0_0
  have hS := Ext.refl W8
  refine WT_take (dd := some 5) 0 rfl (by kernel_rfl) (by kernel_rfl) (by kernel_rfl) rfl rfl rfl (fun _wq _hq => r_fieldAddr (b := _) (o := _) rfl tb_fo24_1) hS ?_
  refine WT_take (dd := some 6) 1 rfl (by kernel_rfl) (by kernel_rfl) (by kernel_rfl) rfl rfl rfl (fun _wq hq => r_load1 (v := .int .i64 _) rfl tb_sc3 (At.cell (hq.at hm0_0) rfl)) hS ?_
  refine WT_take (dd := some 10) 5 rfl (by kernel_rfl) (by kernel_rfl) (by kernel_rfl) rfl rfl rfl (fun _wq _hq => r_fieldAddr (b := _) (o := _) rfl tb_fo24_2) hS ?_
  refine WT_take (dd := some 11) 6 rfl (by kernel_rfl) (by kernel_rfl) (by kernel_rfl) rfl rfl rfl (fun _wq hq => r_load1 (v := .int .i64 _) rfl tb_sc3 (At.cell (hq.at hm0_0) rfl)) hS ?_
  refine WT_take (dd := some 16) 11 rfl (by kernel_rfl) (by kernel_rfl) (by kernel_rfl) rfl rfl rfl (fun _wq _hq => r_fieldAddr (b := _) (o := _) rfl tb_fo24_0) hS ?_
  refine WT_take (dd := some 17) 12 rfl (by kernel_rfl) (by kernel_rfl) (by kernel_rfl) rfl rfl rfl (fun _wq hq => r_load1 (v := .int .i64 _) rfl tb_sc3 (At.cell (hq.at hm0_0) rfl)) hS ?_
  refine WT_take (dd := some 22) 17 rfl (by kernel_rfl) (by kernel_rfl) (by kernel_rfl) rfl rfl rfl (fun _wq _hq => r_fieldAddr (b := _) (o := _) rfl tb_fo24_3) hS ?_
  refine WT_take (dd := some 23) 18 rfl (by kernel_rfl) (by kernel_rfl) (by kernel_rfl) rfl rfl rfl (fun _wq hq => r_load1 (v := lv) rfl tb_sc22 (At.cell (hq.at hm0_0) rfl)) hS ?_
  refine WT_take (dd := some 24) 19 rfl (by kernel_rfl) (by kernel_rfl) (by kernel_rfl) rfl rfl rfl (fun _wq hq => r_lenS (v := lv) rfl (hq.slT (Below.slT hB hlv)) tb_el22) hS ?_
  refine WT_one (dd := some 7) 2 (by kernel_rfl) rfl rfl rfl rfl (Yd.call (r_call1 tb_c28 (v0 := .int .i64 _) rfl) (Digits_int T.ni _ (by omega) (by omega)) (fun v1_2 W10 hE11 hP1_2 => ⟨.inl (hS.trans hE11), ?_⟩))
  have hsz12 := (Below.size hB)
  have sv13_hB := hB
  have sv13_hm0_0 := hm0_0
  replace hB := below_ext hB hE11 (Nat.le_refl _)
  replace hm0_0 := hE11.at hm0_0
  replace hS := hS.trans hE11
  clear hE11
  obtain rfl := hP1_2
  clear hsz12
  refine WT_take (dd := some 8) 3 rfl (by kernel_rfl) (by kernel_rfl) (by kernel_rfl) rfl rfl rfl (fun _wq _hq => r_addW rfl rfl (by simp only [List.length_append, List.length_cons, List.length_nil]; omega)) hS ?_
  refine WT_take (dd := some 9) 4 rfl (by kernel_rfl) (by kernel_rfl) (by kernel_rfl) rfl rfl rfl (fun _wq _hq => r_addW rfl rfl (by simp only [List.length_append, List.length_cons, List.length_nil]; omega)) hS ?_
  refine WT_one (dd := some 12) 7 (by kernel_rfl) rfl rfl rfl rfl (Yd.call (r_call1 tb_c28 (v0 := .int .i64 _) rfl) (Digits_int T.no _ (by omega) (by omega)) (fun v1_7 W14 hE15 hP1_7 => ⟨.inl (hS.trans hE15), ?_⟩))
  have hsz16 := (Below.size hB)
  replace hB := below_ext hB hE15 (Nat.le_refl _)
  replace hm0_0 := hE15.at hm0_0
  replace hS := hS.trans hE15
  clear hE15
  obtain rfl := hP1_7
  clear hsz16
  refine WT_take (dd := some 13) 8 rfl (by kernel_rfl) (by kernel_rfl) (by kernel_rfl) rfl rfl rfl (fun _wq _hq => r_addW rfl rfl (by simp only [List.length_append, List.length_cons, List.length_nil]; omega)) hS ?_
  refine WT_take (dd := some 14) 9 rfl (by kernel_rfl) (by kernel_rfl) (by kernel_rfl) rfl rfl rfl (fun _wq _hq => r_addW rfl rfl (by simp only [List.length_append, List.length_cons, List.length_nil]; omega)) hS ?_
  refine WT_one (dd := some 15) 10 (by kernel_rfl) rfl rfl rfl rfl (Yd.call (r_call0 tb_c29) (C_drawkniferef03_Kinds _) (fun v1_10 W17 hE18 hP1_10 => ⟨.inl (hS.trans hE18), ?_⟩))
  have hsz19 := (Below.size hB)
  replace hB := below_ext hB hE18 (Nat.le_refl _)
  replace hm0_0 := hE18.at hm0_0
  replace hS := hS.trans hE18
  clear hE18
  replace hP1_10 := OwT.mono hP1_10 hsz19
  clear hsz19
  refine WT_two 13 20 (by kernel_rfl) rfl rfl rfl rfl rfl rfl rfl rfl (Yd.val (r_idxS (v := v1_10) rfl hP1_10.sl rfl tb_el59 (by omega) (by first | omega | (simp only [dashL_len, kindsL_len, lits_len8, texI_len]; omega))) ⟨.inl hS, ?_⟩) (Yd.call (r_call1 tb_c28 (v0 := .int .i64 _) rfl) (Digits_int (vs.length : Int) _ (by omega) (by omega)) (fun v1_20 W20 hE21 hP1_20 => ⟨.inl (hS.trans hE21), ?_⟩))
  ·
    refine WT_two 14 20 (by kernel_rfl) rfl rfl rfl rfl rfl rfl rfl rfl (Yd.val (r_load1 (v := .string _) rfl tb_sc9 (SlT.cell hP1_10.sl encW_len [] (by omega) (by first | omega | (simp only [dashL_len, kindsL_len, lits_len8, texI_len]; omega)) 0 rfl)) ⟨.inl hS, ?_⟩) (Yd.call (r_call1 tb_c28 (v0 := .int .i64 _) rfl) (Digits_int (vs.length : Int) _ (by omega) (by omega)) (fun v1_20 W23 hE24 hP1_20 => ⟨.inl (hS.trans hE24), ?_⟩))
    ·
      refine WT_take (dd := some 20) 15 rfl (by kernel_rfl) (by kernel_rfl) (by kernel_rfl) rfl rfl rfl (fun _wq _hq => r_addW rfl rfl (by simp only [List.length_append, List.length_cons, List.length_nil]; omega)) hS ?_
      refine WT_take (dd := some 21) 16 rfl (by kernel_rfl) (by kernel_rfl) (by kernel_rfl) rfl rfl rfl (fun _wq _hq => r_addW rfl rfl (by simp only [List.length_append, List.length_cons, List.length_nil]; omega)) hS ?_
      refine WT_one (dd := some 25) 20 (by kernel_rfl) rfl rfl rfl rfl (Yd.call (r_call1 tb_c28 (v0 := .int .i64 _) rfl) (Digits_int (vs.length : Int) _ (by omega) (by omega)) (fun v1_20 W26 hE27 hP1_20 => ⟨.inl (hS.trans hE27), ?_⟩))
      have hsz28 := (Below.size hB)
      replace hB := below_ext hB hE27 (Nat.le_refl _)
      replace hm0_0 := hE27.at hm0_0
      replace hP1_10 := hE27.ow hP1_10
      replace hS := hS.trans hE27
      clear hE27
      obtain rfl := hP1_20
      clear hsz28
      refine WT_take (dd := some 26) 21 rfl (by kernel_rfl) (by kernel_rfl) (by kernel_rfl) rfl rfl rfl (fun _wq _hq => r_addW rfl rfl (by simp only [List.length_append, List.length_cons, List.length_nil]; omega)) hS ?_
      refine WT_take (dd := some 27) 22 rfl (by kernel_rfl) (by kernel_rfl) (by kernel_rfl) rfl rfl rfl (fun _wq _hq => r_addW rfl rfl (by simp only [List.length_append, List.length_cons, List.length_nil]; omega)) hS ?_
      refine WT_take (dd := some 3) 23 rfl (by kernel_rfl) (by kernel_rfl) (by kernel_rfl) rfl rfl rfl (fun _wq _hq => r_assign (v := .string _) rfl) hS ?_
      refine WT_done (by kernel_rfl) ?_
      try clear sv13_hB sv13_hm0_0
      refine hK7 _ _ ?_
      clear hK7 K6
      refine WC_seq (fun K29 hK30 => ?_)
      refine WC_seq (fun K31 hK32 => ?_)
      refine WC_region ?_
      refine WL_val (dd := some 4) rfl rfl rfl (r_assign (v := .int .i64 0) rfl) ?_
      refine WL_nil ?_
      refine hK32 _ _ ?_
      clear hK32 K31
      refine WC_block ?_
      refine WC_loop (σ := (Nat)) [3, 4, 28, 29, 30, 31, 32, 33, 34, 35, 36, 37, 38, 39, 40, 41, 42, 43, 44, 45] (fun k => [(4, .int .i64 (k : Int)), (3, keyW (printTo T k))]) (fun k W => (Below w.heap.size w W) ∧ (At W b0_0 _ 24) ∧ (OwT encW 1 9 W w.heap.size v1_10 _) ∧ (k ≤ T.ls.length) ∧ (True)) (fun k => T.ls.length - k) (0) ⟨rfl, head_0 hle, trivial⟩ ⟨hB, hm0_0, hP1_10, (Nat.zero_le _), trivial⟩ ?_
      clear hB hm0_0 hP1_10
      rintro k g34 W33 ⟨hB, hm0_0, hP1_10, hk, _⟩ J35 hJ36
      refine WC_seq (fun K37 hK38 => ?_)
      refine WC_seq (fun K39 hK40 => ?_)
      refine WC_region ?_
      refine WL_val (dd := some 28) rfl rfl rfl (r_move (v := .int .i64 _) rfl) ?_
      refine WL_val (dd := some 29) rfl rfl rfl (r_fieldAddr (b := _) (o := _) rfl tb_fo24_3) ?_
      refine WL_val (dd := some 30) rfl rfl rfl (r_load1 (v := lv) rfl tb_sc22 (At.cell hm0_0 rfl)) ?_
      refine WL_val (dd := some 31) rfl rfl rfl (r_lenS (v := lv) rfl (Below.slT hB hlv) tb_el22) ?_
      refine WL_val (dd := some 32) rfl rfl rfl (r_lss rfl rfl) ?_
      refine WL_nil ?_
      refine hK40 _ _ ?_
      clear hK40 K39
      refine WC_cond (b := _) rfl (fun hc0 => ?_) (fun hc0 => ?_)
      ·
        try with_reducible replace hc0 := dec_t hc0
        refine WC_skip ?_
        refine hK38 _ _ ?_
        clear hK38 K37
        refine WC_seq (fun K41 hK42 => ?_)
        refine WC_block ?_
        have hpl := printTo_len hr k (by omega)
        have hck := hls.c k (by omega)
        have hbk := hmb k (by omega)
        have hln := right_ln hr (show k < T.ls.length by omega)
        have hll := lnT_len hln hi8 hno4
        obtain ⟨hr1, hr2, hr3⟩ := lnOk_iff.1 hln
        have hb1 : (vs.getD k lv0).c.m < 256 ∧ (vs.getD k lv0).c.v < 256 := by rw [hck]; exact hbk
        unfold lnT at hll
        rw [← hck] at hll
        refine WC_draw Ext tb_mix (fun W43 hE44 => ?_)
        replace hB := below_ext hB hE44 (Nat.le_refl _)
        replace hm0_0 := hE44.at hm0_0
        replace hP1_10 := hE44.ow hP1_10
        have hS := Ext.refl W43
        refine WT_take (dd := some 35) 0 rfl (by kernel_rfl) (by kernel_rfl) (by kernel_rfl) rfl rfl rfl (fun _wq _hq => r_move (v := .string _) rfl) hS ?_
        refine WT_take (dd := some 36) 1 rfl (by kernel_rfl) (by kernel_rfl) (by kernel_rfl) rfl rfl rfl (fun _wq _hq => r_fieldAddr (b := _) (o := _) rfl tb_fo24_3) hS ?_
        refine WT_take (dd := some 37) 2 rfl (by kernel_rfl) (by kernel_rfl) (by kernel_rfl) rfl rfl rfl (fun _wq hq => r_load1 (v := lv) rfl tb_sc22 (At.cell (hq.at hm0_0) rfl)) hS ?_
        refine WT_take (dd := some 38) 3 rfl (by kernel_rfl) (by kernel_rfl) (by kernel_rfl) rfl rfl rfl (fun _wq _hq => r_move (v := .int .i64 _) rfl) hS ?_
        refine WT_take (dd := some 39) 4 rfl (by kernel_rfl) (by kernel_rfl) (by kernel_rfl) rfl rfl rfl (fun _wq hq => r_idxS (v := lv) rfl (hq.slT (Below.slT hB hlv)) rfl tb_el22 (by omega) (by first | omega | (simp only [dashL_len, kindsL_len, lits_len8, texI_len]; omega))) hS ?_
        refine WT_take (dd := some 40) 5 rfl (by kernel_rfl) (by kernel_rfl) (by kernel_rfl) rfl rfl rfl (fun _wq hq => r_load3 rfl tb_ag45 (SlT.cell (hq.slT (Below.slT hB hlv)) encLn_len lv0 (by omega) (by first | omega | (simp only [dashL_len, kindsL_len, lits_len8, texI_len]; omega)) 0 rfl) (SlT.cell (hq.slT (Below.slT hB hlv)) encLn_len lv0 (by omega) (by first | omega | (simp only [dashL_len, kindsL_len, lits_len8, texI_len]; omega)) 1 rfl) (SlT.cell (hq.slT (Below.slT hB hlv)) encLn_len lv0 (by omega) (by first | omega | (simp only [dashL_len, kindsL_len, lits_len8, texI_len]; omega)) 2 rfl)) hS ?_
        have hp5_5 : SlT encI 1 w ((vs.getD k lv0).o) ((T.ls.getD k ln0).os) := hls.o k (by omega)
        refine WT_take (dd := some 41) 6 rfl (by kernel_rfl) (by kernel_rfl) (by kernel_rfl) rfl rfl rfl (fun _wq _hq => r_fieldAddr (b := _) (o := _) rfl tb_fo24_1) hS ?_
        refine WT_take (dd := some 42) 7 rfl (by kernel_rfl) (by kernel_rfl) (by kernel_rfl) rfl rfl rfl (fun _wq hq => r_load1 (v := .int .i64 _) rfl tb_sc3 (At.cell (hq.at hm0_0) rfl)) hS ?_
        refine WT_one (dd := some 43) 8 (by kernel_rfl) rfl rfl rfl rfl (Yd.call (r_call2 tb_c30 (v0 := .agg #[_, _, _]) rfl (v1 := .int .i64 _) rfl) (C_drawkniferef03_Line (vs.getD k lv0).c.m (vs.getD k lv0).c.v _ _ _ _ hb1.1 hb1.2 hi0 hi8 (Below.slT hB hp5_5) hr3 (by omega)) (fun v5_8 W45 hE46 hP5_8 => ⟨.inl (hS.trans hE46), ?_⟩))
        have hsz47 := (Below.size hB)
        have sv48_hB := hB
        have sv48_hm0_0 := hm0_0
        have sv48_hP1_10 := hP1_10
        replace hB := below_ext hB hE46 (Nat.le_refl _)
        replace hm0_0 := hE46.at hm0_0
        replace hP1_10 := hE46.ow hP1_10
        replace hS := hS.trans hE46
        clear hE46
        obtain rfl := hP5_8
        clear hsz47
        refine WT_take (dd := some 44) 9 rfl (by kernel_rfl) (by kernel_rfl) (by kernel_rfl) rfl rfl rfl (fun _wq _hq => r_addW rfl rfl (by omega)) hS ?_
        refine WT_take (dd := some 45) 10 rfl (by kernel_rfl) (by kernel_rfl) (by kernel_rfl) rfl rfl rfl (fun _wq _hq => r_addW rfl rfl (by simp only [List.length_append, List.length_cons, List.length_nil]; omega)) hS ?_
        refine WT_take (dd := some 3) 11 rfl (by kernel_rfl) (by kernel_rfl) (by kernel_rfl) rfl rfl rfl (fun _wq _hq => r_assign (v := .string _) rfl) hS ?_
        refine WT_done (by kernel_rfl) ?_
        try clear sv48_hB sv48_hm0_0 sv48_hP1_10
        refine hK42 _ _ ?_
        clear hK42 K41
        refine WC_region ?_
        refine WL_val (dd := some 33) rfl rfl rfl (r_move (v := .int .i64 _) rfl) ?_
        refine WL_val (dd := some 34) rfl rfl rfl (r_addI rfl rfl (by omega) (by omega)) ?_
        refine WL_val (dd := some 4) rfl rfl rfl (r_assign (v := .int .i64 _) rfl) ?_
        refine WL_nil ?_
        refine hJ36 _ _ (k + 1) ?_ ?_ ?_ ?_
        · repeat (first | exact agree.mask _ _ _ | refine agree.updo ?_ rfl _ | refine agree.updL ?_ _ rfl | refine agree.maskS rfl ?_)
        · exact ⟨rfl, print_step hck, trivial⟩
        · exact ⟨hB, hm0_0, hP1_10, (by omega), trivial⟩
        · first | omega | (dsimp only; omega)
      ·
        try with_reducible replace hc0 := dec_f hc0
        refine WC_exit ?_
        refine hK30 _ _ ?_
        clear hK38 K37
        clear hJ36 J35
        clear hK30 K29
        refine WC_seq (fun K49 hK50 => ?_)
        have hpl := printTo_len hr k (by omega)
        refine WC_region ?_
        refine WL_val (dd := some 46) rfl rfl rfl (r_move (v := .string _) rfl) ?_
        refine WL_val (dd := some 47) rfl rfl rfl (r_addW rfl rfl (by simp only [List.length_append, List.length_cons, List.length_nil]; omega)) ?_
        refine WL_val (dd := some 2) rfl rfl rfl (r_assign (v := .string _) rfl) ?_
        refine WL_nil ?_
        refine hK50 _ _ ?_
        clear hK50 K49
        refine WC_ret ?_
        repeat (first | refine thenQ_ret ?_ | refine blockQ_ret ?_)
        refine ret_t (v := .string _) rfl ?_
        refine ⟨hB, ?_⟩
        obtain rfl : k = T.ls.length := by omega
        rfl
    ·
      have hsz25 := (Below.size hB)
      replace hB := below_ext hB hE24 (Nat.le_refl _)
      replace hm0_0 := hE24.at hm0_0
      replace hP1_10 := hE24.ow hP1_10
      replace hS := hS.trans hE24
      clear hE24
      obtain rfl := hP1_20
      clear hsz25
      refine WT_one (dd := some 19) 14 (by kernel_rfl) rfl rfl rfl rfl (Yd.val (r_load1 (v := .string _) rfl tb_sc9 (SlT.cell hP1_10.sl encW_len [] (by omega) (by first | omega | (simp only [dashL_len, kindsL_len, lits_len8, texI_len]; omega)) 0 rfl)) ⟨.inl hS, ?_⟩)
      refine WT_take (dd := some 20) 15 rfl (by kernel_rfl) (by kernel_rfl) (by kernel_rfl) rfl rfl rfl (fun _wq _hq => r_addW rfl rfl (by simp only [List.length_append, List.length_cons, List.length_nil]; omega)) hS ?_
      refine WT_take (dd := some 21) 16 rfl (by kernel_rfl) (by kernel_rfl) (by kernel_rfl) rfl rfl rfl (fun _wq _hq => r_addW rfl rfl (by simp only [List.length_append, List.length_cons, List.length_nil]; omega)) hS ?_
      refine WT_take (dd := some 26) 21 rfl (by kernel_rfl) (by kernel_rfl) (by kernel_rfl) rfl rfl rfl (fun _wq _hq => r_addW rfl rfl (by simp only [List.length_append, List.length_cons, List.length_nil]; omega)) hS ?_
      refine WT_take (dd := some 27) 22 rfl (by kernel_rfl) (by kernel_rfl) (by kernel_rfl) rfl rfl rfl (fun _wq _hq => r_addW rfl rfl (by simp only [List.length_append, List.length_cons, List.length_nil]; omega)) hS ?_
      refine WT_take (dd := some 3) 23 rfl (by kernel_rfl) (by kernel_rfl) (by kernel_rfl) rfl rfl rfl (fun _wq _hq => r_assign (v := .string _) rfl) hS ?_
      refine WT_done (by kernel_rfl) ?_
      try clear sv13_hB sv13_hm0_0
      refine hK7 _ _ ?_
      clear hK7 K6
      refine WC_seq (fun K51 hK52 => ?_)
      refine WC_seq (fun K53 hK54 => ?_)
      refine WC_region ?_
      refine WL_val (dd := some 4) rfl rfl rfl (r_assign (v := .int .i64 0) rfl) ?_
      refine WL_nil ?_
      refine hK54 _ _ ?_
      clear hK54 K53
      refine WC_block ?_
      refine WC_loop (σ := (Nat)) [3, 4, 28, 29, 30, 31, 32, 33, 34, 35, 36, 37, 38, 39, 40, 41, 42, 43, 44, 45] (fun k => [(4, .int .i64 (k : Int)), (3, keyW (printTo T k))]) (fun k W => (Below w.heap.size w W) ∧ (At W b0_0 _ 24) ∧ (OwT encW 1 9 W w.heap.size v1_10 _) ∧ (k ≤ T.ls.length) ∧ (True)) (fun k => T.ls.length - k) (0) ⟨rfl, head_0 hle, trivial⟩ ⟨hB, hm0_0, hP1_10, (Nat.zero_le _), trivial⟩ ?_
      clear hB hm0_0 hP1_10
      rintro k g56 W55 ⟨hB, hm0_0, hP1_10, hk, _⟩ J57 hJ58
      refine WC_seq (fun K59 hK60 => ?_)
      refine WC_seq (fun K61 hK62 => ?_)
      refine WC_region ?_
      refine WL_val (dd := some 28) rfl rfl rfl (r_move (v := .int .i64 _) rfl) ?_
      refine WL_val (dd := some 29) rfl rfl rfl (r_fieldAddr (b := _) (o := _) rfl tb_fo24_3) ?_
      refine WL_val (dd := some 30) rfl rfl rfl (r_load1 (v := lv) rfl tb_sc22 (At.cell hm0_0 rfl)) ?_
      refine WL_val (dd := some 31) rfl rfl rfl (r_lenS (v := lv) rfl (Below.slT hB hlv) tb_el22) ?_
      refine WL_val (dd := some 32) rfl rfl rfl (r_lss rfl rfl) ?_
      refine WL_nil ?_
      refine hK62 _ _ ?_
      clear hK62 K61
      refine WC_cond (b := _) rfl (fun hc0 => ?_) (fun hc0 => ?_)
      ·
        try with_reducible replace hc0 := dec_t hc0
        refine WC_skip ?_
        refine hK60 _ _ ?_
        clear hK60 K59
        refine WC_seq (fun K63 hK64 => ?_)
        refine WC_block ?_
        have hpl := printTo_len hr k (by omega)
        have hck := hls.c k (by omega)
        have hbk := hmb k (by omega)
        have hln := right_ln hr (show k < T.ls.length by omega)
        have hll := lnT_len hln hi8 hno4
        obtain ⟨hr1, hr2, hr3⟩ := lnOk_iff.1 hln
        have hb1 : (vs.getD k lv0).c.m < 256 ∧ (vs.getD k lv0).c.v < 256 := by rw [hck]; exact hbk
        unfold lnT at hll
        rw [← hck] at hll
        refine WC_draw Ext tb_mix (fun W65 hE66 => ?_)
        replace hB := below_ext hB hE66 (Nat.le_refl _)
        replace hm0_0 := hE66.at hm0_0
        replace hP1_10 := hE66.ow hP1_10
        have hS := Ext.refl W65
        refine WT_take (dd := some 35) 0 rfl (by kernel_rfl) (by kernel_rfl) (by kernel_rfl) rfl rfl rfl (fun _wq _hq => r_move (v := .string _) rfl) hS ?_
        refine WT_take (dd := some 36) 1 rfl (by kernel_rfl) (by kernel_rfl) (by kernel_rfl) rfl rfl rfl (fun _wq _hq => r_fieldAddr (b := _) (o := _) rfl tb_fo24_3) hS ?_
        refine WT_take (dd := some 37) 2 rfl (by kernel_rfl) (by kernel_rfl) (by kernel_rfl) rfl rfl rfl (fun _wq hq => r_load1 (v := lv) rfl tb_sc22 (At.cell (hq.at hm0_0) rfl)) hS ?_
        refine WT_take (dd := some 38) 3 rfl (by kernel_rfl) (by kernel_rfl) (by kernel_rfl) rfl rfl rfl (fun _wq _hq => r_move (v := .int .i64 _) rfl) hS ?_
        refine WT_take (dd := some 39) 4 rfl (by kernel_rfl) (by kernel_rfl) (by kernel_rfl) rfl rfl rfl (fun _wq hq => r_idxS (v := lv) rfl (hq.slT (Below.slT hB hlv)) rfl tb_el22 (by omega) (by first | omega | (simp only [dashL_len, kindsL_len, lits_len8, texI_len]; omega))) hS ?_
        refine WT_take (dd := some 40) 5 rfl (by kernel_rfl) (by kernel_rfl) (by kernel_rfl) rfl rfl rfl (fun _wq hq => r_load3 rfl tb_ag45 (SlT.cell (hq.slT (Below.slT hB hlv)) encLn_len lv0 (by omega) (by first | omega | (simp only [dashL_len, kindsL_len, lits_len8, texI_len]; omega)) 0 rfl) (SlT.cell (hq.slT (Below.slT hB hlv)) encLn_len lv0 (by omega) (by first | omega | (simp only [dashL_len, kindsL_len, lits_len8, texI_len]; omega)) 1 rfl) (SlT.cell (hq.slT (Below.slT hB hlv)) encLn_len lv0 (by omega) (by first | omega | (simp only [dashL_len, kindsL_len, lits_len8, texI_len]; omega)) 2 rfl)) hS ?_
        have hp5_5 : SlT encI 1 w ((vs.getD k lv0).o) ((T.ls.getD k ln0).os) := hls.o k (by omega)
        refine WT_take (dd := some 41) 6 rfl (by kernel_rfl) (by kernel_rfl) (by kernel_rfl) rfl rfl rfl (fun _wq _hq => r_fieldAddr (b := _) (o := _) rfl tb_fo24_1) hS ?_
        refine WT_take (dd := some 42) 7 rfl (by kernel_rfl) (by kernel_rfl) (by kernel_rfl) rfl rfl rfl (fun _wq hq => r_load1 (v := .int .i64 _) rfl tb_sc3 (At.cell (hq.at hm0_0) rfl)) hS ?_
        refine WT_one (dd := some 43) 8 (by kernel_rfl) rfl rfl rfl rfl (Yd.call (r_call2 tb_c30 (v0 := .agg #[_, _, _]) rfl (v1 := .int .i64 _) rfl) (C_drawkniferef03_Line (vs.getD k lv0).c.m (vs.getD k lv0).c.v _ _ _ _ hb1.1 hb1.2 hi0 hi8 (Below.slT hB hp5_5) hr3 (by omega)) (fun v5_8 W67 hE68 hP5_8 => ⟨.inl (hS.trans hE68), ?_⟩))
        have hsz69 := (Below.size hB)
        have sv70_hB := hB
        have sv70_hm0_0 := hm0_0
        have sv70_hP1_10 := hP1_10
        replace hB := below_ext hB hE68 (Nat.le_refl _)
        replace hm0_0 := hE68.at hm0_0
        replace hP1_10 := hE68.ow hP1_10
        replace hS := hS.trans hE68
        clear hE68
        obtain rfl := hP5_8
        clear hsz69
        refine WT_take (dd := some 44) 9 rfl (by kernel_rfl) (by kernel_rfl) (by kernel_rfl) rfl rfl rfl (fun _wq _hq => r_addW rfl rfl (by omega)) hS ?_
        refine WT_take (dd := some 45) 10 rfl (by kernel_rfl) (by kernel_rfl) (by kernel_rfl) rfl rfl rfl (fun _wq _hq => r_addW rfl rfl (by simp only [List.length_append, List.length_cons, List.length_nil]; omega)) hS ?_
        refine WT_take (dd := some 3) 11 rfl (by kernel_rfl) (by kernel_rfl) (by kernel_rfl) rfl rfl rfl (fun _wq _hq => r_assign (v := .string _) rfl) hS ?_
        refine WT_done (by kernel_rfl) ?_
        try clear sv70_hB sv70_hm0_0 sv70_hP1_10
        refine hK64 _ _ ?_
        clear hK64 K63
        refine WC_region ?_
        refine WL_val (dd := some 33) rfl rfl rfl (r_move (v := .int .i64 _) rfl) ?_
        refine WL_val (dd := some 34) rfl rfl rfl (r_addI rfl rfl (by omega) (by omega)) ?_
        refine WL_val (dd := some 4) rfl rfl rfl (r_assign (v := .int .i64 _) rfl) ?_
        refine WL_nil ?_
        refine hJ58 _ _ (k + 1) ?_ ?_ ?_ ?_
        · repeat (first | exact agree.mask _ _ _ | refine agree.updo ?_ rfl _ | refine agree.updL ?_ _ rfl | refine agree.maskS rfl ?_)
        · exact ⟨rfl, print_step hck, trivial⟩
        · exact ⟨hB, hm0_0, hP1_10, (by omega), trivial⟩
        · first | omega | (dsimp only; omega)
      ·
        try with_reducible replace hc0 := dec_f hc0
        refine WC_exit ?_
        refine hK52 _ _ ?_
        clear hK60 K59
        clear hJ58 J57
        clear hK52 K51
        refine WC_seq (fun K71 hK72 => ?_)
        have hpl := printTo_len hr k (by omega)
        refine WC_region ?_
        refine WL_val (dd := some 46) rfl rfl rfl (r_move (v := .string _) rfl) ?_
        refine WL_val (dd := some 47) rfl rfl rfl (r_addW rfl rfl (by simp only [List.length_append, List.length_cons, List.length_nil]; omega)) ?_
        refine WL_val (dd := some 2) rfl rfl rfl (r_assign (v := .string _) rfl) ?_
        refine WL_nil ?_
        refine hK72 _ _ ?_
        clear hK72 K71
        refine WC_ret ?_
        repeat (first | refine thenQ_ret ?_ | refine blockQ_ret ?_)
        refine ret_t (v := .string _) rfl ?_
        refine ⟨hB, ?_⟩
        obtain rfl : k = T.ls.length := by omega
        rfl
  ·
    have hsz22 := (Below.size hB)
    replace hB := below_ext hB hE21 (Nat.le_refl _)
    replace hm0_0 := hE21.at hm0_0
    replace hP1_10 := hE21.ow hP1_10
    replace hS := hS.trans hE21
    clear hE21
    obtain rfl := hP1_20
    clear hsz22
    refine WT_one (dd := some 18) 13 (by kernel_rfl) rfl rfl rfl rfl (Yd.val (r_idxS (v := v1_10) rfl hP1_10.sl rfl tb_el59 (by omega) (by first | omega | (simp only [dashL_len, kindsL_len, lits_len8, texI_len]; omega))) ⟨.inl hS, ?_⟩)
    refine WT_one (dd := some 19) 14 (by kernel_rfl) rfl rfl rfl rfl (Yd.val (r_load1 (v := .string _) rfl tb_sc9 (SlT.cell hP1_10.sl encW_len [] (by omega) (by first | omega | (simp only [dashL_len, kindsL_len, lits_len8, texI_len]; omega)) 0 rfl)) ⟨.inl hS, ?_⟩)
    refine WT_take (dd := some 20) 15 rfl (by kernel_rfl) (by kernel_rfl) (by kernel_rfl) rfl rfl rfl (fun _wq _hq => r_addW rfl rfl (by simp only [List.length_append, List.length_cons, List.length_nil]; omega)) hS ?_
    refine WT_take (dd := some 21) 16 rfl (by kernel_rfl) (by kernel_rfl) (by kernel_rfl) rfl rfl rfl (fun _wq _hq => r_addW rfl rfl (by simp only [List.length_append, List.length_cons, List.length_nil]; omega)) hS ?_
    refine WT_take (dd := some 26) 21 rfl (by kernel_rfl) (by kernel_rfl) (by kernel_rfl) rfl rfl rfl (fun _wq _hq => r_addW rfl rfl (by simp only [List.length_append, List.length_cons, List.length_nil]; omega)) hS ?_
    refine WT_take (dd := some 27) 22 rfl (by kernel_rfl) (by kernel_rfl) (by kernel_rfl) rfl rfl rfl (fun _wq _hq => r_addW rfl rfl (by simp only [List.length_append, List.length_cons, List.length_nil]; omega)) hS ?_
    refine WT_take (dd := some 3) 23 rfl (by kernel_rfl) (by kernel_rfl) (by kernel_rfl) rfl rfl rfl (fun _wq _hq => r_assign (v := .string _) rfl) hS ?_
    refine WT_done (by kernel_rfl) ?_
    try clear sv13_hB sv13_hm0_0
    refine hK7 _ _ ?_
    clear hK7 K6
    refine WC_seq (fun K73 hK74 => ?_)
    refine WC_seq (fun K75 hK76 => ?_)
    refine WC_region ?_
    refine WL_val (dd := some 4) rfl rfl rfl (r_assign (v := .int .i64 0) rfl) ?_
    refine WL_nil ?_
    refine hK76 _ _ ?_
    clear hK76 K75
    refine WC_block ?_
    refine WC_loop (σ := (Nat)) [3, 4, 28, 29, 30, 31, 32, 33, 34, 35, 36, 37, 38, 39, 40, 41, 42, 43, 44, 45] (fun k => [(4, .int .i64 (k : Int)), (3, keyW (printTo T k))]) (fun k W => (Below w.heap.size w W) ∧ (At W b0_0 _ 24) ∧ (OwT encW 1 9 W w.heap.size v1_10 _) ∧ (k ≤ T.ls.length) ∧ (True)) (fun k => T.ls.length - k) (0) ⟨rfl, head_0 hle, trivial⟩ ⟨hB, hm0_0, hP1_10, (Nat.zero_le _), trivial⟩ ?_
    clear hB hm0_0 hP1_10
    rintro k g78 W77 ⟨hB, hm0_0, hP1_10, hk, _⟩ J79 hJ80
    refine WC_seq (fun K81 hK82 => ?_)
    refine WC_seq (fun K83 hK84 => ?_)
    refine WC_region ?_
    refine WL_val (dd := some 28) rfl rfl rfl (r_move (v := .int .i64 _) rfl) ?_
    refine WL_val (dd := some 29) rfl rfl rfl (r_fieldAddr (b := _) (o := _) rfl tb_fo24_3) ?_
    refine WL_val (dd := some 30) rfl rfl rfl (r_load1 (v := lv) rfl tb_sc22 (At.cell hm0_0 rfl)) ?_
    refine WL_val (dd := some 31) rfl rfl rfl (r_lenS (v := lv) rfl (Below.slT hB hlv) tb_el22) ?_
    refine WL_val (dd := some 32) rfl rfl rfl (r_lss rfl rfl) ?_
    refine WL_nil ?_
    refine hK84 _ _ ?_
    clear hK84 K83
    refine WC_cond (b := _) rfl (fun hc0 => ?_) (fun hc0 => ?_)
    ·
      try with_reducible replace hc0 := dec_t hc0
      refine WC_skip ?_
      refine hK82 _ _ ?_
      clear hK82 K81
      refine WC_seq (fun K85 hK86 => ?_)
      refine WC_block ?_
      have hpl := printTo_len hr k (by omega)
      have hck := hls.c k (by omega)
      have hbk := hmb k (by omega)
      have hln := right_ln hr (show k < T.ls.length by omega)
      have hll := lnT_len hln hi8 hno4
      obtain ⟨hr1, hr2, hr3⟩ := lnOk_iff.1 hln
      have hb1 : (vs.getD k lv0).c.m < 256 ∧ (vs.getD k lv0).c.v < 256 := by rw [hck]; exact hbk
      unfold lnT at hll
      rw [← hck] at hll
      refine WC_draw Ext tb_mix (fun W87 hE88 => ?_)
      replace hB := below_ext hB hE88 (Nat.le_refl _)
      replace hm0_0 := hE88.at hm0_0
      replace hP1_10 := hE88.ow hP1_10
      have hS := Ext.refl W87
      refine WT_take (dd := some 35) 0 rfl (by kernel_rfl) (by kernel_rfl) (by kernel_rfl) rfl rfl rfl (fun _wq _hq => r_move (v := .string _) rfl) hS ?_
      refine WT_take (dd := some 36) 1 rfl (by kernel_rfl) (by kernel_rfl) (by kernel_rfl) rfl rfl rfl (fun _wq _hq => r_fieldAddr (b := _) (o := _) rfl tb_fo24_3) hS ?_
      refine WT_take (dd := some 37) 2 rfl (by kernel_rfl) (by kernel_rfl) (by kernel_rfl) rfl rfl rfl (fun _wq hq => r_load1 (v := lv) rfl tb_sc22 (At.cell (hq.at hm0_0) rfl)) hS ?_
      refine WT_take (dd := some 38) 3 rfl (by kernel_rfl) (by kernel_rfl) (by kernel_rfl) rfl rfl rfl (fun _wq _hq => r_move (v := .int .i64 _) rfl) hS ?_
      refine WT_take (dd := some 39) 4 rfl (by kernel_rfl) (by kernel_rfl) (by kernel_rfl) rfl rfl rfl (fun _wq hq => r_idxS (v := lv) rfl (hq.slT (Below.slT hB hlv)) rfl tb_el22 (by omega) (by first | omega | (simp only [dashL_len, kindsL_len, lits_len8, texI_len]; omega))) hS ?_
      refine WT_take (dd := some 40) 5 rfl (by kernel_rfl) (by kernel_rfl) (by kernel_rfl) rfl rfl rfl (fun _wq hq => r_load3 rfl tb_ag45 (SlT.cell (hq.slT (Below.slT hB hlv)) encLn_len lv0 (by omega) (by first | omega | (simp only [dashL_len, kindsL_len, lits_len8, texI_len]; omega)) 0 rfl) (SlT.cell (hq.slT (Below.slT hB hlv)) encLn_len lv0 (by omega) (by first | omega | (simp only [dashL_len, kindsL_len, lits_len8, texI_len]; omega)) 1 rfl) (SlT.cell (hq.slT (Below.slT hB hlv)) encLn_len lv0 (by omega) (by first | omega | (simp only [dashL_len, kindsL_len, lits_len8, texI_len]; omega)) 2 rfl)) hS ?_
      have hp5_5 : SlT encI 1 w ((vs.getD k lv0).o) ((T.ls.getD k ln0).os) := hls.o k (by omega)
      refine WT_take (dd := some 41) 6 rfl (by kernel_rfl) (by kernel_rfl) (by kernel_rfl) rfl rfl rfl (fun _wq _hq => r_fieldAddr (b := _) (o := _) rfl tb_fo24_1) hS ?_
      refine WT_take (dd := some 42) 7 rfl (by kernel_rfl) (by kernel_rfl) (by kernel_rfl) rfl rfl rfl (fun _wq hq => r_load1 (v := .int .i64 _) rfl tb_sc3 (At.cell (hq.at hm0_0) rfl)) hS ?_
      refine WT_one (dd := some 43) 8 (by kernel_rfl) rfl rfl rfl rfl (Yd.call (r_call2 tb_c30 (v0 := .agg #[_, _, _]) rfl (v1 := .int .i64 _) rfl) (C_drawkniferef03_Line (vs.getD k lv0).c.m (vs.getD k lv0).c.v _ _ _ _ hb1.1 hb1.2 hi0 hi8 (Below.slT hB hp5_5) hr3 (by omega)) (fun v5_8 W89 hE90 hP5_8 => ⟨.inl (hS.trans hE90), ?_⟩))
      have hsz91 := (Below.size hB)
      have sv92_hB := hB
      have sv92_hm0_0 := hm0_0
      have sv92_hP1_10 := hP1_10
      replace hB := below_ext hB hE90 (Nat.le_refl _)
      replace hm0_0 := hE90.at hm0_0
      replace hP1_10 := hE90.ow hP1_10
      replace hS := hS.trans hE90
      clear hE90
      obtain rfl := hP5_8
      clear hsz91
      refine WT_take (dd := some 44) 9 rfl (by kernel_rfl) (by kernel_rfl) (by kernel_rfl) rfl rfl rfl (fun _wq _hq => r_addW rfl rfl (by omega)) hS ?_
      refine WT_take (dd := some 45) 10 rfl (by kernel_rfl) (by kernel_rfl) (by kernel_rfl) rfl rfl rfl (fun _wq _hq => r_addW rfl rfl (by simp only [List.length_append, List.length_cons, List.length_nil]; omega)) hS ?_
      refine WT_take (dd := some 3) 11 rfl (by kernel_rfl) (by kernel_rfl) (by kernel_rfl) rfl rfl rfl (fun _wq _hq => r_assign (v := .string _) rfl) hS ?_
      refine WT_done (by kernel_rfl) ?_
      try clear sv92_hB sv92_hm0_0 sv92_hP1_10
      refine hK86 _ _ ?_
      clear hK86 K85
      refine WC_region ?_
      refine WL_val (dd := some 33) rfl rfl rfl (r_move (v := .int .i64 _) rfl) ?_
      refine WL_val (dd := some 34) rfl rfl rfl (r_addI rfl rfl (by omega) (by omega)) ?_
      refine WL_val (dd := some 4) rfl rfl rfl (r_assign (v := .int .i64 _) rfl) ?_
      refine WL_nil ?_
      refine hJ80 _ _ (k + 1) ?_ ?_ ?_ ?_
      · repeat (first | exact agree.mask _ _ _ | refine agree.updo ?_ rfl _ | refine agree.updL ?_ _ rfl | refine agree.maskS rfl ?_)
      · exact ⟨rfl, print_step hck, trivial⟩
      · exact ⟨hB, hm0_0, hP1_10, (by omega), trivial⟩
      · first | omega | (dsimp only; omega)
    ·
      try with_reducible replace hc0 := dec_f hc0
      refine WC_exit ?_
      refine hK74 _ _ ?_
      clear hK82 K81
      clear hJ80 J79
      clear hK74 K73
      refine WC_seq (fun K93 hK94 => ?_)
      have hpl := printTo_len hr k (by omega)
      refine WC_region ?_
      refine WL_val (dd := some 46) rfl rfl rfl (r_move (v := .string _) rfl) ?_
      refine WL_val (dd := some 47) rfl rfl rfl (r_addW rfl rfl (by simp only [List.length_append, List.length_cons, List.length_nil]; omega)) ?_
      refine WL_val (dd := some 2) rfl rfl rfl (r_assign (v := .string _) rfl) ?_
      refine WL_nil ?_
      refine hK94 _ _ ?_
      clear hK94 K93
      refine WC_ret ?_
      repeat (first | refine thenQ_ret ?_ | refine blockQ_ret ?_)
      refine ret_t (v := .string _) rfl ?_
      refine ⟨hB, ?_⟩
      obtain rfl : k = T.ls.length := by omega
      rfl

theorem C_pla_Print (T : Tb) (lv : Value) (vs : List LnV) (w : World) (hgl : Gl w) (hlv : SlT encLn 3 w lv vs) (hls : LsAt w vs T.ls) (hmb : ∀ i, i < T.ls.length → (T.ls.getD i ln0).c.m < 256 ∧ (T.ls.getD i ln0).c.v < 256) :
    Fn Tryd.prog 9 #[.agg #[.int .i64 T.kind, .int .i64 T.ni, .int .i64 T.no, lv]] w fun v w' => v = if rightT T = true then .tuple #[keyW (printT T), .int .i64 0] else .tuple #[keyW [], .int .i64 1] := by
  refine Fn_intro (n := 75) Tryd.func9 rfl rfl (Nat.le_of_ble_eq_true rfl) ?_
  have hB : Below w.heap.size w w := Below.refl _ _
  have hle := hls.len
  refine WC_seq (fun K1 hK2 => ?_)
  refine WC_region ?_
  refine WL_step (dd := some 1) rfl rfl rfl (Y_box (c := #[_, _, _, _]) rfl rfl (fun b0_0 W3 hb4 hE5 hm0_0 => ?_))
  have lo_b0_0 : w.heap.size ≤ b0_0 := hb4 ▸ (Below.size hB)
  clear hb4
  replace hB := below_ext hB hE5 (Nat.le_refl _)
  clear hE5
  refine WL_val (dd := some 2) rfl rfl rfl (r_assign (v := .string _) rfl) ?_
  refine WL_val (dd := some 3) rfl rfl rfl (r_assign (v := .int .i64 0) rfl) ?_
  refine WL_nil ?_
  refine hK2 _ _ ?_
  clear hK2 K1
  refine WC_seq (fun K6 hK7 => ?_)
  refine WC_seq (fun K8 hK9 => ?_)
  refine WC_region ?_
  refine WL_val (dd := some 11) rfl rfl rfl (r_loadW rfl tb_ag24 rfl hm0_0) ?_
  refine WL_call (dd := some 12) rfl rfl rfl (r_call1 tb_c11 (v0 := .agg #[_, _, _, _]) rfl) (C_pla_Right _ _ _ _ (Below.slT hB hlv) (LsAt.below hB hls) (by assumption)) (fun v1_1 W10 hE11 hP1_1 => ?_)
  have hsz12 := (Below.size hB)
  replace hB := below_ext hB hE11 (Nat.le_refl _)
  replace hm0_0 := hE11.at hm0_0
  clear hE11
  clear hsz12
  obtain rfl := hP1_1
  refine WL_val (dd := some 13) rfl rfl rfl (r_not rfl) ?_
  refine WL_nil ?_
  refine hK9 _ _ ?_
  clear hK9 K8
  refine WC_cond (b := _) rfl (fun hc0 => ?_) (fun hc0 => ?_)
  ·
    try with_reducible replace hc0 := dec_t hc0
    refine WC_seq (fun K13 hK14 => ?_)
    refine WC_region ?_
    refine WL_val (dd := some 2) rfl rfl rfl (r_assign (v := .string _) rfl) ?_
    refine WL_val (dd := some 3) rfl rfl rfl (r_assign (v := .int .i64 1) rfl) ?_
    refine WL_nil ?_
    refine hK14 _ _ ?_
    clear hK14 K13
    refine WC_ret ?_
    repeat (first | refine thenQ_ret ?_ | refine blockQ_ret ?_)
    try clear hK7 K6
    refine ret_tt (v := .string _) rfl (v1 := .int .i64 1) rfl ?_
    refine ⟨hB, ?_⟩
    rw [if_neg (by simpa using hc0)]; rfl
  ·
    try with_reducible replace hc0 := dec_f hc0
    refine WC_skip ?_
    refine hK7 _ _ ?_
    clear hK7 K6
    refine WC_seq (fun K15 hK16 => ?_)
    have hr : rightT T = true := by simpa using hc0
    obtain ⟨hk0, hk3, hi0, hi8, hno1, hno4, hl64⟩ := right_hd hr
    have hd1 := itoa_len hi0 (by omega)
    have hd2 := itoa_len (n := T.no) (by omega) (by omega)
    have hd3 := itoa_len (n := (vs.length : Int)) (by omega) (by omega)
    have hd4 := kinds_len T.kind.toNat
    refine WC_draw Ext tb_mix (fun W17 hE18 => ?_)
    replace hB := below_ext hB hE18 (Nat.le_refl _)
    replace hm0_0 := hE18.at hm0_0
    have hS := Ext.refl W17
    refine WT_take (dd := some 14) 0 rfl (by kernel_rfl) (by kernel_rfl) (by kernel_rfl) rfl rfl rfl (fun _wq _hq => r_fieldAddr (b := _) (o := _) rfl tb_fo24_1) hS ?_
    refine WT_take (dd := some 15) 1 rfl (by kernel_rfl) (by kernel_rfl) (by kernel_rfl) rfl rfl rfl (fun _wq hq => r_load1 (v := .int .i64 _) rfl tb_sc3 (At.cell (hq.at hm0_0) rfl)) hS ?_
    refine WT_take (dd := some 19) 5 rfl (by kernel_rfl) (by kernel_rfl) (by kernel_rfl) rfl rfl rfl (fun _wq _hq => r_fieldAddr (b := _) (o := _) rfl tb_fo24_2) hS ?_
    refine WT_take (dd := some 20) 6 rfl (by kernel_rfl) (by kernel_rfl) (by kernel_rfl) rfl rfl rfl (fun _wq hq => r_load1 (v := .int .i64 _) rfl tb_sc3 (At.cell (hq.at hm0_0) rfl)) hS ?_
    refine WT_take (dd := some 25) 11 rfl (by kernel_rfl) (by kernel_rfl) (by kernel_rfl) rfl rfl rfl (fun _wq _hq => r_fieldAddr (b := _) (o := _) rfl tb_fo24_0) hS ?_
    refine WT_take (dd := some 26) 12 rfl (by kernel_rfl) (by kernel_rfl) (by kernel_rfl) rfl rfl rfl (fun _wq hq => r_load1 (v := .int .i64 _) rfl tb_sc3 (At.cell (hq.at hm0_0) rfl)) hS ?_
    refine WT_take (dd := some 31) 17 rfl (by kernel_rfl) (by kernel_rfl) (by kernel_rfl) rfl rfl rfl (fun _wq _hq => r_fieldAddr (b := _) (o := _) rfl tb_fo24_3) hS ?_
    refine WT_take (dd := some 32) 18 rfl (by kernel_rfl) (by kernel_rfl) (by kernel_rfl) rfl rfl rfl (fun _wq hq => r_load1 (v := lv) rfl tb_sc22 (At.cell (hq.at hm0_0) rfl)) hS ?_
    refine WT_take (dd := some 33) 19 rfl (by kernel_rfl) (by kernel_rfl) (by kernel_rfl) rfl rfl rfl (fun _wq hq => r_lenS (v := lv) rfl (hq.slT (Below.slT hB hlv)) tb_el22) hS ?_
    refine WT_one (dd := some 16) 2 (by kernel_rfl) rfl rfl rfl rfl (Yd.call (r_call1 tb_c24 (v0 := .int .i64 _) rfl) (C_strconv_Itoa _ _ (Gl.below hB hgl) (by first | assumption | omega) (by first | assumption | omega)) (fun v3_2 W19 hE20 hP3_2 => ⟨.inl (hS.trans hE20), ?_⟩))
    have hsz21 := (Below.size hB)
    have sv22_hB := hB
    have sv22_hm0_0 := hm0_0
    replace hB := below_ext hB hE20 (Nat.le_refl _)
    replace hm0_0 := hE20.at hm0_0
    replace hS := hS.trans hE20
    clear hE20
    obtain rfl := hP3_2
    clear hsz21
    refine WT_take (dd := some 17) 3 rfl (by kernel_rfl) (by kernel_rfl) (by kernel_rfl) rfl rfl rfl (fun _wq _hq => r_addW rfl rfl (by simp only [List.length_append, List.length_cons, List.length_nil]; omega)) hS ?_
    refine WT_take (dd := some 18) 4 rfl (by kernel_rfl) (by kernel_rfl) (by kernel_rfl) rfl rfl rfl (fun _wq _hq => r_addW rfl rfl (by simp only [List.length_append, List.length_cons, List.length_nil]; omega)) hS ?_
    refine WT_one (dd := some 21) 7 (by kernel_rfl) rfl rfl rfl rfl (Yd.call (r_call1 tb_c24 (v0 := .int .i64 _) rfl) (C_strconv_Itoa _ _ (Gl.below hB hgl) (by first | assumption | omega) (by first | assumption | omega)) (fun v3_7 W23 hE24 hP3_7 => ⟨.inl (hS.trans hE24), ?_⟩))
    have hsz25 := (Below.size hB)
    replace hB := below_ext hB hE24 (Nat.le_refl _)
    replace hm0_0 := hE24.at hm0_0
    replace hS := hS.trans hE24
    clear hE24
    obtain rfl := hP3_7
    clear hsz25
    refine WT_take (dd := some 22) 8 rfl (by kernel_rfl) (by kernel_rfl) (by kernel_rfl) rfl rfl rfl (fun _wq _hq => r_addW rfl rfl (by simp only [List.length_append, List.length_cons, List.length_nil]; omega)) hS ?_
    refine WT_take (dd := some 23) 9 rfl (by kernel_rfl) (by kernel_rfl) (by kernel_rfl) rfl rfl rfl (fun _wq _hq => r_addW rfl rfl (by simp only [List.length_append, List.length_cons, List.length_nil]; omega)) hS ?_
    refine WT_one (dd := some 24) 10 (by kernel_rfl) rfl rfl rfl rfl (Yd.call (r_call0 tb_c25) (C_pla_kinds _) (fun v3_10 W26 hE27 hP3_10 => ⟨.inl (hS.trans hE27), ?_⟩))
    have hsz28 := (Below.size hB)
    replace hB := below_ext hB hE27 (Nat.le_refl _)
    replace hm0_0 := hE27.at hm0_0
    replace hS := hS.trans hE27
    clear hE27
    replace hP3_10 := OwT.mono hP3_10 hsz28
    clear hsz28
    refine WT_two 13 20 (by kernel_rfl) rfl rfl rfl rfl rfl rfl rfl rfl (Yd.val (r_idxS (v := v3_10) rfl hP3_10.sl rfl tb_el59 (by omega) (by first | omega | (simp only [dashL_len, kindsL_len, lits_len8, texI_len]; omega))) ⟨.inl hS, ?_⟩) (Yd.call (r_call1 tb_c24 (v0 := .int .i64 _) rfl) (C_strconv_Itoa _ _ (Gl.below hB hgl) (by first | assumption | omega) (by first | assumption | omega)) (fun v3_20 W29 hE30 hP3_20 => ⟨.inl (hS.trans hE30), ?_⟩))
    ·
      refine WT_two 14 20 (by kernel_rfl) rfl rfl rfl rfl rfl rfl rfl rfl (Yd.val (r_load1 (v := .string _) rfl tb_sc9 (SlT.cell hP3_10.sl encW_len [] (by omega) (by first | omega | (simp only [dashL_len, kindsL_len, lits_len8, texI_len]; omega)) 0 rfl)) ⟨.inl hS, ?_⟩) (Yd.call (r_call1 tb_c24 (v0 := .int .i64 _) rfl) (C_strconv_Itoa _ _ (Gl.below hB hgl) (by first | assumption | omega) (by first | assumption | omega)) (fun v3_20 W32 hE33 hP3_20 => ⟨.inl (hS.trans hE33), ?_⟩))
      ·
        refine WT_take (dd := some 29) 15 rfl (by kernel_rfl) (by kernel_rfl) (by kernel_rfl) rfl rfl rfl (fun _wq _hq => r_addW rfl rfl (by simp only [List.length_append, List.length_cons, List.length_nil]; omega)) hS ?_
        refine WT_take (dd := some 30) 16 rfl (by kernel_rfl) (by kernel_rfl) (by kernel_rfl) rfl rfl rfl (fun _wq _hq => r_addW rfl rfl (by simp only [List.length_append, List.length_cons, List.length_nil]; omega)) hS ?_
        refine WT_one (dd := some 34) 20 (by kernel_rfl) rfl rfl rfl rfl (Yd.call (r_call1 tb_c24 (v0 := .int .i64 _) rfl) (C_strconv_Itoa _ _ (Gl.below hB hgl) (by first | assumption | omega) (by first | assumption | omega)) (fun v3_20 W35 hE36 hP3_20 => ⟨.inl (hS.trans hE36), ?_⟩))
        have hsz37 := (Below.size hB)
        replace hB := below_ext hB hE36 (Nat.le_refl _)
        replace hm0_0 := hE36.at hm0_0
        replace hP3_10 := hE36.ow hP3_10
        replace hS := hS.trans hE36
        clear hE36
        obtain rfl := hP3_20
        clear hsz37
        refine WT_take (dd := some 35) 21 rfl (by kernel_rfl) (by kernel_rfl) (by kernel_rfl) rfl rfl rfl (fun _wq _hq => r_addW rfl rfl (by simp only [List.length_append, List.length_cons, List.length_nil]; omega)) hS ?_
        refine WT_take (dd := some 36) 22 rfl (by kernel_rfl) (by kernel_rfl) (by kernel_rfl) rfl rfl rfl (fun _wq _hq => r_addW rfl rfl (by simp only [List.length_append, List.length_cons, List.length_nil]; omega)) hS ?_
        refine WT_take (dd := some 4) 23 rfl (by kernel_rfl) (by kernel_rfl) (by kernel_rfl) rfl rfl rfl (fun _wq _hq => r_assign (v := .string _) rfl) hS ?_
        refine WT_done (by kernel_rfl) ?_
        try clear sv22_hB sv22_hm0_0
        refine hK16 _ _ ?_
        clear hK16 K15
        refine WC_seq (fun K38 hK39 => ?_)
        refine WC_seq (fun K40 hK41 => ?_)
        refine WC_region ?_
        refine WL_val (dd := some 37) rfl rfl rfl (r_fieldAddr (b := _) (o := _) rfl tb_fo24_3) ?_
        refine WL_val (dd := some 38) rfl rfl rfl (r_load1 (v := lv) rfl tb_sc22 (At.cell hm0_0 rfl)) ?_
        refine WL_val (dd := some 39) rfl rfl rfl (r_lenS (v := lv) rfl (Below.slT hB hlv) tb_el22) ?_
        refine WL_val (dd := some 40) rfl rfl rfl (r_move (v := .int .i64 0) rfl) ?_
        refine WL_nil ?_
        refine hK41 _ _ ?_
        clear hK41 K40
        refine WC_block ?_
        refine WC_loop (σ := (Nat)) [4, 6, 7, 8, 10, 40, 41, 42, 43, 44, 45, 46, 47, 48, 49, 50, 51, 52, 53, 54, 55, 56, 57, 58, 59, 60, 61, 62, 63, 64, 65, 66, 67, 68, 69, 70, 71, 72] (fun k => [(40, .int .i64 (k : Int)), (4, keyW (printTo T k))]) (fun k W => (Below w.heap.size w W) ∧ (At W b0_0 _ 24) ∧ (OwT encW 1 9 W w.heap.size v3_10 _) ∧ (k ≤ T.ls.length) ∧ (True)) (fun k => T.ls.length - k) (0) ⟨rfl, head_i hle hi0 (by omega) (by omega) (by omega) (by omega), trivial⟩ ⟨hB, hm0_0, hP3_10, (Nat.zero_le _), trivial⟩ ?_
        clear hB hm0_0 hP3_10
        rintro k g43 W42 ⟨hB, hm0_0, hP3_10, hk, _⟩ J44 hJ45
        refine WC_seq (fun K46 hK47 => ?_)
        refine WC_region ?_
        refine WL_val (dd := some 41) rfl rfl rfl (r_lss rfl rfl) ?_
        refine WL_nil ?_
        refine hK47 _ _ ?_
        clear hK47 K46
        refine WC_seq (fun K48 hK49 => ?_)
        refine WC_cond (b := _) rfl (fun hc1 => ?_) (fun hc1 => ?_)
        ·
          try with_reducible replace hc1 := dec_t hc1
          refine WC_skip ?_
          refine hK49 _ _ ?_
          clear hK49 K48
          refine WC_seq (fun K50 hK51 => ?_)
          refine WC_block ?_
          refine WC_seq (fun K52 hK53 => ?_)
          have hpl := printTo_len hr k (by omega)
          have hck := hls.c k (by omega)
          have hbk := hmb k (by omega)
          have hln := right_ln hr (show k < T.ls.length by omega)
          have hll := lnT_len hln hi8 hno4
          obtain ⟨hr1, hr2, hr3⟩ := lnOk_iff.1 hln
          have hb1 : (vs.getD k lv0).c.m < 256 ∧ (vs.getD k lv0).c.v < 256 := by rw [hck]; exact hbk
          unfold lnT at hll
          rw [← hck] at hll
          have hrb : rightB (vs.getD k lv0).c.m (vs.getD k lv0).c.v T.ni = true := by rw [hck]; exact hr1
          unfold lineT at hll
          simp only [List.length_append, List.length_cons, List.length_nil, texC_len, outsT_len] at hll
          refine WC_region ?_
          refine WL_val (dd := some 42) rfl rfl rfl (r_idxS (v := lv) rfl (Below.slT hB hlv) rfl tb_el22 (by omega) (by first | omega | (simp only [dashL_len, kindsL_len, lits_len8, texI_len]; omega))) ?_
          refine WL_val (dd := some 43) rfl rfl rfl (r_load3 rfl tb_ag45 (SlT.cell (Below.slT hB hlv) encLn_len lv0 (by omega) (by first | omega | (simp only [dashL_len, kindsL_len, lits_len8, texI_len]; omega)) 0 rfl) (SlT.cell (Below.slT hB hlv) encLn_len lv0 (by omega) (by first | omega | (simp only [dashL_len, kindsL_len, lits_len8, texI_len]; omega)) 1 rfl) (SlT.cell (Below.slT hB hlv) encLn_len lv0 (by omega) (by first | omega | (simp only [dashL_len, kindsL_len, lits_len8, texI_len]; omega)) 2 rfl)) ?_
          have hp6_1 : SlT encI 1 w ((vs.getD k lv0).o) ((T.ls.getD k ln0).os) := hls.o k (by omega)
          refine WL_step (dd := some 6) rfl rfl rfl (Y_alloc tb_z45 rfl (fun b6_2 W54 hb55 hE56 hm6_2 => ?_))
          have lo_b6_2 : w.heap.size ≤ b6_2 := hb55 ▸ (Below.size hB)
          clear hb55
          replace hB := below_ext hB hE56 (Nat.le_refl _)
          replace hm0_0 := hE56.at hm0_0
          replace hP3_10 := hE56.ow hP3_10
          clear hE56
          refine WL_step (dd := none) rfl rfl rfl (Y_storeW rfl rfl tb_ag45 rfl hm6_2 rfl (by exact one_ln (SlT.one hp6_1)) (fun W57 hG58 hm59 => ?_))
          replace hB := below_grown hB hG58 (Nat.le_refl _) (fun j hj => by cases hj; exact lo_b6_2)
          replace hm0_0 := At.grownAt hm0_0 hm6_2 hG58 (by decide)
          replace hP3_10 := OwT.grownAt hP3_10 hm6_2 hG58 (by decide)
          clear hG58 hm6_2
          have hm6_2 := hm59
          clear hm59
          refine WL_nil ?_
          refine hK53 _ _ ?_
          clear hK53 K52
          refine WC_seq (fun K60 hK61 => ?_)
          refine WC_region ?_
          refine WL_val (dd := some 45) rfl rfl rfl (r_fieldAddr (b := _) (o := _) rfl tb_fo45_0) ?_
          refine WL_val (dd := some 46) rfl rfl rfl (r_load2 rfl tb_ag42 (At.cell hm6_2 rfl) (At.cell hm6_2 rfl)) ?_
          refine WL_val (dd := some 47) rfl rfl rfl (r_fieldAddr (b := _) (o := _) rfl tb_fo24_1) ?_
          refine WL_val (dd := some 48) rfl rfl rfl (r_load1 (v := .int .i64 _) rfl tb_sc3 (At.cell hm0_0 rfl)) ?_
          refine WL_call (dd := some 49) rfl rfl rfl (r_call2 tb_c26 (v0 := .agg #[_, _]) rfl (v1 := .int .i64 _) rfl) (C_cube_Text (vs.getD k lv0).c.m (vs.getD k lv0).c.v _ _ hb1.1 hb1.2) (fun v7_4 W62 hE63 hP7_4 => ?_)
          have hsz64 := (Below.size hB)
          replace hB := below_ext hB hE63 (Nat.le_refl _)
          replace hm0_0 := hE63.at hm0_0
          replace hP3_10 := hE63.ow hP3_10
          replace hm6_2 := hE63.at hm6_2
          clear hE63
          rw [if_pos hrb] at hP7_4
          obtain rfl := hP7_4
          clear hsz64
          refine WL_val (dd := some 44) rfl rfl rfl (r_move (v := .tuple #[.string _, .int .i64 0]) rfl) ?_
          refine WL_val (dd := some 50) rfl rfl rfl (r_ext2_0 (h := rfl)) ?_
          refine WL_val (dd := some 51) rfl rfl rfl (r_ext2_1 (h := rfl)) ?_
          refine WL_val (dd := some 7) rfl rfl rfl (r_assign (v := .string _) rfl) ?_
          refine WL_val (dd := some 8) rfl rfl rfl (r_assign (v := .int .i64 0) rfl) ?_
          refine WL_nil ?_
          refine hK61 _ _ ?_
          clear hK61 K60
          refine WC_seq (fun K65 hK66 => ?_)
          refine WC_region ?_
          refine WL_val (dd := some 52) rfl rfl rfl (r_move (v := .string _) rfl) ?_
          refine WL_val (dd := some 53) rfl rfl rfl (r_move (v := .string _) rfl) ?_
          refine WL_val (dd := some 54) rfl rfl rfl (r_addW rfl rfl (by simp only [List.length_append, List.length_cons, List.length_nil, texC_len]; omega)) ?_
          refine WL_val (dd := some 55) rfl rfl rfl (r_addW rfl rfl (by simp only [List.length_append, List.length_cons, List.length_nil, texC_len]; omega)) ?_
          refine WL_val (dd := some 4) rfl rfl rfl (r_assign (v := .string _) rfl) ?_
          refine WL_nil ?_
          refine hK66 _ _ ?_
          clear hK66 K65
          refine WC_seq (fun K67 hK68 => ?_)
          refine WC_seq (fun K69 hK70 => ?_)
          refine WC_region ?_
          refine WL_val (dd := some 56) rfl rfl rfl (r_fieldAddr (b := _) (o := _) rfl tb_fo45_1) ?_
          refine WL_val (dd := some 57) rfl rfl rfl (r_load1 (v := (vs.getD k lv0).o) rfl tb_sc43 (At.cell hm6_2 rfl)) ?_
          refine WL_val (dd := some 58) rfl rfl rfl (r_lenS (v := (vs.getD k lv0).o) rfl (Below.slT hB hp6_1) tb_el43) ?_
          refine WL_val (dd := some 59) rfl rfl rfl (r_move (v := .int .i64 0) rfl) ?_
          refine WL_nil ?_
          refine hK70 _ _ ?_
          clear hK70 K69
          refine WC_block ?_
          refine WC_loop (σ := (Nat)) [4, 10, 59, 60, 61, 62, 63, 64, 65, 66, 67, 68, 69] (fun j => [(59, .int .i64 (j : Int)), (4, keyW ((printTo T k ++ (texC (vs.getD k lv0).c.m (vs.getD k lv0).c.v T.ni.toNat ++ [32])) ++ outsT ((T.ls.getD k ln0).os.take j)))]) (fun j W => (Below w.heap.size w W) ∧ (At W b0_0 _ 24) ∧ (OwT encW 1 9 W w.heap.size v3_10 _) ∧ (At W b6_2 _ 45) ∧ (j ≤ (T.ls.getD k ln0).os.length) ∧ (True)) (fun j => (T.ls.getD k ln0).os.length - j) (0) ⟨rfl, outs_0, trivial⟩ ⟨hB, hm0_0, hP3_10, hm6_2, (Nat.zero_le _), trivial⟩ ?_
          clear hB hm0_0 hP3_10 hm6_2
          rintro j g72 W71 ⟨hB, hm0_0, hP3_10, hm6_2, hj, _⟩ J73 hJ74
          refine WC_seq (fun K75 hK76 => ?_)
          refine WC_region ?_
          refine WL_val (dd := some 60) rfl rfl rfl (r_lss rfl rfl) ?_
          refine WL_nil ?_
          refine hK76 _ _ ?_
          clear hK76 K75
          refine WC_seq (fun K77 hK78 => ?_)
          refine WC_cond (b := _) rfl (fun hc2 => ?_) (fun hc2 => ?_)
          ·
            try with_reducible replace hc2 := dec_t hc2
            refine WC_skip ?_
            refine hK78 _ _ ?_
            clear hK78 K77
            refine WC_seq (fun K79 hK80 => ?_)
            refine WC_block ?_
            refine WC_seq (fun K81 hK82 => ?_)
            refine WC_region ?_
            refine WL_val (dd := some 61) rfl rfl rfl (r_idxS (v := (vs.getD k lv0).o) rfl (Below.slT hB hp6_1) rfl tb_el43 (by omega) (by first | omega | (simp only [dashL_len, kindsL_len, lits_len8, texI_len]; omega))) ?_
            refine WL_val (dd := some 62) rfl rfl rfl (r_load1 (v := .int .i64 _) rfl tb_sc3 (SlT.cell (Below.slT hB hp6_1) encI_len 0 (by omega) (by first | omega | (simp only [dashL_len, kindsL_len, lits_len8, texI_len]; omega)) 0 rfl)) ?_
            refine WL_val (dd := some 10) rfl rfl rfl (r_assign (v := .int .i64 _) rfl) ?_
            refine WL_nil ?_
            refine hK82 _ _ ?_
            clear hK82 K81
            have hx : 0 ≤ (T.ls.getD k ln0).os.getD (j : Int).toNat 0 ∧ (T.ls.getD k ln0).os.getD (j : Int).toNat 0 < 3 := hr3 _ (getD_memL (d := 0) (show j < (T.ls.getD k ln0).os.length by omega))
            obtain ⟨q, hq⟩ := Int.eq_ofNat_of_zero_le hx.1
            have hq1 : (T.ls.getD k ln0).os.getD (j : Int).toNat 0 + 1 = ((q + 1 : Nat) : Int) := by omega
            have hq3 : q < 3 := by omega
            have hol2 := outs_len_k (os := (T.ls.getD k ln0).os) (k := j)
            refine WC_region ?_
            refine WL_val (dd := some 63) rfl rfl rfl (r_move (v := .string _) rfl) ?_
            refine WL_val (dd := some 64) rfl rfl rfl (r_move (v := .int .i64 _) rfl) ?_
            refine WL_val (dd := some 65) rfl rfl rfl (r_move (v := .int .i64 _) rfl) ?_
            refine WL_val (dd := some 66) rfl rfl rfl (r_addI rfl rfl (by omega) (by omega)) ?_
            refine WL_val (dd := some 67) rfl rfl rfl (r_sliceW (a := [48, 49, 45]) (i := q) (j := q + 1) rfl (congrArg (Value.int .i64) hq) (congrArg (Value.int .i64) hq1) Tryd.underlying9 (by omega) (by simp; omega)) ?_
            refine WL_val (dd := some 68) rfl rfl rfl (r_addW rfl rfl (by simp only [List.length_append, List.length_cons, List.length_nil, texC_len, List.length_take, List.length_drop]; omega)) ?_
            refine WL_val (dd := some 4) rfl rfl rfl (r_assign (v := .string _) rfl) ?_
            refine WL_nil ?_
            refine hK80 _ _ ?_
            clear hK80 K79
            refine WC_region ?_
            refine WL_val (dd := some 69) rfl rfl rfl (r_addI rfl rfl (by omega) (by omega)) ?_
            refine WL_val (dd := some 59) rfl rfl rfl (r_move (v := .int .i64 _) rfl) ?_
            refine WL_nil ?_
            refine hJ74 _ _ (j + 1) ?_ ?_ ?_ ?_
            · repeat (first | exact agree.mask _ _ _ | refine agree.updo ?_ rfl _ | refine agree.updL ?_ _ rfl | refine agree.maskS rfl ?_)
            · exact ⟨rfl, line_stepM (by omega) hq hq3, trivial⟩
            · exact ⟨hB, hm0_0, hP3_10, hm6_2, (by omega), trivial⟩
            · first | omega | (dsimp only; omega)
          ·
            try with_reducible replace hc2 := dec_f hc2
            refine WC_exit ?_
            refine hK68 _ _ ?_
            clear hK78 K77
            clear hJ74 J73
            clear hK68 K67
            have hol2 := outs_len_k (os := (T.ls.getD k ln0).os) (k := j)
            refine WC_region ?_
            refine WL_val (dd := some 70) rfl rfl rfl (r_move (v := .string _) rfl) ?_
            refine WL_val (dd := some 71) rfl rfl rfl (r_addW rfl rfl (by simp only [List.length_append, List.length_cons, List.length_nil, texC_len]; omega)) ?_
            refine WL_val (dd := some 4) rfl rfl rfl (r_assign (v := .string _) rfl) ?_
            refine WL_nil ?_
            refine hK51 _ _ ?_
            clear hK51 K50
            refine WC_region ?_
            refine WL_val (dd := some 72) rfl rfl rfl (r_addI rfl rfl (by omega) (by omega)) ?_
            refine WL_val (dd := some 40) rfl rfl rfl (r_move (v := .int .i64 _) rfl) ?_
            refine WL_nil ?_
            refine hJ45 _ _ (k + 1) ?_ ?_ ?_ ?_
            · repeat (first | exact agree.mask _ _ _ | refine agree.updo ?_ rfl _ | refine agree.updL ?_ _ rfl | refine agree.maskS rfl ?_)
            · exact ⟨rfl, print_stepM hck (by omega), trivial⟩
            · exact ⟨hB, hm0_0, hP3_10, (by omega), trivial⟩
            · first | omega | (dsimp only; omega)
        ·
          try with_reducible replace hc1 := dec_f hc1
          refine WC_exit ?_
          refine hK39 _ _ ?_
          clear hK49 K48
          clear hJ45 J44
          clear hK39 K38
          refine WC_seq (fun K83 hK84 => ?_)
          have hpl := printTo_len hr k (by omega)
          refine WC_region ?_
          refine WL_val (dd := some 73) rfl rfl rfl (r_move (v := .string _) rfl) ?_
          refine WL_val (dd := some 74) rfl rfl rfl (r_addW rfl rfl (by simp only [List.length_append, List.length_cons, List.length_nil]; omega)) ?_
          refine WL_val (dd := some 2) rfl rfl rfl (r_assign (v := .string _) rfl) ?_
          refine WL_val (dd := some 3) rfl rfl rfl (r_assign (v := .int .i64 0) rfl) ?_
          refine WL_nil ?_
          refine hK84 _ _ ?_
          clear hK84 K83
          refine WC_ret ?_
          repeat (first | refine thenQ_ret ?_ | refine blockQ_ret ?_)
          refine ret_tt (v := .string _) rfl (v1 := .int .i64 0) rfl ?_
          refine ⟨hB, ?_⟩
          obtain rfl : k = T.ls.length := by omega
          rw [if_pos hr]; rfl
      ·
        have hsz34 := (Below.size hB)
        replace hB := below_ext hB hE33 (Nat.le_refl _)
        replace hm0_0 := hE33.at hm0_0
        replace hP3_10 := hE33.ow hP3_10
        replace hS := hS.trans hE33
        clear hE33
        obtain rfl := hP3_20
        clear hsz34
        refine WT_one (dd := some 28) 14 (by kernel_rfl) rfl rfl rfl rfl (Yd.val (r_load1 (v := .string _) rfl tb_sc9 (SlT.cell hP3_10.sl encW_len [] (by omega) (by first | omega | (simp only [dashL_len, kindsL_len, lits_len8, texI_len]; omega)) 0 rfl)) ⟨.inl hS, ?_⟩)
        refine WT_take (dd := some 29) 15 rfl (by kernel_rfl) (by kernel_rfl) (by kernel_rfl) rfl rfl rfl (fun _wq _hq => r_addW rfl rfl (by simp only [List.length_append, List.length_cons, List.length_nil]; omega)) hS ?_
        refine WT_take (dd := some 30) 16 rfl (by kernel_rfl) (by kernel_rfl) (by kernel_rfl) rfl rfl rfl (fun _wq _hq => r_addW rfl rfl (by simp only [List.length_append, List.length_cons, List.length_nil]; omega)) hS ?_
        refine WT_take (dd := some 35) 21 rfl (by kernel_rfl) (by kernel_rfl) (by kernel_rfl) rfl rfl rfl (fun _wq _hq => r_addW rfl rfl (by simp only [List.length_append, List.length_cons, List.length_nil]; omega)) hS ?_
        refine WT_take (dd := some 36) 22 rfl (by kernel_rfl) (by kernel_rfl) (by kernel_rfl) rfl rfl rfl (fun _wq _hq => r_addW rfl rfl (by simp only [List.length_append, List.length_cons, List.length_nil]; omega)) hS ?_
        refine WT_take (dd := some 4) 23 rfl (by kernel_rfl) (by kernel_rfl) (by kernel_rfl) rfl rfl rfl (fun _wq _hq => r_assign (v := .string _) rfl) hS ?_
        refine WT_done (by kernel_rfl) ?_
        try clear sv22_hB sv22_hm0_0
        refine hK16 _ _ ?_
        clear hK16 K15
        refine WC_seq (fun K85 hK86 => ?_)
        refine WC_seq (fun K87 hK88 => ?_)
        refine WC_region ?_
        refine WL_val (dd := some 37) rfl rfl rfl (r_fieldAddr (b := _) (o := _) rfl tb_fo24_3) ?_
        refine WL_val (dd := some 38) rfl rfl rfl (r_load1 (v := lv) rfl tb_sc22 (At.cell hm0_0 rfl)) ?_
        refine WL_val (dd := some 39) rfl rfl rfl (r_lenS (v := lv) rfl (Below.slT hB hlv) tb_el22) ?_
        refine WL_val (dd := some 40) rfl rfl rfl (r_move (v := .int .i64 0) rfl) ?_
        refine WL_nil ?_
        refine hK88 _ _ ?_
        clear hK88 K87
        refine WC_block ?_
        refine WC_loop (σ := (Nat)) [4, 6, 7, 8, 10, 40, 41, 42, 43, 44, 45, 46, 47, 48, 49, 50, 51, 52, 53, 54, 55, 56, 57, 58, 59, 60, 61, 62, 63, 64, 65, 66, 67, 68, 69, 70, 71, 72] (fun k => [(40, .int .i64 (k : Int)), (4, keyW (printTo T k))]) (fun k W => (Below w.heap.size w W) ∧ (At W b0_0 _ 24) ∧ (OwT encW 1 9 W w.heap.size v3_10 _) ∧ (k ≤ T.ls.length) ∧ (True)) (fun k => T.ls.length - k) (0) ⟨rfl, head_i hle hi0 (by omega) (by omega) (by omega) (by omega), trivial⟩ ⟨hB, hm0_0, hP3_10, (Nat.zero_le _), trivial⟩ ?_
        clear hB hm0_0 hP3_10
        rintro k g90 W89 ⟨hB, hm0_0, hP3_10, hk, _⟩ J91 hJ92
        refine WC_seq (fun K93 hK94 => ?_)
        refine WC_region ?_
        refine WL_val (dd := some 41) rfl rfl rfl (r_lss rfl rfl) ?_
        refine WL_nil ?_
        refine hK94 _ _ ?_
        clear hK94 K93
        refine WC_seq (fun K95 hK96 => ?_)
        refine WC_cond (b := _) rfl (fun hc1 => ?_) (fun hc1 => ?_)
        ·
          try with_reducible replace hc1 := dec_t hc1
          refine WC_skip ?_
          refine hK96 _ _ ?_
          clear hK96 K95
          refine WC_seq (fun K97 hK98 => ?_)
          refine WC_block ?_
          refine WC_seq (fun K99 hK100 => ?_)
          have hpl := printTo_len hr k (by omega)
          have hck := hls.c k (by omega)
          have hbk := hmb k (by omega)
          have hln := right_ln hr (show k < T.ls.length by omega)
          have hll := lnT_len hln hi8 hno4
          obtain ⟨hr1, hr2, hr3⟩ := lnOk_iff.1 hln
          have hb1 : (vs.getD k lv0).c.m < 256 ∧ (vs.getD k lv0).c.v < 256 := by rw [hck]; exact hbk
          unfold lnT at hll
          rw [← hck] at hll
          have hrb : rightB (vs.getD k lv0).c.m (vs.getD k lv0).c.v T.ni = true := by rw [hck]; exact hr1
          unfold lineT at hll
          simp only [List.length_append, List.length_cons, List.length_nil, texC_len, outsT_len] at hll
          refine WC_region ?_
          refine WL_val (dd := some 42) rfl rfl rfl (r_idxS (v := lv) rfl (Below.slT hB hlv) rfl tb_el22 (by omega) (by first | omega | (simp only [dashL_len, kindsL_len, lits_len8, texI_len]; omega))) ?_
          refine WL_val (dd := some 43) rfl rfl rfl (r_load3 rfl tb_ag45 (SlT.cell (Below.slT hB hlv) encLn_len lv0 (by omega) (by first | omega | (simp only [dashL_len, kindsL_len, lits_len8, texI_len]; omega)) 0 rfl) (SlT.cell (Below.slT hB hlv) encLn_len lv0 (by omega) (by first | omega | (simp only [dashL_len, kindsL_len, lits_len8, texI_len]; omega)) 1 rfl) (SlT.cell (Below.slT hB hlv) encLn_len lv0 (by omega) (by first | omega | (simp only [dashL_len, kindsL_len, lits_len8, texI_len]; omega)) 2 rfl)) ?_
          have hp6_1 : SlT encI 1 w ((vs.getD k lv0).o) ((T.ls.getD k ln0).os) := hls.o k (by omega)
          refine WL_step (dd := some 6) rfl rfl rfl (Y_alloc tb_z45 rfl (fun b6_2 W101 hb102 hE103 hm6_2 => ?_))
          have lo_b6_2 : w.heap.size ≤ b6_2 := hb102 ▸ (Below.size hB)
          clear hb102
          replace hB := below_ext hB hE103 (Nat.le_refl _)
          replace hm0_0 := hE103.at hm0_0
          replace hP3_10 := hE103.ow hP3_10
          clear hE103
          refine WL_step (dd := none) rfl rfl rfl (Y_storeW rfl rfl tb_ag45 rfl hm6_2 rfl (by exact one_ln (SlT.one hp6_1)) (fun W104 hG105 hm106 => ?_))
          replace hB := below_grown hB hG105 (Nat.le_refl _) (fun j hj => by cases hj; exact lo_b6_2)
          replace hm0_0 := At.grownAt hm0_0 hm6_2 hG105 (by decide)
          replace hP3_10 := OwT.grownAt hP3_10 hm6_2 hG105 (by decide)
          clear hG105 hm6_2
          have hm6_2 := hm106
          clear hm106
          refine WL_nil ?_
          refine hK100 _ _ ?_
          clear hK100 K99
          refine WC_seq (fun K107 hK108 => ?_)
          refine WC_region ?_
          refine WL_val (dd := some 45) rfl rfl rfl (r_fieldAddr (b := _) (o := _) rfl tb_fo45_0) ?_
          refine WL_val (dd := some 46) rfl rfl rfl (r_load2 rfl tb_ag42 (At.cell hm6_2 rfl) (At.cell hm6_2 rfl)) ?_
          refine WL_val (dd := some 47) rfl rfl rfl (r_fieldAddr (b := _) (o := _) rfl tb_fo24_1) ?_
          refine WL_val (dd := some 48) rfl rfl rfl (r_load1 (v := .int .i64 _) rfl tb_sc3 (At.cell hm0_0 rfl)) ?_
          refine WL_call (dd := some 49) rfl rfl rfl (r_call2 tb_c26 (v0 := .agg #[_, _]) rfl (v1 := .int .i64 _) rfl) (C_cube_Text (vs.getD k lv0).c.m (vs.getD k lv0).c.v _ _ hb1.1 hb1.2) (fun v7_4 W109 hE110 hP7_4 => ?_)
          have hsz111 := (Below.size hB)
          replace hB := below_ext hB hE110 (Nat.le_refl _)
          replace hm0_0 := hE110.at hm0_0
          replace hP3_10 := hE110.ow hP3_10
          replace hm6_2 := hE110.at hm6_2
          clear hE110
          rw [if_pos hrb] at hP7_4
          obtain rfl := hP7_4
          clear hsz111
          refine WL_val (dd := some 44) rfl rfl rfl (r_move (v := .tuple #[.string _, .int .i64 0]) rfl) ?_
          refine WL_val (dd := some 50) rfl rfl rfl (r_ext2_0 (h := rfl)) ?_
          refine WL_val (dd := some 51) rfl rfl rfl (r_ext2_1 (h := rfl)) ?_
          refine WL_val (dd := some 7) rfl rfl rfl (r_assign (v := .string _) rfl) ?_
          refine WL_val (dd := some 8) rfl rfl rfl (r_assign (v := .int .i64 0) rfl) ?_
          refine WL_nil ?_
          refine hK108 _ _ ?_
          clear hK108 K107
          refine WC_seq (fun K112 hK113 => ?_)
          refine WC_region ?_
          refine WL_val (dd := some 52) rfl rfl rfl (r_move (v := .string _) rfl) ?_
          refine WL_val (dd := some 53) rfl rfl rfl (r_move (v := .string _) rfl) ?_
          refine WL_val (dd := some 54) rfl rfl rfl (r_addW rfl rfl (by simp only [List.length_append, List.length_cons, List.length_nil, texC_len]; omega)) ?_
          refine WL_val (dd := some 55) rfl rfl rfl (r_addW rfl rfl (by simp only [List.length_append, List.length_cons, List.length_nil, texC_len]; omega)) ?_
          refine WL_val (dd := some 4) rfl rfl rfl (r_assign (v := .string _) rfl) ?_
          refine WL_nil ?_
          refine hK113 _ _ ?_
          clear hK113 K112
          refine WC_seq (fun K114 hK115 => ?_)
          refine WC_seq (fun K116 hK117 => ?_)
          refine WC_region ?_
          refine WL_val (dd := some 56) rfl rfl rfl (r_fieldAddr (b := _) (o := _) rfl tb_fo45_1) ?_
          refine WL_val (dd := some 57) rfl rfl rfl (r_load1 (v := (vs.getD k lv0).o) rfl tb_sc43 (At.cell hm6_2 rfl)) ?_
          refine WL_val (dd := some 58) rfl rfl rfl (r_lenS (v := (vs.getD k lv0).o) rfl (Below.slT hB hp6_1) tb_el43) ?_
          refine WL_val (dd := some 59) rfl rfl rfl (r_move (v := .int .i64 0) rfl) ?_
          refine WL_nil ?_
          refine hK117 _ _ ?_
          clear hK117 K116
          refine WC_block ?_
          refine WC_loop (σ := (Nat)) [4, 10, 59, 60, 61, 62, 63, 64, 65, 66, 67, 68, 69] (fun j => [(59, .int .i64 (j : Int)), (4, keyW ((printTo T k ++ (texC (vs.getD k lv0).c.m (vs.getD k lv0).c.v T.ni.toNat ++ [32])) ++ outsT ((T.ls.getD k ln0).os.take j)))]) (fun j W => (Below w.heap.size w W) ∧ (At W b0_0 _ 24) ∧ (OwT encW 1 9 W w.heap.size v3_10 _) ∧ (At W b6_2 _ 45) ∧ (j ≤ (T.ls.getD k ln0).os.length) ∧ (True)) (fun j => (T.ls.getD k ln0).os.length - j) (0) ⟨rfl, outs_0, trivial⟩ ⟨hB, hm0_0, hP3_10, hm6_2, (Nat.zero_le _), trivial⟩ ?_
          clear hB hm0_0 hP3_10 hm6_2
          rintro j g119 W118 ⟨hB, hm0_0, hP3_10, hm6_2, hj, _⟩ J120 hJ121
          refine WC_seq (fun K122 hK123 => ?_)
          refine WC_region ?_
          refine WL_val (dd := some 60) rfl rfl rfl (r_lss rfl rfl) ?_
          refine WL_nil ?_
          refine hK123 _ _ ?_
          clear hK123 K122
          refine WC_seq (fun K124 hK125 => ?_)
          refine WC_cond (b := _) rfl (fun hc2 => ?_) (fun hc2 => ?_)
          ·
            try with_reducible replace hc2 := dec_t hc2
            refine WC_skip ?_
            refine hK125 _ _ ?_
            clear hK125 K124
            refine WC_seq (fun K126 hK127 => ?_)
            refine WC_block ?_
            refine WC_seq (fun K128 hK129 => ?_)
            refine WC_region ?_
            refine WL_val (dd := some 61) rfl rfl rfl (r_idxS (v := (vs.getD k lv0).o) rfl (Below.slT hB hp6_1) rfl tb_el43 (by omega) (by first | omega | (simp only [dashL_len, kindsL_len, lits_len8, texI_len]; omega))) ?_
            refine WL_val (dd := some 62) rfl rfl rfl (r_load1 (v := .int .i64 _) rfl tb_sc3 (SlT.cell (Below.slT hB hp6_1) encI_len 0 (by omega) (by first | omega | (simp only [dashL_len, kindsL_len, lits_len8, texI_len]; omega)) 0 rfl)) ?_
            refine WL_val (dd := some 10) rfl rfl rfl (r_assign (v := .int .i64 _) rfl) ?_
            refine WL_nil ?_
            refine hK129 _ _ ?_
            clear hK129 K128
            have hx : 0 ≤ (T.ls.getD k ln0).os.getD (j : Int).toNat 0 ∧ (T.ls.getD k ln0).os.getD (j : Int).toNat 0 < 3 := hr3 _ (getD_memL (d := 0) (show j < (T.ls.getD k ln0).os.length by omega))
            obtain ⟨q, hq⟩ := Int.eq_ofNat_of_zero_le hx.1
            have hq1 : (T.ls.getD k ln0).os.getD (j : Int).toNat 0 + 1 = ((q + 1 : Nat) : Int) := by omega
            have hq3 : q < 3 := by omega
            have hol2 := outs_len_k (os := (T.ls.getD k ln0).os) (k := j)
            refine WC_region ?_
            refine WL_val (dd := some 63) rfl rfl rfl (r_move (v := .string _) rfl) ?_
            refine WL_val (dd := some 64) rfl rfl rfl (r_move (v := .int .i64 _) rfl) ?_
            refine WL_val (dd := some 65) rfl rfl rfl (r_move (v := .int .i64 _) rfl) ?_
            refine WL_val (dd := some 66) rfl rfl rfl (r_addI rfl rfl (by omega) (by omega)) ?_
            refine WL_val (dd := some 67) rfl rfl rfl (r_sliceW (a := [48, 49, 45]) (i := q) (j := q + 1) rfl (congrArg (Value.int .i64) hq) (congrArg (Value.int .i64) hq1) Tryd.underlying9 (by omega) (by simp; omega)) ?_
            refine WL_val (dd := some 68) rfl rfl rfl (r_addW rfl rfl (by simp only [List.length_append, List.length_cons, List.length_nil, texC_len, List.length_take, List.length_drop]; omega)) ?_
            refine WL_val (dd := some 4) rfl rfl rfl (r_assign (v := .string _) rfl) ?_
            refine WL_nil ?_
            refine hK127 _ _ ?_
            clear hK127 K126
            refine WC_region ?_
            refine WL_val (dd := some 69) rfl rfl rfl (r_addI rfl rfl (by omega) (by omega)) ?_
            refine WL_val (dd := some 59) rfl rfl rfl (r_move (v := .int .i64 _) rfl) ?_
            refine WL_nil ?_
            refine hJ121 _ _ (j + 1) ?_ ?_ ?_ ?_
            · repeat (first | exact agree.mask _ _ _ | refine agree.updo ?_ rfl _ | refine agree.updL ?_ _ rfl | refine agree.maskS rfl ?_)
            · exact ⟨rfl, line_stepM (by omega) hq hq3, trivial⟩
            · exact ⟨hB, hm0_0, hP3_10, hm6_2, (by omega), trivial⟩
            · first | omega | (dsimp only; omega)
          ·
            try with_reducible replace hc2 := dec_f hc2
            refine WC_exit ?_
            refine hK115 _ _ ?_
            clear hK125 K124
            clear hJ121 J120
            clear hK115 K114
            have hol2 := outs_len_k (os := (T.ls.getD k ln0).os) (k := j)
            refine WC_region ?_
            refine WL_val (dd := some 70) rfl rfl rfl (r_move (v := .string _) rfl) ?_
            refine WL_val (dd := some 71) rfl rfl rfl (r_addW rfl rfl (by simp only [List.length_append, List.length_cons, List.length_nil, texC_len]; omega)) ?_
            refine WL_val (dd := some 4) rfl rfl rfl (r_assign (v := .string _) rfl) ?_
            refine WL_nil ?_
            refine hK98 _ _ ?_
            clear hK98 K97
            refine WC_region ?_
            refine WL_val (dd := some 72) rfl rfl rfl (r_addI rfl rfl (by omega) (by omega)) ?_
            refine WL_val (dd := some 40) rfl rfl rfl (r_move (v := .int .i64 _) rfl) ?_
            refine WL_nil ?_
            refine hJ92 _ _ (k + 1) ?_ ?_ ?_ ?_
            · repeat (first | exact agree.mask _ _ _ | refine agree.updo ?_ rfl _ | refine agree.updL ?_ _ rfl | refine agree.maskS rfl ?_)
            · exact ⟨rfl, print_stepM hck (by omega), trivial⟩
            · exact ⟨hB, hm0_0, hP3_10, (by omega), trivial⟩
            · first | omega | (dsimp only; omega)
        ·
          try with_reducible replace hc1 := dec_f hc1
          refine WC_exit ?_
          refine hK86 _ _ ?_
          clear hK96 K95
          clear hJ92 J91
          clear hK86 K85
          refine WC_seq (fun K130 hK131 => ?_)
          have hpl := printTo_len hr k (by omega)
          refine WC_region ?_
          refine WL_val (dd := some 73) rfl rfl rfl (r_move (v := .string _) rfl) ?_
          refine WL_val (dd := some 74) rfl rfl rfl (r_addW rfl rfl (by simp only [List.length_append, List.length_cons, List.length_nil]; omega)) ?_
          refine WL_val (dd := some 2) rfl rfl rfl (r_assign (v := .string _) rfl) ?_
          refine WL_val (dd := some 3) rfl rfl rfl (r_assign (v := .int .i64 0) rfl) ?_
          refine WL_nil ?_
          refine hK131 _ _ ?_
          clear hK131 K130
          refine WC_ret ?_
          repeat (first | refine thenQ_ret ?_ | refine blockQ_ret ?_)
          refine ret_tt (v := .string _) rfl (v1 := .int .i64 0) rfl ?_
          refine ⟨hB, ?_⟩
          obtain rfl : k = T.ls.length := by omega
          rw [if_pos hr]; rfl
    ·
      have hsz31 := (Below.size hB)
      replace hB := below_ext hB hE30 (Nat.le_refl _)
      replace hm0_0 := hE30.at hm0_0
      replace hP3_10 := hE30.ow hP3_10
      replace hS := hS.trans hE30
      clear hE30
      obtain rfl := hP3_20
      clear hsz31
      refine WT_one (dd := some 27) 13 (by kernel_rfl) rfl rfl rfl rfl (Yd.val (r_idxS (v := v3_10) rfl hP3_10.sl rfl tb_el59 (by omega) (by first | omega | (simp only [dashL_len, kindsL_len, lits_len8, texI_len]; omega))) ⟨.inl hS, ?_⟩)
      refine WT_one (dd := some 28) 14 (by kernel_rfl) rfl rfl rfl rfl (Yd.val (r_load1 (v := .string _) rfl tb_sc9 (SlT.cell hP3_10.sl encW_len [] (by omega) (by first | omega | (simp only [dashL_len, kindsL_len, lits_len8, texI_len]; omega)) 0 rfl)) ⟨.inl hS, ?_⟩)
      refine WT_take (dd := some 29) 15 rfl (by kernel_rfl) (by kernel_rfl) (by kernel_rfl) rfl rfl rfl (fun _wq _hq => r_addW rfl rfl (by simp only [List.length_append, List.length_cons, List.length_nil]; omega)) hS ?_
      refine WT_take (dd := some 30) 16 rfl (by kernel_rfl) (by kernel_rfl) (by kernel_rfl) rfl rfl rfl (fun _wq _hq => r_addW rfl rfl (by simp only [List.length_append, List.length_cons, List.length_nil]; omega)) hS ?_
      refine WT_take (dd := some 35) 21 rfl (by kernel_rfl) (by kernel_rfl) (by kernel_rfl) rfl rfl rfl (fun _wq _hq => r_addW rfl rfl (by simp only [List.length_append, List.length_cons, List.length_nil]; omega)) hS ?_
      refine WT_take (dd := some 36) 22 rfl (by kernel_rfl) (by kernel_rfl) (by kernel_rfl) rfl rfl rfl (fun _wq _hq => r_addW rfl rfl (by simp only [List.length_append, List.length_cons, List.length_nil]; omega)) hS ?_
      refine WT_take (dd := some 4) 23 rfl (by kernel_rfl) (by kernel_rfl) (by kernel_rfl) rfl rfl rfl (fun _wq _hq => r_assign (v := .string _) rfl) hS ?_
      refine WT_done (by kernel_rfl) ?_
      try clear sv22_hB sv22_hm0_0
      refine hK16 _ _ ?_
      clear hK16 K15
      refine WC_seq (fun K132 hK133 => ?_)
      refine WC_seq (fun K134 hK135 => ?_)
      refine WC_region ?_
      refine WL_val (dd := some 37) rfl rfl rfl (r_fieldAddr (b := _) (o := _) rfl tb_fo24_3) ?_
      refine WL_val (dd := some 38) rfl rfl rfl (r_load1 (v := lv) rfl tb_sc22 (At.cell hm0_0 rfl)) ?_
      refine WL_val (dd := some 39) rfl rfl rfl (r_lenS (v := lv) rfl (Below.slT hB hlv) tb_el22) ?_
      refine WL_val (dd := some 40) rfl rfl rfl (r_move (v := .int .i64 0) rfl) ?_
      refine WL_nil ?_
      refine hK135 _ _ ?_
      clear hK135 K134
      refine WC_block ?_
      refine WC_loop (σ := (Nat)) [4, 6, 7, 8, 10, 40, 41, 42, 43, 44, 45, 46, 47, 48, 49, 50, 51, 52, 53, 54, 55, 56, 57, 58, 59, 60, 61, 62, 63, 64, 65, 66, 67, 68, 69, 70, 71, 72] (fun k => [(40, .int .i64 (k : Int)), (4, keyW (printTo T k))]) (fun k W => (Below w.heap.size w W) ∧ (At W b0_0 _ 24) ∧ (OwT encW 1 9 W w.heap.size v3_10 _) ∧ (k ≤ T.ls.length) ∧ (True)) (fun k => T.ls.length - k) (0) ⟨rfl, head_i hle hi0 (by omega) (by omega) (by omega) (by omega), trivial⟩ ⟨hB, hm0_0, hP3_10, (Nat.zero_le _), trivial⟩ ?_
      clear hB hm0_0 hP3_10
      rintro k g137 W136 ⟨hB, hm0_0, hP3_10, hk, _⟩ J138 hJ139
      refine WC_seq (fun K140 hK141 => ?_)
      refine WC_region ?_
      refine WL_val (dd := some 41) rfl rfl rfl (r_lss rfl rfl) ?_
      refine WL_nil ?_
      refine hK141 _ _ ?_
      clear hK141 K140
      refine WC_seq (fun K142 hK143 => ?_)
      refine WC_cond (b := _) rfl (fun hc1 => ?_) (fun hc1 => ?_)
      ·
        try with_reducible replace hc1 := dec_t hc1
        refine WC_skip ?_
        refine hK143 _ _ ?_
        clear hK143 K142
        refine WC_seq (fun K144 hK145 => ?_)
        refine WC_block ?_
        refine WC_seq (fun K146 hK147 => ?_)
        have hpl := printTo_len hr k (by omega)
        have hck := hls.c k (by omega)
        have hbk := hmb k (by omega)
        have hln := right_ln hr (show k < T.ls.length by omega)
        have hll := lnT_len hln hi8 hno4
        obtain ⟨hr1, hr2, hr3⟩ := lnOk_iff.1 hln
        have hb1 : (vs.getD k lv0).c.m < 256 ∧ (vs.getD k lv0).c.v < 256 := by rw [hck]; exact hbk
        unfold lnT at hll
        rw [← hck] at hll
        have hrb : rightB (vs.getD k lv0).c.m (vs.getD k lv0).c.v T.ni = true := by rw [hck]; exact hr1
        unfold lineT at hll
        simp only [List.length_append, List.length_cons, List.length_nil, texC_len, outsT_len] at hll
        refine WC_region ?_
        refine WL_val (dd := some 42) rfl rfl rfl (r_idxS (v := lv) rfl (Below.slT hB hlv) rfl tb_el22 (by omega) (by first | omega | (simp only [dashL_len, kindsL_len, lits_len8, texI_len]; omega))) ?_
        refine WL_val (dd := some 43) rfl rfl rfl (r_load3 rfl tb_ag45 (SlT.cell (Below.slT hB hlv) encLn_len lv0 (by omega) (by first | omega | (simp only [dashL_len, kindsL_len, lits_len8, texI_len]; omega)) 0 rfl) (SlT.cell (Below.slT hB hlv) encLn_len lv0 (by omega) (by first | omega | (simp only [dashL_len, kindsL_len, lits_len8, texI_len]; omega)) 1 rfl) (SlT.cell (Below.slT hB hlv) encLn_len lv0 (by omega) (by first | omega | (simp only [dashL_len, kindsL_len, lits_len8, texI_len]; omega)) 2 rfl)) ?_
        have hp6_1 : SlT encI 1 w ((vs.getD k lv0).o) ((T.ls.getD k ln0).os) := hls.o k (by omega)
        refine WL_step (dd := some 6) rfl rfl rfl (Y_alloc tb_z45 rfl (fun b6_2 W148 hb149 hE150 hm6_2 => ?_))
        have lo_b6_2 : w.heap.size ≤ b6_2 := hb149 ▸ (Below.size hB)
        clear hb149
        replace hB := below_ext hB hE150 (Nat.le_refl _)
        replace hm0_0 := hE150.at hm0_0
        replace hP3_10 := hE150.ow hP3_10
        clear hE150
        refine WL_step (dd := none) rfl rfl rfl (Y_storeW rfl rfl tb_ag45 rfl hm6_2 rfl (by exact one_ln (SlT.one hp6_1)) (fun W151 hG152 hm153 => ?_))
        replace hB := below_grown hB hG152 (Nat.le_refl _) (fun j hj => by cases hj; exact lo_b6_2)
        replace hm0_0 := At.grownAt hm0_0 hm6_2 hG152 (by decide)
        replace hP3_10 := OwT.grownAt hP3_10 hm6_2 hG152 (by decide)
        clear hG152 hm6_2
        have hm6_2 := hm153
        clear hm153
        refine WL_nil ?_
        refine hK147 _ _ ?_
        clear hK147 K146
        refine WC_seq (fun K154 hK155 => ?_)
        refine WC_region ?_
        refine WL_val (dd := some 45) rfl rfl rfl (r_fieldAddr (b := _) (o := _) rfl tb_fo45_0) ?_
        refine WL_val (dd := some 46) rfl rfl rfl (r_load2 rfl tb_ag42 (At.cell hm6_2 rfl) (At.cell hm6_2 rfl)) ?_
        refine WL_val (dd := some 47) rfl rfl rfl (r_fieldAddr (b := _) (o := _) rfl tb_fo24_1) ?_
        refine WL_val (dd := some 48) rfl rfl rfl (r_load1 (v := .int .i64 _) rfl tb_sc3 (At.cell hm0_0 rfl)) ?_
        refine WL_call (dd := some 49) rfl rfl rfl (r_call2 tb_c26 (v0 := .agg #[_, _]) rfl (v1 := .int .i64 _) rfl) (C_cube_Text (vs.getD k lv0).c.m (vs.getD k lv0).c.v _ _ hb1.1 hb1.2) (fun v7_4 W156 hE157 hP7_4 => ?_)
        have hsz158 := (Below.size hB)
        replace hB := below_ext hB hE157 (Nat.le_refl _)
        replace hm0_0 := hE157.at hm0_0
        replace hP3_10 := hE157.ow hP3_10
        replace hm6_2 := hE157.at hm6_2
        clear hE157
        rw [if_pos hrb] at hP7_4
        obtain rfl := hP7_4
        clear hsz158
        refine WL_val (dd := some 44) rfl rfl rfl (r_move (v := .tuple #[.string _, .int .i64 0]) rfl) ?_
        refine WL_val (dd := some 50) rfl rfl rfl (r_ext2_0 (h := rfl)) ?_
        refine WL_val (dd := some 51) rfl rfl rfl (r_ext2_1 (h := rfl)) ?_
        refine WL_val (dd := some 7) rfl rfl rfl (r_assign (v := .string _) rfl) ?_
        refine WL_val (dd := some 8) rfl rfl rfl (r_assign (v := .int .i64 0) rfl) ?_
        refine WL_nil ?_
        refine hK155 _ _ ?_
        clear hK155 K154
        refine WC_seq (fun K159 hK160 => ?_)
        refine WC_region ?_
        refine WL_val (dd := some 52) rfl rfl rfl (r_move (v := .string _) rfl) ?_
        refine WL_val (dd := some 53) rfl rfl rfl (r_move (v := .string _) rfl) ?_
        refine WL_val (dd := some 54) rfl rfl rfl (r_addW rfl rfl (by simp only [List.length_append, List.length_cons, List.length_nil, texC_len]; omega)) ?_
        refine WL_val (dd := some 55) rfl rfl rfl (r_addW rfl rfl (by simp only [List.length_append, List.length_cons, List.length_nil, texC_len]; omega)) ?_
        refine WL_val (dd := some 4) rfl rfl rfl (r_assign (v := .string _) rfl) ?_
        refine WL_nil ?_
        refine hK160 _ _ ?_
        clear hK160 K159
        refine WC_seq (fun K161 hK162 => ?_)
        refine WC_seq (fun K163 hK164 => ?_)
        refine WC_region ?_
        refine WL_val (dd := some 56) rfl rfl rfl (r_fieldAddr (b := _) (o := _) rfl tb_fo45_1) ?_
        refine WL_val (dd := some 57) rfl rfl rfl (r_load1 (v := (vs.getD k lv0).o) rfl tb_sc43 (At.cell hm6_2 rfl)) ?_
        refine WL_val (dd := some 58) rfl rfl rfl (r_lenS (v := (vs.getD k lv0).o) rfl (Below.slT hB hp6_1) tb_el43) ?_
        refine WL_val (dd := some 59) rfl rfl rfl (r_move (v := .int .i64 0) rfl) ?_
        refine WL_nil ?_
        refine hK164 _ _ ?_
        clear hK164 K163
        refine WC_block ?_
        refine WC_loop (σ := (Nat)) [4, 10, 59, 60, 61, 62, 63, 64, 65, 66, 67, 68, 69] (fun j => [(59, .int .i64 (j : Int)), (4, keyW ((printTo T k ++ (texC (vs.getD k lv0).c.m (vs.getD k lv0).c.v T.ni.toNat ++ [32])) ++ outsT ((T.ls.getD k ln0).os.take j)))]) (fun j W => (Below w.heap.size w W) ∧ (At W b0_0 _ 24) ∧ (OwT encW 1 9 W w.heap.size v3_10 _) ∧ (At W b6_2 _ 45) ∧ (j ≤ (T.ls.getD k ln0).os.length) ∧ (True)) (fun j => (T.ls.getD k ln0).os.length - j) (0) ⟨rfl, outs_0, trivial⟩ ⟨hB, hm0_0, hP3_10, hm6_2, (Nat.zero_le _), trivial⟩ ?_
        clear hB hm0_0 hP3_10 hm6_2
        rintro j g166 W165 ⟨hB, hm0_0, hP3_10, hm6_2, hj, _⟩ J167 hJ168
        refine WC_seq (fun K169 hK170 => ?_)
        refine WC_region ?_
        refine WL_val (dd := some 60) rfl rfl rfl (r_lss rfl rfl) ?_
        refine WL_nil ?_
        refine hK170 _ _ ?_
        clear hK170 K169
        refine WC_seq (fun K171 hK172 => ?_)
        refine WC_cond (b := _) rfl (fun hc2 => ?_) (fun hc2 => ?_)
        ·
          try with_reducible replace hc2 := dec_t hc2
          refine WC_skip ?_
          refine hK172 _ _ ?_
          clear hK172 K171
          refine WC_seq (fun K173 hK174 => ?_)
          refine WC_block ?_
          refine WC_seq (fun K175 hK176 => ?_)
          refine WC_region ?_
          refine WL_val (dd := some 61) rfl rfl rfl (r_idxS (v := (vs.getD k lv0).o) rfl (Below.slT hB hp6_1) rfl tb_el43 (by omega) (by first | omega | (simp only [dashL_len, kindsL_len, lits_len8, texI_len]; omega))) ?_
          refine WL_val (dd := some 62) rfl rfl rfl (r_load1 (v := .int .i64 _) rfl tb_sc3 (SlT.cell (Below.slT hB hp6_1) encI_len 0 (by omega) (by first | omega | (simp only [dashL_len, kindsL_len, lits_len8, texI_len]; omega)) 0 rfl)) ?_
          refine WL_val (dd := some 10) rfl rfl rfl (r_assign (v := .int .i64 _) rfl) ?_
          refine WL_nil ?_
          refine hK176 _ _ ?_
          clear hK176 K175
          have hx : 0 ≤ (T.ls.getD k ln0).os.getD (j : Int).toNat 0 ∧ (T.ls.getD k ln0).os.getD (j : Int).toNat 0 < 3 := hr3 _ (getD_memL (d := 0) (show j < (T.ls.getD k ln0).os.length by omega))
          obtain ⟨q, hq⟩ := Int.eq_ofNat_of_zero_le hx.1
          have hq1 : (T.ls.getD k ln0).os.getD (j : Int).toNat 0 + 1 = ((q + 1 : Nat) : Int) := by omega
          have hq3 : q < 3 := by omega
          have hol2 := outs_len_k (os := (T.ls.getD k ln0).os) (k := j)
          refine WC_region ?_
          refine WL_val (dd := some 63) rfl rfl rfl (r_move (v := .string _) rfl) ?_
          refine WL_val (dd := some 64) rfl rfl rfl (r_move (v := .int .i64 _) rfl) ?_
          refine WL_val (dd := some 65) rfl rfl rfl (r_move (v := .int .i64 _) rfl) ?_
          refine WL_val (dd := some 66) rfl rfl rfl (r_addI rfl rfl (by omega) (by omega)) ?_
          refine WL_val (dd := some 67) rfl rfl rfl (r_sliceW (a := [48, 49, 45]) (i := q) (j := q + 1) rfl (congrArg (Value.int .i64) hq) (congrArg (Value.int .i64) hq1) Tryd.underlying9 (by omega) (by simp; omega)) ?_
          refine WL_val (dd := some 68) rfl rfl rfl (r_addW rfl rfl (by simp only [List.length_append, List.length_cons, List.length_nil, texC_len, List.length_take, List.length_drop]; omega)) ?_
          refine WL_val (dd := some 4) rfl rfl rfl (r_assign (v := .string _) rfl) ?_
          refine WL_nil ?_
          refine hK174 _ _ ?_
          clear hK174 K173
          refine WC_region ?_
          refine WL_val (dd := some 69) rfl rfl rfl (r_addI rfl rfl (by omega) (by omega)) ?_
          refine WL_val (dd := some 59) rfl rfl rfl (r_move (v := .int .i64 _) rfl) ?_
          refine WL_nil ?_
          refine hJ168 _ _ (j + 1) ?_ ?_ ?_ ?_
          · repeat (first | exact agree.mask _ _ _ | refine agree.updo ?_ rfl _ | refine agree.updL ?_ _ rfl | refine agree.maskS rfl ?_)
          · exact ⟨rfl, line_stepM (by omega) hq hq3, trivial⟩
          · exact ⟨hB, hm0_0, hP3_10, hm6_2, (by omega), trivial⟩
          · first | omega | (dsimp only; omega)
        ·
          try with_reducible replace hc2 := dec_f hc2
          refine WC_exit ?_
          refine hK162 _ _ ?_
          clear hK172 K171
          clear hJ168 J167
          clear hK162 K161
          have hol2 := outs_len_k (os := (T.ls.getD k ln0).os) (k := j)
          refine WC_region ?_
          refine WL_val (dd := some 70) rfl rfl rfl (r_move (v := .string _) rfl) ?_
          refine WL_val (dd := some 71) rfl rfl rfl (r_addW rfl rfl (by simp only [List.length_append, List.length_cons, List.length_nil, texC_len]; omega)) ?_
          refine WL_val (dd := some 4) rfl rfl rfl (r_assign (v := .string _) rfl) ?_
          refine WL_nil ?_
          refine hK145 _ _ ?_
          clear hK145 K144
          refine WC_region ?_
          refine WL_val (dd := some 72) rfl rfl rfl (r_addI rfl rfl (by omega) (by omega)) ?_
          refine WL_val (dd := some 40) rfl rfl rfl (r_move (v := .int .i64 _) rfl) ?_
          refine WL_nil ?_
          refine hJ139 _ _ (k + 1) ?_ ?_ ?_ ?_
          · repeat (first | exact agree.mask _ _ _ | refine agree.updo ?_ rfl _ | refine agree.updL ?_ _ rfl | refine agree.maskS rfl ?_)
          · exact ⟨rfl, print_stepM hck (by omega), trivial⟩
          · exact ⟨hB, hm0_0, hP3_10, (by omega), trivial⟩
          · first | omega | (dsimp only; omega)
      ·
        try with_reducible replace hc1 := dec_f hc1
        refine WC_exit ?_
        refine hK133 _ _ ?_
        clear hK143 K142
        clear hJ139 J138
        clear hK133 K132
        refine WC_seq (fun K177 hK178 => ?_)
        have hpl := printTo_len hr k (by omega)
        refine WC_region ?_
        refine WL_val (dd := some 73) rfl rfl rfl (r_move (v := .string _) rfl) ?_
        refine WL_val (dd := some 74) rfl rfl rfl (r_addW rfl rfl (by simp only [List.length_append, List.length_cons, List.length_nil]; omega)) ?_
        refine WL_val (dd := some 2) rfl rfl rfl (r_assign (v := .string _) rfl) ?_
        refine WL_val (dd := some 3) rfl rfl rfl (r_assign (v := .int .i64 0) rfl) ?_
        refine WL_nil ?_
        refine hK178 _ _ ?_
        clear hK178 K177
        refine WC_ret ?_
        repeat (first | refine thenQ_ret ?_ | refine blockQ_ret ?_)
        refine ret_tt (v := .string _) rfl (v1 := .int .i64 0) rfl ?_
        refine ⟨hB, ?_⟩
        obtain rfl : k = T.ls.length := by omega
        rw [if_pos hr]; rfl

end Go.Proofs.YtnkaebjaeaecmaaDoor
